/- Contracts of the walk, part 37. -/
import Derived.Deep.CutRange
import Derived.Test.YtmiknfneeipkeaaGreatS36
import Derived.Test.YtmiknfneeipkeaaGreatS34
import Derived.Test.YtmiknfneeipkeaaGreatS28
import Derived.Test.YtmiknfneeipkeaaGreatS33
import Derived.Test.YtmiknfneeipkeaaGreatS24
import Derived.Test.YtmiknfneeipkeaaGreatS35
open Go.Lib (hid)
namespace Go.Proofs.YtmiknfneeipkeaaGreat
open Go.RowKit Go.MapKept Go.ChangeMaps Go.Shelf Go.Sort
attribute [local go_sem] wext_cell
theorem row_id {w:World} {g q d:Nat} {L:List ID} (hr:w.ownsRow 0 36 2 (.slice (some ⟨g,0,none⟩) q d) q (L.flatMap encID)) (hq:L.length=q) {k:Nat} (hk:k<q) {x:ID} (hx:L.getD k id0=x):
 w.cell? ⟨g,k*2,none⟩=some (.int .u64 x.1)/\w.cell? ⟨g,k*2+1,none⟩=some (.int .i64 x.2):=by
 subst hx
 have key:∀ i,i<2->w.cell? ⟨g,k*2+i,none⟩=(encID (L.getD k id0))[i]? :=fun i hi=>by
  rw [hr.cellAt (k*2+i) (by omega),flat_at encID_len id0 L k i (by omega) hi]
 exact ⟨key 0 (by omega),key 1 (by omega)⟩
theorem cx_cell {w:World} {g o:Nat} {T:List CH} (h:(cxOb (some ⟨g,o,none⟩) T).holds w) {j:Nat} (hj:j<T.length) {i:ID} {e:BS} (he:T.getD j ch0=(i,e)):g<w.heap.size/\w.cell? ⟨g,o+j*3+2,none⟩=some (.slice e.d.A e.bs.length e.d.cap):=by
 obtain ⟨g',o',hA,h1,_,_,h2,_⟩:=cx_at h hj he;injection hA with hA;injection hA with e1 e2;subst e1 e2;exact ⟨h1,h2⟩
theorem find_at {S:List CH} (ha:AscI (S.map (·.1))) {i:ID} {k:Nat} (hk:k<S.length) (hi:(S.map (·.1)).getD k id0=i) (hs:(firstR S i).isSome=true):firstR S i=some (S.getD k ch0):=by
 obtain ⟨x,hx⟩:=Option.isSome_iff_exists.1 hs;obtain ⟨h1,_,hm⟩:=firstR_id hx;obtain ⟨j,hj,rfl⟩:=List.mem_iff_getElem.1 hm;have e1:∀ n (hn:n<S.length),(S.map (·.1)).getD n id0=S[n].1:=fun n hn=>by simp [List.getD_eq_getElem?_getD,hn]
 have hjk:j=k:=by
  rcases Nat.lt_trichotomy j k with h | h | h
  · have:=asc_getD ha (by rw [List.length_map];exact hk) h;rw [e1 j hj,h1,hi] at this;simp [ltID] at this
  · exact h
  have:=asc_getD ha (by rw [List.length_map];exact hj) h;rw [e1 j hj,h1,hi] at this;simp [ltID] at this
 subst hjk;rw [hx];simp [List.getD_eq_getElem?_getD,hj]
section
variable {b:Nat} {w0 w w':World} {l:List Ob}
abbrev RstP (bs:List UInt8) (i:ID) (b:Nat) (w0:World) (l:List Ob) (e:Ending) (w':World):Prop:=
 (∃ (ms ys:List Man) (S:List CH) (m:Man) (rA:Option Addr) (rc:Nat) (T:List CH) (C:Option Addr) (cc:Nat),VolOk bs/\opnV bs=some (ms,pcs S)/\ConM ms ys/\m∈ys/\keyM m=i/\T.map (·.1)=firsts m.ids/\(∀ e∈T,∃ x,firstR S e.1=some x/\x.2.bs=e.2.bs)/\e= .returned (.tuple #[.agg #[.int .i64 m.size,.slice rA m.ids.length rc],.slice C T.length cc,.int .i64 0])/\SW b w0 (rowOb 42 3 (.slice C T.length cc) T.length (T.flatMap encCH)::bsOb T::msOb [⟨m.size,rA,m.ids.length,rc⟩] [m]::l) w')∨
 (∃ (ms ys:List Man) (S:List CH),VolOk bs/\opnV bs=some (ms,pcs S)/\ConM ms ys/\(∀ m∈ys,keyM m≠i)/\e= .returned (.tuple #[.agg #[.int .i64 0,.slice none 0 0],.slice none 0 0,.int .i64 413])/\SW b w0 l w')∨
 (¬ VolOk bs/\e= .returned (.tuple #[.agg #[.int .i64 0,.slice none 0 0],.slice none 0 0,.int .i64 412])/\SW b w0 l w')
set_option maxRecDepth 100000 in
set_option maxHeartbeats 16000000 in
theorem Restore_any (h:SW b w0 l w) {A:Option Addr} {c:Nat} {bs:List UInt8} (hr:rsOb A bs∈l) (hv:(A=none->c=0)/\bs.length<=c/\bs.length<=9223372036854775807) (hbl:bs.length<=1000000000) (hS:∀ ms k,rdMans bs=some (ms,k)->ms.length<=600000) (hP:∀ ms S,opnV bs=some (ms,pcs S)->AllR (setR (idsOf ms)) S->(packP (selR (setR (idsOf ms)) S)).length<=1048576) (s z:Int):
 Calls Tryz.prog 22 #[.slice A bs.length c,.agg #[.int .u64 s,.int .i64 z]] w (RstP bs (s,z) b w0 l):=by
 have S0:=hid ((h.newCell 36 #[.int .u64 s,.int .i64 z]).newCellAt 33 #[.int .i64 0,.slice none 0 0] (H:=w.heap.size+1) (by simp));obtain ⟨gR,HGR⟩:∃ x,Hid (w.heap.size+1=x):=⟨_,rfl⟩;obtain ⟨gb,HGB⟩:∃ x,Hid (w.heap.size=x):=⟨_,rfl⟩;obtain ⟨W0,HW0⟩:∃ W,Hid ((w.alloc (.cells #[.int .u64 s,.int .i64 z] 36)).alloc (.cells #[.int .i64 0,.slice none 0 0] 33)=W):=⟨_,rfl⟩;rw [HGR.out,HGB.out,HW0.out] at S0;have HM:=hid (read_any S0.out (.tail _ (.tail _ hr)) hv hbl hS hP)
 have HLM:Hid (∀ ms S,opnV bs=some (ms,pcs S)->ms.length<=600000):=fun ms S h=>by
  unfold opnV at h;split at h
  · rename_i ms' k' h1
    obtain ⟨x,_,e⟩:=Option.map_eq_some_iff.1 h;injection e with e1 _;subst e1;exact hS _ _ h1
  cases h
 clear h hr hv hS hP;obtain ⟨ii,gi,gz0,gz1,gz2⟩:=info_parts info42;go_enter Tryz.func22,Tryz.ntmps22;go_upto_region 1 with fail
 rw [HW0.out,HGR.out,HGB.out];clear HGR HGB HW0;go_wp2_with (go_at_call 61;(with_reducible refine HM.out.mono ?_);refine halt_ ?_)
 rintro e w1 (⟨ms,S,Y,D,C,d,dc,hvo,hop,hcon,hok,hSl,rfl,t1⟩ | ⟨hno,⟨v1,v2,rfl⟩,t1⟩)
 · have HVO:=hid hvo;have HOP:=hid hop;have HCO:=hid hcon;have HOK:=hid hok;have hSl2:S.length<=1000000000:=by omega
   have hY:Y.length<=600000:=by
    have h1:=conM_len hcon;have h2:=HLM.out _ _ hop;rw [List.length_map] at h1;omega
   have S1:=hid t1
   have HIX:Hid (Calls Tryz.prog 63 #[.slice D Y.length d,.func (.func 64) #[] #[vPtr gb]] w1 (IxC (Y.map cnOf) (s,z) b w0 (rowOb 85 4 (.slice D Y.length d) Y.length ((Y.map cnOf).flatMap encCN)::msOb (Y.map (·.1)) (Y.map (·.2))::cxOb C S::cellOb gR 33 #[.int .i64 0,.slice none 0 0]::cellOb gb 36 #[.int .u64 s,.int .i64 z]::l))):=by
    have h1:=IndexC_any (L:=Y.map cnOf) (D:=D) (d:=d) (gb:=gb) (s:=s) (z:=z) S1.out (.tail _ (.tail _ (.tail _ (.tail _ (.head _))))) (by rw [List.length_map];exact .head _) (by rw [List.length_map];omega);rw [List.length_map] at h1;exact h1
   clear hvo hop hcon hok t1 HM S0 hSl;go_wp2_with (go_at_call 63;(with_reducible refine HIX.out.mono ?_);refine halt_ ?_)
   rintro e w2 ⟨t2,⟨k,hk,rfl,hkx⟩ | ⟨hall,rfl⟩⟩
   · rw [List.length_map] at hk;obtain ⟨⟨⟨rz,rA,rl,rc⟩,m⟩,HPK⟩:∃ p,Hid (Y.getD k (mr0,man0)=p):=⟨_,rfl⟩
     have hcn:(Y.map cnOf).getD k cn0=cnOf (⟨rz,rA,rl,rc⟩,m):=by
      rw [<- HPK.out];simp [List.getD_eq_getElem?_getD,List.getElem?_eq_getElem hk]
     have HKEY:Hid (keyM m=(s,z)):=by rw [hcn] at hkx;exact hkx
     have hg1:(Y.map (·.1)).getD k mr0=⟨rz,rA,rl,rc⟩:=by
      have:(Y.map (·.1)).getD k mr0=(Y.getD k (mr0,man0)).1:=by simp [List.getD_eq_getElem?_getD,List.getElem?_eq_getElem hk]
      rw [this,HPK.out]
     have hg2:(Y.map (·.2)).getD k man0=m:=by
      have:(Y.map (·.2)).getD k man0=(Y.getD k (mr0,man0)).2:=by simp [List.getD_eq_getElem?_getD,List.getElem?_eq_getElem hk]
      rw [this,HPK.out]
     have hmem:m∈Y.map (·.2):=by rw [<- hg2];exact getD_mem _ _ _ (by rw [List.length_map];exact hk)
     have hmo:=(opnV_asc HOP.out).2 m ((HCO.out.2 m).1 hmem);have HASC:=hid (opnV_asc HOP.out).1;have HMO:=hid hmo;have HMEM:=hid hmem;have HAL:=hid (volOk_at HVO.out HOP.out HCO.out).2.1;have HIN:Hid (∀ i∈firsts m.ids,(firstR S i).isSome=true):=fun i hi=>HAL.out i ((setR_mem _ _).2 (List.mem_flatMap.2 ⟨m,(HCO.out.2 m).1 hmem,(firsts_mem _ _).1 hi⟩));have hml:=manE_len hmo.1;have hfl:=firsts_len m.ids;have S2:=hid t2;obtain ⟨hm1,hm2⟩:=S2.out.get 1 (o:=msOb (Y.map (·.1)) (Y.map (·.2))) rfl;obtain ⟨l1,l2,l3,_⟩:=hm2 k (by rw [List.length_map];exact hk);rw [hg1,hg2] at l1 l2;rw [hg1] at l3;simp only at l1 l2 l3;subst l1 l2;have hrow:=S2.out.get 0 (o:=rowOb 85 4 (.slice D Y.length d) Y.length ((Y.map cnOf).flatMap encCN)) rfl;obtain ⟨gD,d9,hD⟩:=own_some hrow (by omega);injection hD with e1 e2 e3;subst e1;subst e3;clear e2;obtain ⟨q0,q1,q2,q3⟩:=row_cn hrow (by simp) hk hcn;simp only [cnOf] at q0 q1 q2 q3;have S3:Hid (SW b w0 (cellOb w2.heap.size 33 #[.int .i64 m.size,.slice rA m.ids.length rc]::msOb (Y.map (·.1)) (Y.map (·.2))::cxOb C S::cellOb gR 33 #[.int .i64 0,.slice none 0 0]::l) (w2.alloc (.cells #[.int .i64 m.size,.slice rA m.ids.length rc] 33))):=SW.few (pre:=[_,_,_,_,_,_]) (S2.out.newCell 33 #[.int .i64 m.size,.slice rA m.ids.length rc]) [0,2,3,4] (n:=6) rfl (by decide) (by decide);have HG1:=hid hg1;have HG2:=hid hg2
     have hk2:k<(Y.map (·.2)).length:=by rw [List.length_map];exact hk
     clear hcn hkx hmem hmo hrow hm1 hm2 S1 S2 t2 HIX hg1 hg2 q0 q1;go_upto_region 8 with fail
     obtain ⟨w3,HW3⟩:∃ W,Hid (w2.alloc (.cells #[.int .i64 m.size,.slice rA m.ids.length rc] 33)=W):=⟨_,rfl⟩;obtain ⟨gm,HGM⟩:∃ x,Hid (w2.heap.size=x):=⟨_,rfl⟩;rw [HW3.out,HGM.out] at S3 |-; clear HW3 HGM q2 q3;have c0:=(S3.out.cell 0 rfl).cell 0;have c1:=(S3.out.cell 0 rfl).cell 1;have HMI:=hid (Missing_any S3.out (.tail _ (.head _)) hk2 HG2.out HG1.out HMO.out.1 HMO.out.2);go_wp2_with (go_at_call 65;(with_reducible refine HMI.out.mono ?_);refine halt_ ?_)
     rintro e w4 ⟨D2,d2,rfl,t4⟩;obtain ⟨F,HF⟩:∃ F,Hid (firsts m.ids=F):=⟨_,rfl⟩;rw [HF.out] at t4 HIN hfl |-; have S4:Hid (SW b w0 (rowOb 42 3 (.slice none 0 0) 0 []::bsOb []::rowOb 36 2 (.slice D2 F.length d2) F.length (F.flatMap encID)::cellOb gm 33 #[.int .i64 m.size,.slice rA m.ids.length rc]::msOb (Y.map (·.1)) (Y.map (·.2))::cxOb C S::cellOb gR 33 #[.int .i64 0,.slice none 0 0]::l) w4):=SW.front (pre:=[_,_]) (SW.bufsBs (SW.noBufs (t4.newRow 42 3)) (fun e he=>by cases he)) [1,0] (n:=2) rfl (by decide);clear t4 HMI S3 c0 c1;go_wp2_with fail
     go_loopw [14,49] (fun s14 s49 wr=>∃ (j:Nat) (T:List CH) (B:Option Addr) (bc:Nat),j<=F.length/\s49= .int .i64 (j:Int)/\s14= .slice B j bc/\Hid (T.map (·.1)=F.take j)/\Hid (∀ e∈T,∃ x,firstR S e.1=some x/\x.2.bs=e.2.bs)/\SW b w0 (rowOb 42 3 (.slice B j bc) j (T.flatMap encCH)::bsOb T::rowOb 36 2 (.slice D2 F.length d2) F.length (F.flatMap encID)::cellOb gm 33 #[.int .i64 m.size,.slice rA m.ids.length rc]::msOb (Y.map (·.1)) (Y.map (·.2))::cxOb C S::cellOb gR 33 #[.int .i64 0,.slice none 0 0]::l) wr) (fun _ s49 _=>F.length-(intOf s49).toNat)
     case atStart=>exact ⟨0,[],none,0,Nat.zero_le _,rfl,rfl,rfl,(fun e he=>by cases he),S4.out⟩
     obtain ⟨j,T,B,bc,hj,rfl,rfl,HT,HTX,hs⟩:=hrel;have S5:=hid hs;clear hs S4;by_cases hlt:j<F.length
     · obtain ⟨⟨i1,i2⟩,HI⟩:∃ x,Hid (F.getD j id0=x):=⟨_,rfl⟩;have hrow:=S5.out.get 2 (o:=rowOb 36 2 (.slice D2 F.length d2) F.length (F.flatMap encID)) rfl;obtain ⟨gF,d9,hD⟩:=own_some hrow (by omega);injection hD with e1 e2 e3;subst e1;subst e3;clear e2;obtain ⟨q0,q1⟩:=row_id hrow rfl hlt HI.out;simp only at q0 q1;have HSM:=HIN.out (i1,i2) (by rw [<- HI.out];exact getD_mem _ _ _ hlt);have HSOME:=hid HSM;have HTK:Hid (F.take (j+1)=F.take j++[(i1,i2)]):=by rw [Hid,take_id hlt,HI.out]
       have S6:=hid (S5.out.newCell 36 #[.int .u64 i1,.int .i64 i2]);clear hrow HSM S5;go_upto_region 15 with fail
       obtain ⟨w5,HW5⟩:∃ W,Hid (wr.alloc (.cells #[.int .u64 i1,.int .i64 i2] 36)=W):=⟨_,rfl⟩;obtain ⟨gX,HGX⟩:∃ x,Hid (wr.heap.size=x):=⟨_,rfl⟩;rw [HW5.out,HGX.out] at S6 |-; clear HW5 HGX q0 q1;have b0:=(S6.out.cell 0 rfl).cell 0;have b1:=(S6.out.cell 0 rfl).cell 1;have HB:=hid (BsC_any w5.heap.size S C dc i1 i2 w5 (S6.out.get 6 (o:=cxOb C S) rfl).1 HASC.out (by omega));go_wp2_with (go_at_call 66;(with_reducible refine HB.out.mono ?_);refine halt_ ?_)
       rintro e w6 ⟨hb6,⟨n,hn,hnx,rfl⟩ | ⟨n,hnx,rfl⟩⟩
       · rw [List.length_map] at hn;obtain ⟨⟨si,ev⟩,HSN⟩:∃ x,Hid (S.getD n ch0=x):=⟨_,rfl⟩;have HFI:=hid (find_at HASC.out hn hnx HSOME.out);have S7:=hid (S6.out.on hb6);obtain ⟨gT,o,rfl,hgT,_,_,c2,_⟩:=cx_at (S7.out.get 6 (o:=cxOb C S) rfl) hn HSN.out;have hS7d:=S7.out.drew;obtain ⟨gT',o',hA',_,_,_,_,hbs⟩:=cx_at (hS7d.get 6 (o:=cxOb (some ⟨gT,o,none⟩) S) rfl) hn HSN.out;clear hA' hS7d hnx b0 b1 HB S6 hb6
         have hel:ev.bs.length<=8192:=by
          obtain ⟨h1,h2,_⟩:=firstR_id HFI.out;have h3:=(firsts_mem m.ids (i1,i2)).1 (by rw [HF.out, <- HI.out];exact getD_mem _ _ _ hlt);have h4:=okI_of HMO.out _ h3;rw [HSN.out] at h2;have h5:((ev.bs.length:Nat):Int)=i2:=congrArg Prod.snd h2;have h6:=h4.2.1;simp only at h6;omega
         have HCL:=hid (CloneB_any ev.d.A ev.d.cap ev.bs w6.drew hbs.1.sb (by omega));have HEL:Hid (ev.bs.length=ev.bs.length):=rfl;clear hbs HEL;go_upto_region 16 with fail
         refine wp_region_held_tail [(0,true),(1,true),(2,true),(3,true),(4,true),(5,true),(6,true),(7,false),(8,true),(9,false)] (fun w'=>SW b w0 (cellOb gX 36 #[.int .u64 i1,.int .i64 i2]::rowOb 42 3 (.slice B j bc) j (T.flatMap encCH)::bsOb T::rowOb 36 2 (.slice (some ⟨gF,0,none⟩) F.length d2) F.length (F.flatMap encID)::cellOb gm 33 #[.int .i64 m.size,.slice rA m.ids.length rc]::msOb (Y.map (·.1)) (Y.map (·.2))::cxOb (some ⟨gT,o,none⟩) S::cellOb gR 33 #[.int .i64 0,.slice none 0 0]::l) w') (by kernel_rfl) (fun _ _ d _ _ h=>by cases d<;>exact h) (by kernel_rfl) (S7.out.drew) ?_;simp only [picked,List.map_cons,List.map_nil,List.getD_cons_succ,List.getD_cons_zero]
         iterate 7
          (refine wpHeld_take (v:=?_) (Or.inl ⟨by rfl,?_⟩) ?_
           rotate_left
           · (intro w' hSw;have v0:w'.cell? ⟨gX,0,none⟩=some (.int .u64 i1):=(hSw.cell 0 rfl).cell 0;have v1:w'.cell? ⟨gX,1,none⟩=some (.int .i64 i2):=(hSw.cell 0 rfl).cell 1;have v2:=cx_cell (hSw.get 6 (o:=cxOb (some ⟨gT,o,none⟩) S) rfl) hn HSN.out;have v3:=v2.1;have v4:=v2.2;go_simp;try with_reducible rfl)
           try simp only [Act.put,List.setIfInBounds_toArray,List.set])
         refine wpHeld_run (fun K hK=>?_);go_simp;go_at_call 68
         (with_reducible refine HCL.out.mono ?_)
         rintro e w7 ⟨⟨dA,dl,dk⟩,rfl,hrb,hfr,hb7⟩;have S8:=hid (SW.newBuT S7.out.drew hb7 hrb hfr);clear hrb hfr hb7 HCL;try simp only [vB]
         go_wp2_with fail
         refine hK.out _ _ S8.out.tail ?_;clear hK K;try simp only [Act.put,List.setIfInBounds_toArray,List.set]
         (refine wpHeld_take (v:=?_) (Or.inl ⟨by rfl,?_⟩) ?_
          rotate_left
          · (intro w' hSw;have v0:w'.cell? ⟨gX,0,none⟩=some (.int .u64 i1):=(hSw.cell 0 rfl).cell 0;have v1:w'.cell? ⟨gX,1,none⟩=some (.int .i64 i2):=(hSw.cell 0 rfl).cell 1;have v2:=cx_cell (hSw.get 6 (o:=cxOb (some ⟨gT,o,none⟩) S) rfl) hn HSN.out;have v3:=v2.1;have v4:=v2.2;go_simp;try with_reducible rfl)
          try simp only [Act.put,List.setIfInBounds_toArray,List.set])
         refine wpHeld_run (fun K hK=>?_);have S9:=hid (S8.out.newCell 42 #[.int .u64 i1,.int .i64 i2,.slice dA dl dk]);go_simp;refine hK.out _ _ S9.out.tail.tail ?_;clear hK K;try simp only [Act.put,List.setIfInBounds_toArray,List.set]
         refine wpHeld_nil ?_;simp only [List.length_cons,List.length_nil,List.drop_succ_cons,List.drop_zero];have SB:=hid S9.out;go_wp2_with (at_builtin;(refine wpList_rowS (t:=23) (e:=42) (size:=3) (bytes:=40) (i:=ii) SB.out 3 rfl (by rfl) (.tmp 59) (.tmp 68) (by rfl) Tryz.underlying23 gi gz0 gz1 gz2 rfl (by omega) (by rfl) ⟨w7.heap.size,0,none⟩ 1 [.int .u64 i1,.int .i64 i2,.slice dA dl dk] (by rfl) rfl (mthree_new _ _ _ _ _ _ rfl) (encCH_one ((i1,i2),⟨⟨dA,dl,dk⟩,ev.bs⟩)) (by unfold maxLen;omega) (by omega) ?_);refine halt_ ?_)
         intro v8 w8 s8;obtain ⟨g8,c8,rfl⟩:=own_some (s8.get 3 rfl) (by omega)
         have SC:Hid (SW b w0 (rowOb 42 3 (.slice (some ⟨g8,0,none⟩) (j+1) c8) (j+1) ((T++[((i1,i2),(⟨⟨dA,dl,dk⟩,ev.bs⟩:BS))]).flatMap encCH)::bsOb (T++[((i1,i2),(⟨⟨dA,dl,dk⟩,ev.bs⟩:BS))])::rowOb 36 2 (.slice (some ⟨gF,0,none⟩) F.length d2) F.length (F.flatMap encID)::cellOb gm 33 #[.int .i64 m.size,.slice rA m.ids.length rc]::msOb (Y.map (·.1)) (Y.map (·.2))::cxOb (some ⟨gT,o,none⟩) S::cellOb gR 33 #[.int .i64 0,.slice none 0 0]::l) w8):=by
          have h1:=SW.few (pre:=[_,_,_,_,_]) s8 [1,4,3] (n:=5) rfl (by decide) (by decide);have h2:=SW.front (pre:=[_,_]) (SW.bsSnoc h1 (i1,i2)) [1,0] (n:=2) rfl (by decide);rw [Hid,List.flatMap_append];exact h2
         have HT2:Hid ((T++[((i1,i2),(⟨⟨dA,dl,dk⟩,ev.bs⟩:BS))]).map (·.1)=F.take (j+1)):=by rw [Hid,HTK.out,List.map_append,HT.out];rfl
         have HTX2:Hid (∀ e∈T++[((i1,i2),(⟨⟨dA,dl,dk⟩,ev.bs⟩:BS))],∃ x,firstR S e.1=some x/\x.2.bs=e.2.bs):=fun e he=>by
          rcases List.mem_append.1 he with he | he
          · exact HTX.out e he
          rw [List.mem_singleton] at he;rw [he];exact ⟨_,HFI.out,by rw [HSN.out]⟩
         clear s8 SB S9 S8 S7;go_wp2_with fail
         go_roundw
         case rel=>exact ⟨j+1,_,some ⟨g8,0,none⟩,c8,by omega,by go_num,rfl,HT2.out,HTX2.out,SC.out⟩
         simp [intOf];omega
       exfalso
       obtain ⟨x,hx⟩:=Option.isSome_iff_exists.1 HSOME.out;obtain ⟨h1,_,h2⟩:=firstR_id hx;exact hnx (List.mem_map.2 ⟨x,h2,h1⟩)
     obtain rfl:j=F.length:=by omega
     rw [List.take_length] at HT;have htl:T.length=F.length:=by rw [<- HT.out,List.length_map]
     have c0:=(S5.out.cell 3 rfl).cell 0;have c1:=(S5.out.cell 3 rfl).cell 1;have z0:=(S5.out.cell 6 rfl).cell 0;have z1:=(S5.out.cell 6 rfl).cell 1;have f0:=(S5.out.cell 6 rfl).frozen 0;have f1:=(S5.out.cell 6 rfl).frozen 1;have S9:=hid ((S5.out.setAt 6 rfl 0 (.int .i64 m.size)).setAt 6 rfl 1 (.slice rA m.ids.length rc));go_wp2_with fail
     have e0:=(S9.out.cell 6 rfl).cell 0;have e1:=(S9.out.cell 6 rfl).cell 1
     have HSW:Hid (SW b w0 (rowOb 42 3 (.slice B T.length bc) T.length (T.flatMap encCH)::bsOb T::msOb [⟨m.size,rA,m.ids.length,rc⟩] [m]::l) ((wr.setCell ⟨gR,0,none⟩ (.int .i64 m.size)).setCell ⟨gR,1,none⟩ (.slice rA m.ids.length rc))):=by
      rw [Hid,htl];have hM:=S9.out.get 4 (o:=msOb (Y.map (·.1)) (Y.map (·.2))) rfl;have hL:=hM.2 k hk2;rw [HG1.out,HG2.out] at hL
      have h1:=SW.again (o':=msOb [⟨m.size,rA,m.ids.length,rc⟩] [m]) S9.out (o:=msOb (Y.map (·.1)) (Y.map (·.2))) (.tail _ (.tail _ (.tail _ (.tail _ (.head _))))) (fun _ h=>h) ⟨rfl,fun j hj=>by
       obtain rfl:j=0:=by simpa using hj
       exact hL⟩ (fun _ h=>h) (fun i hi=>by
       obtain ⟨j,hj,hp,o,ho⟩:=hi;obtain rfl:j=0:=by simpa using hj
       exact ⟨k,hk2,by rw [HG2.out];exact hp,o,by rw [HG1.out];exact ho⟩)
      exact SW.few (pre:=[_,_,_,_,_,_,_,_]) h1 [1,2,0] (n:=8) rfl (by decide) (by decide)
     refine bodyPost_ret (v:=.tuple #[.agg #[.int .i64 m.size,.slice rA m.ids.length rc],.slice B F.length bc,.int .i64 0]) (by simp [results,Tryz.results22,go_sem,e0,e1,Result.andThen]) rfl ?_;exact .inl ⟨ms,Y.map (·.2),S,m,rA,rc,T,B,bc,HVO.out,HOP.out,HCO.out,HMEM.out,HKEY.out,by rw [HT.out,HF.out],HTX.out,by rw [htl],HSW.out⟩
   have HN:Hid (∀ m∈Y.map (·.2),keyM m≠(s,z)):=fun m hm=>by
    obtain ⟨p,hp,rfl⟩:=List.mem_map.1 hm;exact hall (cnOf p) (List.mem_map.2 ⟨p,hp,rfl⟩)
   have S1:=hid t2;clear hall t2 HIX;have z0:=(S1.out.cell 3 rfl).cell 0;have z1:=(S1.out.cell 3 rfl).cell 1;have f0:=(S1.out.cell 3 rfl).frozen 0;have f1:=(S1.out.cell 3 rfl).frozen 1;have S9:=hid ((S1.out.setAt 3 rfl 0 (.int .i64 0)).setAt 3 rfl 1 (.slice none 0 0));go_wp2_with fail
   have e0:=(S9.out.cell 3 rfl).cell 0;have e1:=(S9.out.cell 3 rfl).cell 1;refine bodyPost_ret (v:=.tuple #[.agg #[.int .i64 0,.slice none 0 0],.slice none 0 0,.int .i64 413]) (by simp [results,Tryz.results22,go_sem,e0,e1,Result.andThen]) rfl ?_;exact .inr (.inl ⟨ms,_,S,HVO.out,HOP.out,HCO.out,HN.out,rfl,S9.out.tail.tail.tail.tail.tail⟩)
 have HNO:=hid hno;have S1:=hid t1;clear hno t1 HM S0;have z0:=(S1.out.cell 0 rfl).cell 0;have z1:=(S1.out.cell 0 rfl).cell 1;have f0:=(S1.out.cell 0 rfl).frozen 0;have f1:=(S1.out.cell 0 rfl).frozen 1;have S9:=hid ((S1.out.setAt 0 rfl 0 (.int .i64 0)).setAt 0 rfl 1 (.slice none 0 0));go_wp2_with fail
 have e0:=(S9.out.cell 0 rfl).cell 0;have e1:=(S9.out.cell 0 rfl).cell 1;refine bodyPost_ret (v:=.tuple #[.agg #[.int .i64 0,.slice none 0 0],.slice none 0 0,.int .i64 412]) (by simp [results,Tryz.results22,go_sem,e0,e1,Result.andThen]) rfl ?_;exact .inr (.inr ⟨HNO.out,rfl,S9.out.tail.tail⟩)
end
end Go.Proofs.YtmiknfneeipkeaaGreat
namespace Go.Proofs.YtmiknfneeipkeaaGreat
open Go.RowKit Go.MapKept Go.ChangeMaps Go.Shelf Go.Sort
def rgOb (A:Option Addr) (ids:List ID):Ob where
 own:=fun _=>False
 rd:=fun i=>0<ids.length/\∃ o,A=some ⟨i,o,none⟩
 holds:=fun w=>RdID w w.heap.size A ids
 stable:=fun w w' h hs hk hp=>by
  obtain ⟨b,o,rfl,hb,_,hc⟩:=h hp;have hB:=hk b (.inr ⟨hp,o,rfl⟩);refine ⟨b,o,rfl,Nat.lt_of_lt_of_le hb hs.2.2.2,by have:=hs.2.2.2;omega,fun j hj i v hv=>?_⟩;rw [<- hc j hj i v hv];simp [World.cell?, hB]
theorem SW.asRg {b:Nat} {w0 w:World} {l:List Ob} (h:SW b w0 l w) {r:MR} {m:Man} (hm:msOb [r] [m]∈l):SW b w0 (rgOb r.A m.ids::l) w:=by
 have hM:=h.1.holds _ hm;exact SW.again (o':=rgOb r.A m.ids) h hm (fun _ h=>h) (hM.2 0 (by simp)).2.2.2 (fun _ h=>h) (fun i hi=>⟨0,by simp,hi.1,hi.2⟩)
section
variable {b:Nat} {w0 w w':World} {l:List Ob}
end
end Go.Proofs.YtmiknfneeipkeaaGreat
namespace Go.Proofs.YtmiknfneeipkeaaGreat
open Go.RowKit Go.MapKept Go.ChangeMaps Go.Shelf Go.Sort
section
variable {b:Nat} {w0 w w':World} {l:List Ob}
end
end Go.Proofs.YtmiknfneeipkeaaGreat
namespace Go.Proofs.YtmiknfneeipkeaaGreat
open Go.RowKit Go.MapKept Go.ChangeMaps Go.Shelf Go.Sort
attribute [local go_sem] wext_cell
section
variable {b:Nat} {w0 w w':World} {l:List Ob}
end
end Go.Proofs.YtmiknfneeipkeaaGreat
namespace Go.Proofs.YtmiknfneeipkeaaGreat
open Go.RowKit Go.MapKept Go.ChangeMaps Go.Shelf Go.Sort
section
variable {b:Nat} {w0 w w':World} {l:List Ob}
end
end Go.Proofs.YtmiknfneeipkeaaGreat
namespace Go.Proofs.YtmiknfneeipkeaaGreat
open Go.RowKit Go.MapKept Go.ChangeMaps Go.Shelf Go.Sort
def FewS (ms:List Man):Prop:=ms.length<=4/\∀ m∈ms,m.ids.length<=3/\∀ i∈m.ids,okID i/\i.2<=9
theorem tnext_lt (L:List Int) (n:Nat) {k:Int} (h:0<k):tnext L n k<k:=by
 by_cases h1:1<k
 · exact (tnext_in L n k).2 h1
 obtain rfl:k=1:=by omega
 have:tnext L n 1=0:=by simp [tnext,foldI]
 omega
section
variable {b:Nat} {w0 w w':World} {l:List Ob}
end
theorem im_row {w:World} {A:Option Addr} {c:Nat} {rs:List MR} {ms:List Man} (hr:w.ownsRow 0 33 2 (.slice A ms.length c) ms.length (rs.flatMap encMR)) (hm:(msOb rs ms).holds w):(imOb A rs ms).holds w:=
 ⟨row_rdM hr hm.1,hm.1,hm.2⟩
theorem cx_row {w:World} {A:Option Addr} {q c:Nat} {S:List CH} (hr:w.ownsRow 0 42 3 (.slice A q c) q (S.flatMap encCH)) (hq:S.length=q) (hb:∀ e∈S,BSok w e.2):(cxOb A S).holds w:=⟨row_rdCH hr hq,hb⟩
theorem few_mans {Ps:List (List BS)} (h:GoodPs Ps):∀ m∈mansT Ps,manE m=0/\m.ids.length<=3/\(0<=m.size/\m.size<=9)/\∀ i∈m.ids,okID i/\i.2<=9:=by
 intro m hm;refine ⟨good_man h m hm,good_ids h m hm,?_,fun i hi=>⟨good_ok h m hm i hi,?_⟩⟩
 · obtain ⟨T,hT,rfl⟩:=List.mem_map.1 hm;have h1:=lenS_le (T:=T) (B:=3) (fun e he=>((h.2 T hT).2 e he).2);have h2:=(h.2 T hT).1;simp only [manT];omega
 obtain ⟨T,hT,rfl⟩:=List.mem_map.1 hm;obtain ⟨e,he,rfl⟩:=List.mem_map.1 hi;have h1:=((h.2 T hT).2 e he).2;show ((e.bs.length:Nat):Int)<=9;omega
theorem chs_few {Ps:List (List BS)} (h:GoodPs Ps):(chsT Ps).length<=9/\∀ e∈chsT Ps,okID e.1/\e.2.bs.length<=5/\e.2∈allT Ps:=by
 constructor
 · have:∀ l:List (List BS),(∀ T∈l,T.length<=3)->(l.flatMap chOfT).length<=3*l.length:=by
    intro l;induction l with
    | nil=>intro _;simp
    | cons a l ih=>
     intro hl;have h1:=ih (fun T hT=>hl T (.tail _ hT));have h2:=hl a (.head _);rw [List.flatMap_cons,List.length_append,List.length_cons,chOfT_len];omega
   have h1:=this Ps (fun T hT=>(h.2 T hT).1);have h2:=h.1;show (Ps.flatMap chOfT).length<=9;omega
 intro e he;obtain ⟨T,hT,he⟩:=List.mem_flatMap.1 he;obtain ⟨x,hx,rfl⟩:=List.mem_map.1 he;have h1:=((h.2 T hT).2 x hx).2;exact ⟨okID_fp _ (by omega),(show x.bs.length<=5 by omega),List.mem_flatMap.2 ⟨T,hT,hx⟩⟩
theorem pack_few {ids:List ID} {T:List CH} (hn:ids.length<=100) (ha:AllR ids T) (hs:∀ i∈ids,i.2<=9):(packP (selR ids T)).length<=1048576:=by
 have hl:∀ e∈selR ids T,(frameP e).length<=50:=fun e he=>by
  obtain ⟨i,hi,rfl⟩:=List.mem_map.1 he;obtain ⟨x,hx⟩:=Option.isSome_iff_exists.1 (ha i hi);obtain ⟨_,h2,_⟩:=firstR_id hx;rw [hx,Option.getD_some];have h3:((x.2.bs.length:Nat):Int)=i.2:=congrArg Prod.snd h2;have h4:=hs i hi;have h5:=putU_ten (v:=x.2.bs.length) (by omega);have h6:=putU_ten (v:=fpSum x.2.bs) (by have:=fpSum_lt x.2.bs;unfold pP at this;omega);rw [frameP];simp only [List.length_append,List.length_singleton];omega
 have hsum:∀ l:List CH,(∀ e∈l,(frameP e).length<=50)->(l.flatMap frameP).length<=50*l.length:=by
  intro l;induction l with
  | nil=>intro _;simp
  | cons a l ih=>
   intro h;have h1:=ih (fun e he=>h e (.tail _ he));have h2:=h a (.head _);rw [List.flatMap_cons,List.length_append,List.length_cons];omega
 have h1:=hsum _ hl;have h2:=selR_len ids T;have h5:=putU_ten (v:=(selR ids T).length) (by omega);have h6:=putU_ten (v:=fpSum (packB (selR ids T))) (by have:=fpSum_lt (packB (selR ids T));unfold pP at this;omega);rw [packP,List.length_append]
 have h7:(packB (selR ids T)).length=4+((selR ids T).flatMap frameP).length+1+(putU (selR ids T).length).length:=by
  simp [packB,packF];omega
 omega
theorem few_pack {ms:List Man} (h:FewS ms) (T:List CH):AllR (setR (idsOf ms)) T->(packP (selR (setR (idsOf ms)) T)).length<=1048576:=fun ha=>by
 have h1:=idsOf_few (B:=3) (fun m hm=>(h.2 m hm).1);have h2:=setR_len (idsOf ms);have h3:=h.1;refine pack_few (by omega) ha (fun i hi=>?_);rw [setR_mem] at hi;obtain ⟨m,hm,hi⟩:=List.mem_flatMap.1 hi;exact ((h.2 m hm).2 i hi).2
def StoR (ms:List Man) (T:List CH) (f:Int) (bs:List UInt8):Prop:=
 (errM ms≠0/\f=errM ms/\bs=[])∨(errM ms=0/\¬ (OneM ms/\AllR (setR (idsOf ms)) T)/\f=411/\bs=[])∨
 (errM ms=0/\OneM ms/\AllR (setR (idsOf ms)) T/\f=0/\∃ ys,ConM ms ys/\bs=volB ys (selR (setR (idsOf ms)) T))
theorem buf_nil {w w':World} (h:Below w.heap.size w w'):Buf w w' ⟨none,0,0⟩ []:=⟨⟨rfl,Nat.le_refl _,(fun _=>rfl),(fun ad e=>by cases e)⟩,(fun g hg=>by cases hg),h⟩
theorem stoB_sum {ms:List Man} {T:List CH} {w:World} {e:Ending} {w':World} (h:StoB ms T w e w'):∃ (d:BD) (bs:List UInt8) (f:Int),e= .returned (.tuple #[.slice d.A d.len d.cap,.int .i64 f])/\Buf w w' d bs/\StoR ms T f bs:=by
 rcases h with ⟨h1,h2,h3⟩ | ⟨h1,h2,h3,h4⟩ | ⟨h1,h2,h3,ys,d,h4,h5,h6⟩
 · exact ⟨⟨none,0,0⟩,[],_,h2,buf_nil h3,.inl ⟨h1,rfl,rfl⟩⟩
 · exact ⟨⟨none,0,0⟩,[],_,h3,buf_nil h4,.inr (.inl ⟨h1,h2,rfl,rfl⟩)⟩
 exact ⟨d,_,_,h5,h6,.inr (.inr ⟨h1,h2,h3,rfl,ys,h4,rfl⟩)⟩
end Go.Proofs.YtmiknfneeipkeaaGreat
namespace Go.Proofs.YtmiknfneeipkeaaGreat
open Go.RowKit Go.MapKept Go.ChangeMaps Go.Shelf Go.Sort
theorem setR_same {a b:List ID} (h:∀ i,i∈a↔i∈b):setR a=setR b:=by
 have key:∀ {x y:List ID},AscI x->AscI y->(∀ i,i∈x↔i∈y)->x=y:=by
  intro x;induction x with
  | nil=>
   intro y _ _ h;cases y with
   | nil=>rfl
   | cons c y=>exact absurd ((h c).2 (.head _)) (by simp)
  | cons c x ih=>
   intro y hx hy h;cases y with
   | nil=>exact absurd ((h c).1 (.head _)) (by simp)
   | cons d y=>
    obtain ⟨x1,x2⟩:=List.pairwise_cons.1 hx;obtain ⟨y1,y2⟩:=List.pairwise_cons.1 hy;have irr:∀ i:ID,ltID i i≠true:=fun i=>by simp [ltID]
    have hcd:c=d:=by
     rcases List.mem_cons.1 ((h c).1 (.head _)) with e | e
     · exact e
     rcases List.mem_cons.1 ((h d).2 (.head _)) with e' | e'
     · exact e'.symm
     exact absurd (ltI_trans (x1 d e') (y1 c e)) (irr c)
    subst hcd;congr 1
    refine ih x2 y2 (fun i=>⟨fun hi=>?_,fun hi=>?_⟩)
    · rcases List.mem_cons.1 ((h i).1 (.tail _ hi)) with e | e
      · exact absurd (x1 i hi) (by rw [e];exact irr c)
      exact e
    rcases List.mem_cons.1 ((h i).2 (.tail _ hi)) with e | e
    · exact absurd (y1 i hi) (by rw [e];exact irr c)
    exact e
 exact key (setR_strict a) (setR_strict b) (fun i=>by rw [setR_mem,setR_mem,h])
theorem selR_fst {ids:List ID} {T:List CH} (ha:AllR ids T):(selR ids T).map (·.1)=ids:=by
 rw [selR,List.map_map];conv=>rhs;rw [<- List.map_id ids]
 refine List.map_congr_left fun i hi=>?_;obtain ⟨x,hx⟩:=Option.isSome_iff_exists.1 (ha i hi);simp only [Function.comp,hx,Option.getD_some,id];exact (firstR_id hx).1
theorem selR_mem2 {ids:List ID} {T:List CH} (ha:AllR ids T):∀ e∈selR ids T,e.1∈ids/\fpOf e.2.bs=e.1/\firstR T e.1=some e:=fun e he=>by
 obtain ⟨i,hi,rfl⟩:=List.mem_map.1 he;obtain ⟨x,hx⟩:=Option.isSome_iff_exists.1 (ha i hi);rw [hx,Option.getD_some];obtain ⟨h1,h2,_⟩:=firstR_id hx;refine ⟨by rw [h1];exact hi,by rw [h2,h1],by rw [h1];exact hx⟩
theorem sel_again {ids:List ID} {T:List CH} (hs:AscI ids) (ha:AllR ids T):AllR ids (selR ids T)/\selR ids (selR ids T)=selR ids T:=by
 have h1:∀ i∈ids,firstR (selR ids T) i=firstR T i:=fun i hi=>by
  obtain ⟨x,hx⟩:=Option.isSome_iff_exists.1 (ha i hi);have hm:x∈selR ids T:=List.mem_map.2 ⟨i,hi,by rw [hx];rfl⟩;obtain ⟨e1,e2,_⟩:=firstR_id hx
  have hsome:(firstR (selR ids T) i).isSome=true:=by
   rw [firstR,List.find?_isSome];exact ⟨x,hm,by rw [rightB,decide_eq_true_eq];exact ⟨e1,e2⟩⟩
  obtain ⟨y,hy⟩:=Option.isSome_iff_exists.1 hsome;obtain ⟨f1,_,fm⟩:=firstR_id hy;have:=(selR_mem2 ha y fm).2.2;rw [hy, <- this,f1]
 refine ⟨fun i hi=>by rw [h1 i hi];exact ha i hi,?_⟩;rw [selR];conv=>rhs;rw [selR]
 exact List.map_congr_left fun i hi=>by rw [h1 i hi]
theorem vol_put {ms ys:List Man} {T:List CH} (hok:∀ m∈ms,ManOk m) (hone:OneM ms) (hc:ConM ms ys) (ha:AllR (setR (idsOf ms)) T) (hl:(packP (selR (setR (idsOf ms)) T)).length<=1048576) (hn:ys.length<18446744073709551616):
 opnV (volB ys (selR (setR (idsOf ms)) T))=some (ys,pcs (selR (setR (idsOf ms)) T))/\VolOk (volB ys (selR (setR (idsOf ms)) T)):=by
 have hy:∀ m∈ys,ManOk m:=fun m hm=>hok m ((hc.2 m).1 hm)
 have hokT:∀ e∈selR (setR (idsOf ms)) T,okCH e=true:=fun e he=>by
  obtain ⟨h1,h2,_⟩:=selR_mem2 ha e he;rw [setR_mem] at h1;obtain ⟨m,hm,hi⟩:=List.mem_flatMap.1 h1;have h3:=okI_of (hok m hm) _ hi;have h4:=chunkB_sound (List.all_eq_true.1 (manE_zero (hok m hm).1).1 _ hi);rw [okCH,decide_eq_true_eq];exact ⟨by omega,by omega,h2⟩
 have hasc:AscI ((selR (setR (idsOf ms)) T).map (·.1)):=by rw [selR_fst ha];exact setR_strict _
 have h1:opnV (volB ys (selR (setR (idsOf ms)) T))=some (ys,pcs (selR (setR (idsOf ms)) T)):=by
  rw [volB,opnV_put ys _ hy hn,decP_put hokT hasc hl];rfl
 have hset:setR (idsOf ys)=setR (idsOf ms):=setR_same (fun i=>by
  simp only [idsOf,List.mem_flatMap];exact ⟨fun ⟨m,hm,hi⟩=>⟨m,(hc.2 m).1 hm,hi⟩,fun ⟨m,hm,hi⟩=>⟨m,(hc.2 m).2 hm,hi⟩⟩)
 obtain ⟨g1,g2⟩:=sel_again (setR_strict (idsOf ms)) ha;refine ⟨h1,ys,ys,_,h1,fun a h b h'=>hone a ((hc.2 a).1 h) b ((hc.2 b).1 h'),⟨hc.1,fun _=>Iff.rfl⟩,by rw [hset];exact g1,?_⟩;rw [hset,g2]
end Go.Proofs.YtmiknfneeipkeaaGreat
namespace Go.Proofs.YtmiknfneeipkeaaGreat
open Go.RowKit
theorem putU_mono:∀ (b a:Nat),a<=b->(putU a).length<=(putU b).length:=by
 intro b;induction b using Nat.strongRecOn with
 | ind b ih=>
  intro a hab;by_cases ha:a<128
  · have h1:(putU a).length=1:=by rw [putU,dif_pos ha];rfl
    have:=putU_pos b;omega
  have hb:¬ b<128:=by omega
  have h1:=ih (b / 128) (by omega) (a / 128) (Nat.div_le_div_right hab);rw [putU,dif_neg ha,putU.eq_1 b,dif_neg hb];simp only [List.length_cons];omega
theorem take_len:∀ (bs:List UInt8) (i v x n:Nat),takeU i v bs=some (x,n)->∃ y,x=v+y*128^i/\(putU y).length+i<=n:=by
 intro bs;induction bs with
 | nil=>intro i v x n h;cases h
 | cons c r ih=>
  intro i v x n h;rw [takeU] at h;split at h
  · cases h
  split at h
  · rename_i h128
    obtain ⟨y,e,hl⟩:=ih _ _ _ _ h;have hc:=c.toNat_lt;refine ⟨c.toNat % 128+128*y,?_,?_⟩
    · rw [e,Nat.pow_succ,Nat.add_mul,Nat.add_assoc];congr 2
      rw [Nat.mul_comm (128^i) 128, <- Nat.mul_assoc,Nat.mul_comm y 128]
    by_cases hy:y=0
    · have h1:(putU (c.toNat % 128+128*y)).length=1:=by rw [putU,dif_pos (by omega)];rfl
      have:=putU_pos y;omega
    rw [putU,dif_neg (by omega),show (c.toNat % 128+128*y) / 128=y by omega];simp only [List.length_cons];omega
  split at h
  · cases h
  injection h with h;injection h with h1 h2;have hc:=c.toNat_lt;have h3:(putU (c.toNat % 128)).length=1:=by rw [putU,dif_pos (by omega)];rfl
  exact ⟨c.toNat % 128,h1.symm,by omega⟩
theorem take_len0 {bs:List UInt8} {x n:Nat} (h:takeU 0 0 bs=some (x,n)):(putU x).length<=n:=by
 obtain ⟨y,e,hl⟩:=take_len _ _ _ _ _ h;have:x=y:=by rw [e];simp
 rw [this];omega
def frLen (c:PC):Nat:=1+(putU c.2.length).length+(putU (fpSum c.2)).length+c.2.length
theorem frP_len {bs:List UInt8} {k:Nat} {last:Option ID} {c:PC} {j:Nat} (h:frP bs k last=some (c,j)):k+frLen c<=j+1/\j<=bs.length:=by
 rw [frP] at h;split at h
 · cases h
 rename_i sz n1 h1
 split at h
 · cases h
 rename_i sm n2 h2
 split at h
 · cases h
 rename_i hb
 split at h
 · cases h
 rename_i hf
 split at h
 · cases h
 injection h with h;injection h with h3 h4;have hf2:fpOf ((bs.drop (k+n1+n2)).take sz)=((sm:Int),(sz:Int)):=Classical.byContradiction hf;have hl:((bs.drop (k+n1+n2)).take sz).length=sz:=by rw [List.length_take,List.length_drop];omega
 have hs:fpSum ((bs.drop (k+n1+n2)).take sz)=sm:=by
  have:=congrArg Prod.fst hf2;simp only [fpOf] at this;omega
 have e1:=take_len0 h1;have e2:=take_len0 h2;rw [<- h3,frLen];simp only;rw [hl,hs];omega
theorem frsP_len {bs:List UInt8}:∀ (f k:Nat) (acc l:List PC) (j:Nat),frsP bs f k acc=some (l,j)->∃ ext,l=acc++ext/\k+(ext.map frLen).sum+1<=j/\j<=bs.length:=by
 intro f;induction f with
 | zero=>intro k acc l j h;cases h
 | succ f ih=>
  intro k acc l j h;rw [frsP] at h;split at h
  · cases h
  rename_i hk
  split at h
  · injection h with h;injection h with h1 h2;exact ⟨[],by simp [h1],by simp;omega,by omega⟩
  split at h
  · split at h
    · rename_i c j1 hfr
      obtain ⟨ext,e1,e2,e3⟩:=ih _ _ _ _ h;have:=(frP_len hfr).1;refine ⟨c::ext,by rw [e1];simp,?_,e3⟩;simp only [List.map_cons,List.sum_cons];omega
    cases h
  cases h
theorem packP_len (T:List CH):(packP T).length<=14+((pcs T).map frLen).sum+(putU T.length).length:=by
 have h1:∀ S:List CH,(S.flatMap frameP).length=((pcs S).map frLen).sum:=by
  intro S;induction S with
  | nil=>rfl
  | cons e S ih=>
   rw [List.flatMap_cons,List.length_append,ih];simp only [pcs,List.map_cons,List.sum_cons,frLen,frameP,List.length_append,List.length_cons,List.length_nil]
 have h2:(putU (fpSum (packB T))).length<=9:=putU_len (k:=8) (Nat.lt_trans (fpSum_lt _) (by decide));rw [packP,List.length_append,packB,packF];simp only [List.length_append,List.length_cons,List.length_nil,h1];rw [packB,packF] at h2;omega
theorem asc_sub:∀ (L s:List CH),AscI (L.map (·.1))->AscI (s.map (·.1))->(∀ e∈s,e∈L)->s.Sublist L:=by
 intro L;induction L with
 | nil=>
  intro s _ _ h;cases s with
  | nil=>exact List.Sublist.refl _
  | cons x s=>exact absurd (h x (.head _)) (by simp)
 | cons x L ih=>
  intro s hL hs h;cases s with
  | nil=>exact List.nil_sublist _
  | cons y s=>
   have hL2:=List.pairwise_cons.1 hL;have hs2:=List.pairwise_cons.1 hs;by_cases hxy:y=x
   · subst hxy;refine .cons_cons _ (ih s hL2.2 hs2.2 (fun e he=>?_));rcases List.mem_cons.1 (h e (.tail _ he)) with h1 | h1
     · have:=hs2.1 e.1 (List.mem_map.2 ⟨e,he,rfl⟩);rw [h1] at this;simp [ltID] at this
     exact h1
   have hyL:y∈L:=(List.mem_cons.1 (h y (.head _))).resolve_left hxy;have hlt:=hL2.1 y.1 (List.mem_map.2 ⟨y,hyL,rfl⟩);refine .cons _ (ih (y::s) hL2.2 hs (fun e he=>?_));rcases List.mem_cons.1 (h e he) with h1 | h1
   · rcases List.mem_cons.1 he with h2 | h2
     · exact absurd (h2.symm.trans h1) hxy
     have:=hs2.1 e.1 (List.mem_map.2 ⟨e,h2,rfl⟩);rw [h1] at this;have h3:=ltI_trans hlt this;simp [ltID] at h3
   exact h1
theorem sum_sub {s L:List Nat} (h:s.Sublist L):s.sum<=L.sum:=by
 induction h with
 | slnil=>exact Nat.le_refl _
 | cons a h ih=>simp only [List.sum_cons];omega
 | cons_cons a h ih=>simp only [List.sum_cons];omega
theorem pack_again {rest:List UInt8} {S:List CH} (hd:decP rest=some (pcs S)) {ids:List ID} (hs:AscI ids) (ha:AllR ids S):(packP (selR ids S)).length<=rest.length+8:=by
 have hasc:=decP_asc hd;rw [decP] at hd;split at hd
 · cases hd
 split at hd
 · split at hd
   · rename_i l k hfr
     split at hd
     · rename_i he
       injection hd with hd;subst hd;obtain ⟨ext,e1,e2,e3⟩:=frsP_len _ _ _ _ _ hfr;rw [List.nil_append] at e1;subst e1;rw [pcs_len,endP] at he;split at he
       · cases he
       rename_i cnt n1 h1
       split at he
       · cases he
       rename_i sm n2 h2
       have h3:=of_decide_eq_true he;have t1:=take_len0 h1;have t2:=take_len0 h2;have t3:=putU_pos sm;rw [h3.1] at t1;have hsub:=asc_sub S (selR ids S) hasc (by rw [selR_fst ha];exact hs) (selR_mem ha);have hsum:((pcs (selR ids S)).map frLen).sum<=((pcs S).map frLen).sum:=sum_sub ((hsub.map _).map _);have hcnt:=putU_mono _ _ hsub.length_le;have hp:=packP_len (selR ids S);omega
     cases hd
   cases hd
 cases hd
theorem decM_len {bs:List UInt8} {m:Man} (h:decM bs=some m):2<=bs.length:=by
 rw [<- rDec_eq,rDec] at h;split at h
 · cases h
 rename_i z n0 h0
 split at h
 · cases h
 split at h
 · cases h
 rename_i c n1 h1
 have t0:=takeU_le _ _ _ _ _ h0;have t1:=takeU_le _ _ _ _ _ h1;rw [List.length_drop] at t0 t1;omega
theorem oneM_len {bs:List UInt8} {m:Man} {k:Nat} (h:oneM bs=some (m,k)):3<=k/\k<=bs.length:=by
 unfold oneM at h;split at h
 · rename_i v n ht
   split at h
   · cases h
   rename_i hv
   have h1:=takeU_le _ _ _ _ _ ht;obtain ⟨m',hd,e⟩:=Option.map_eq_some_iff.1 h;have h2:=decM_len hd;rw [List.length_take] at h2;rw [List.length_drop] at h2 hv;injection e with e1 e2;omega
 cases h
theorem mansL_len {bs:List UInt8}:∀ (n k:Nat) (ms:List Man) (j:Nat),k<=bs.length->mansL bs n k=some (ms,j)->ms.length=n/\k+3*n<=j/\j<=bs.length:=by
 intro n;induction n with
 | zero=>
  intro k ms j hk h;rw [mansL] at h;injection h with h;injection h with h1 h2;subst h1;subst h2;exact ⟨rfl,by omega,hk⟩
 | succ n ih=>
  intro k ms j hk h;rw [mansL] at h;split at h
  · rename_i m j1 ho
    have h1:=oneM_len ho;rw [List.length_drop] at h1;obtain ⟨p,hp,e⟩:=Option.map_eq_some_iff.1 h;injection e with e1 e2;obtain ⟨g1,g2,g3⟩:=ih (k+j1) p.1 p.2 (by omega) hp;subst e1;subst e2;rw [List.length_cons];omega
  cases h
theorem rdMans_len {bs:List UInt8} {ms:List Man} {k:Nat} (h:rdMans bs=some (ms,k)):5+3*ms.length<=k/\k<=bs.length:=by
 unfold rdMans at h;split at h
 · rename_i hp
   have h4:4<=bs.length:=hp.length_le;split at h
   · rename_i v n ht
     have h1:=takeU_le _ _ _ _ _ ht;rw [List.length_drop] at h1;obtain ⟨g1,g2,g3⟩:=mansL_len _ _ _ _ (by omega) h;omega
   cases h
 cases h
theorem packP_nil:(packP []).length<=100:=by
 have h:=packP_len [];have h2:(putU ([]:List CH).length).length=1:=by rw [List.length_nil,putU,dif_pos (by decide)];rfl
 rw [h2] at h;exact Nat.le_trans h (by decide)
theorem opn_lim {bs:List UInt8} (hb:bs.length<=1048575):(∀ ms k,rdMans bs=some (ms,k)->ms.length<=600000)/\(∀ ms S,opnV bs=some (ms,pcs S)->AllR (setR (idsOf ms)) S->(packP (selR (setR (idsOf ms)) S)).length<=1048576):=by
 refine ⟨fun ms k h=>by have:=rdMans_len h;omega,fun ms S h ha=>?_⟩;unfold opnV at h;split at h
 · rename_i ms' k h1
   obtain ⟨x,hx,e⟩:=Option.map_eq_some_iff.1 h;injection e with e1 e2;subst e1;subst e2;have hl:=rdMans_len h1;cases ms' with
   | nil=>
    have:selR (setR (idsOf [])) S=[]:=rfl;rw [this];exact Nat.le_trans packP_nil (by decide)
   | cons m ms=>
    have h2:=pack_again hx (setR_strict (idsOf (m::ms))) ha;rw [List.length_drop] at h2;rw [List.length_cons] at hl;omega
 cases h
theorem volOk_con {bs:List UInt8} {ms:List Man} {S:List CH} (hv:VolOk bs) (ho:opnV bs=some (ms,pcs S)) (hP:∀ ms S,opnV bs=some (ms,pcs S)->AllR (setR (idsOf ms)) S->(packP (selR (setR (idsOf ms)) S)).length<=1048576) (hl:bs.length<=1000000000):ConM ms ms/\AllR (setR (idsOf ms)) S:=by
 obtain ⟨ms',ys,S',h1,h2,h3,h4,h5⟩:=hv
 have h6:rdMans bs=some (ms',0)∨∃ k,rdMans bs=some (ms',k):=by
  unfold opnV at h1;split at h1
  · rename_i m k hr
    obtain ⟨x,_,e⟩:=Option.map_eq_some_iff.1 h1;injection e with e1 _;subst e1;exact .inr ⟨k,hr⟩
  cases h1
 have hn:ys.length<18446744073709551616:=by
  have h7:=conM_len h3;rcases h6 with h | ⟨k,h⟩
  · have:=rdMans_len h;omega
  have:=rdMans_len h;omega
 have hman:∀ m∈ms',ManOk m:=(opnV_asc h1).2;have h8:=(vol_put hman h2 h3 h4 (hP ms' S' h1 h4) hn).1;rw [h5,ho] at h8;injection h8 with h8;injection h8 with e1 e2;rw [ho] at h1;injection h1 with h1;injection h1 with e3 e4;subst e3;subst e1;exact ⟨h3,pcs_all e4.symm h4⟩
end Go.Proofs.YtmiknfneeipkeaaGreat
