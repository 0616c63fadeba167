/- Q -/
import Derived.Test.YteabgcollokgjaaGreatDoorQ27
import Derived.Sort.OwnSortedInts
set_option linter.unusedSimpArgs false
set_option linter.unusedVariables false
set_option maxRecDepth 100000
set_option maxHeartbeats 32000000
open Go.Lib renaming hid → kh
open List renaming length_append → zA,map_cons → zB,length_cons → zC,length_map → zD,map_append → zE,mem_append → zF,mem_singleton → zG,append_assoc → zH
namespace Go.Proofs.YteabgcollokgjaaGreatDoor
section
open Go.RowKit Go.MapKept Go.ChangeMaps Go.Shelf Go.Sort
attribute [local go_sem] wext_cell
theorem atoi49:Lib.atoi [49]=some 1:=by kernel_rfl
theorem atoi1 (w:World):Calls Tryz.prog 132 #[.string ⟨#[49]⟩] w (fun e w'=>e= .returned (.tuple #[.int .i64 1,.nilIface])/\Below w.heap.size w w'):=
 (Any.strconv_Atoi Tryz.atoiC.toM.ton172 ⟨#[49]⟩ 1 (by show 1<=18;omega) atoi49 w).mono (by
   rintro e w' ⟨rfl,t,rfl⟩;exact ⟨rfl,Lib.bytesWorld_below _ _ _⟩)
theorem cutPre (nm:ByteArray) (w:World):Calls Tryz.prog 131 #[.string (fileN nm),.string (nm++⟨#[46]⟩)] w (fun e w'=>e= .returned (.tuple #[.string ⟨#[49]⟩,.bool true])/\w=w'):=by
 have hf:(fileN nm).data.toList=(nm++⟨#[46]⟩:ByteArray).data.toList++[49]:=by
  unfold fileN;rw [ByteArray.data_append,Array.toList_append]
 have h1:Lib.hasPrefix (fileN nm).data.toList (nm++⟨#[46]⟩:ByteArray).data.toList=true:=by
  unfold Lib.hasPrefix;rw [hf];exact List.isPrefixOf_iff_prefix.2 (List.prefix_append _ _)
 have h2:Lib.trimPrefix (fileN nm).data.toList (nm++⟨#[46]⟩:ByteArray).data.toList=[49]:=by
  unfold Lib.trimPrefix;rw [if_pos h1,hf,List.drop_left]
 have h:=Tryz.strings_CutPrefix (fileN nm) (nm++⟨#[46]⟩) w;rw [h1,h2] at h;exact h.mono (fun e w' h=>⟨h.1,h.2.symm⟩)
theorem after_drew0 {W w5:World} {q:Nat} (h:w5=W.drewN q):Below W.heap.size W w5:=by
 subst h;exact bdrewN (Below.refl W.heap.size W) q
theorem cell_new (w:World) (t:TypeId) (v:Value):(w.alloc (.cells #[v] t)).cell? ⟨w.heap.size,0,none⟩=some v:=(IsB.new w t #[v]).cell 0
theorem one_at {w:World} {g:Nat} {v:Value} (h:w.cell? ⟨g,0,none⟩=some v):∀ j u,[v][j]? =some u->w.cell? ((⟨g,0,none⟩:Addr).add j)=some u:=fun j u hu=>by
 match j,hu with
 | 0,hu=>
  rw [lit_add,h];exact hu
theorem info3:(Tryz.prog.info? 3).map (fun i=>(i.zero,i.size,i.bytes))=some (some (.int .i64 0),1,8):=by kernel_rfl
section
variable {b:Nat} {w0 w:World} {l:List Ob} {x:SR}
theorem sort1 (h:SW b w0 l w) (k:Nat) {g c:Nat} {z:Int} (hk:l[k]? =some (rowOb 3 1 (.slice (some ⟨g,0,none⟩) 1 c) 1 [.int .i64 z])):Calls Tryz.prog 133 #[.slice (some ⟨g,0,none⟩) 1 c] w (fun e w'=>e= .returned (.tuple #[])/\SW b w0 l w'):=by
 have ho:w.ownsRow 0 3 1 (.slice (some ⟨g,0,none⟩) 1 c) 1 [.int .i64 z]:=h.get k hk;have hlt:=ho.lt g rfl;rcases ho.2 with ⟨h0,_⟩ | ⟨g',cap,cur,hv,hg0,hh,hc1,hcs,hcs2,htk⟩
 · cases h0
 injection hv with e1 e2 e3;injection e1 with e1;injection e1 with e1;subst e1;subst e3;have hH:Holds (Value.int .i64) w g 0 [z].toArray:=holds_of_blockI (ss:=[z]) hh (by simpa using htk);refine (Tryz.slices_Sort_int g 0 c [z] w hH hlt.2 (by simp)).mono ?_;rintro e w' ⟨rfl,n,os,rfl⟩;refine ⟨rfl,?_⟩;rw [List.mergeSort_singleton];have:=h.row k hk (ownsRow_sortedI (n:=n) (os:=os) (ss:=[z]) (ts:=[z]) rfl (Nat.zero_le g) hh hc1 hcs hcs2) (grownBy_sortedI [z].toArray) (.inl rfl)
 have e:l.set k (rowOb 3 1 (.slice (some ⟨g,0,none⟩) 1 c) 1 [.int .i64 z])=l:=by
  obtain ⟨hlt,hk⟩:=List.getElem?_eq_some_iff.1 hk;rw [<- hk,List.set_getElem_self]
 rw [<- e];exact this
theorem load_one {bs:List UInt8} (h:Sto b w x l) (hF:x.F=none) (hC:x.C=[]) (hnm:x.nm.size<=1000) (hN:∀ m,(x.s.now m).isSome=true↔m=fileN x.nm) (hE:readE x.s (fileN x.nm)=0) (hB:readB x.s (fileN x.nm)=bs):
 Calls Tryz.prog 83 #[vPtr x.ps] w (fun e w'=>e= .returned (.int .i64 0)/\∃ fb sb,SW b w (({ x with C:=(scanF bs bs.length 0 [] [] true).1,F:=some ⟨fb,sb,bs.length,(scanF bs bs.length 0 [] [] true).2.2,(scanF bs bs.length 0 [] [] true).2.1⟩ }:SR).obs l) w'):=by
 have HN:=kh (Names_any x.p x.r x.s w h.sdv);have k0:w.cell? ⟨x.ps,0,none⟩=some (vPtr x.p):=h.scell.cell 0;have S0:Hid (SW b w (x.obs l) w):=SW.refl h;have HNM:=kh hN
 have hbl:Hid (bs.length<=4194304):=by
  have:=readB_len h.sdv.ok (fileN x.nm);rw [hB] at this;exact this
 have HE:=kh hE;have HB:=kh hB;have HF:=kh hF;have HCC:=kh hC;clear h hN hE hB hF hC;go_enter Tryz.func83,Tryz.ntmps83;go_wp2_with (go_at_call 37;(with_reducible refine HN.out.mono ?_);refine halt_ ?_)
 rintro e w1 ⟨A,c,ns,rfl,hls,hrd,hb1⟩
 have hns:ns=[fileN x.nm]:=by
  have h1:∀ m,m∈ns↔m=fileN x.nm:=fun m=>(hls.mem m).trans (HNM.out m);cases ns with
  | nil=>exact absurd ((h1 _).2 rfl) (by simp)
  | cons a t=>
   cases t with
   | nil=>rw [(h1 a).1 (by simp)]
   | cons c t=>
    have e1:=(h1 a).1 (by simp);have e2:=(h1 c).1 (by simp);have:=hls.nodup;rw [e1,e2] at this;simp at this
 subst hns;obtain ⟨b1,rfl,hb1lt,hrd1⟩:=hrd (by simp);have n0:w1.cell? ⟨b1,0,none⟩=some (.string (fileN x.nm)):=hrd1 0 (by simp);have S1:=kh (S0.out.on hb1);clear hls hrd hb1 HN k0 S0 hrd1 HNM;simp only [zC,List.length_nil,Nat.zero_add];have p1:w1.cell? ⟨x.ps,1,none⟩=some (.string x.nm):=(S1.out.cell 1 rfl).cell 1;have ha1:=fun W=>add_str x.nm ⟨#[46]⟩ W (by show x.nm.size+1<=_;omega);have HCP:=kh (cutPre x.nm);have HAT:=kh atoi1;have HFN:=kh (fun (W:World) (hW:SW b w (x.obs l) W)=>fileName_any x.ps x.nm W ((hW.cell 1 rfl).cell 1) hnm);go_wp2_with fail
 refine wp_loop_rounds 2 ?_;rw [rounds_succ];go_wp2_with (first | (go_at_call 131;(with_reducible refine (HCP.out _).mono ?_);rintro e w2 ⟨rfl,rfl⟩) | (go_at_call 132;refine halt_ ?_))
 refine kh ((HAT.out w1).mono ?_);rintro e w3 ⟨rfl,hb3⟩;have S3:=kh (S1.out.on hb3);clear hb3 HAT HCP S1 p1 n0 ha1;obtain ⟨A0,n0,c0,HV0,Hn0⟩:∃ A0 n0 c0,Hid (Value.slice none 0 0=Value.slice A0 n0 c0)/\Hid (n0=0):=⟨_,_,_,rfl,rfl⟩;rw [HV0.out];go_wp2_with (first | (go_at_call 101;(with_reducible refine (HFN.out _ S3.out).mono ?_);refine halt_ ?_))
 rintro e w4 ⟨rfl,q4,hw4⟩
 have S4:Hid (SW b w (rowOb 3 1 (.slice A0 n0 c0) n0 []::x.obs l) w4):=by
  rw [Hid, <- HV0.out,Hn0.out];exact (S3.out.on (after_drew0 hw4)).newRow 3 1
 have hn0:n0<=0:=by rw [Hn0.out];omega
 clear hw4 S3;obtain ⟨i1,gi,gz0,gz1,gz2⟩:=info_parts info3;go_wp2_with (at_builtin;(refine wpList_rowS (t:=47) (e:=3) (size:=1) (bytes:=8) (i:=i1) (S4.out.alloc _) 0 rfl (by rfl) (.tmp 55) (.tmp 57) (by rfl) Tryz.underlying47 gi gz0 gz1 gz2 rfl (by omega) (by rfl) ⟨w4.heap.size,0,none⟩ 1 [.int .i64 1] (by rfl) rfl (one_at (cell_new w4 3 _)) (by intro u hu;simp at hu;rw [hu];rfl) (by unfold maxLen;omega) (by omega) ?_);refine halt_ ?_)
 intro v5 w5 s5
 have S5:Hid (SW b w (rowOb 3 1 v5 1 [.int .i64 1]::x.obs l) w5):=by
  have:=s5;rw [Hn0.out] at this;exact this
 clear s5 S4 hn0 HV0 Hn0;obtain ⟨g5,c5,rfl⟩:=own_some (S5.out.get 0 rfl) (by omega);go_wp2_with fail
 rw [rounds_succ];have HSO:=kh (sort1 S5.out 0 rfl);go_wp2_with (first | (go_at_call 133;(with_reducible refine HSO.out.mono ?_);refine halt_ ?_))
 rintro e w6 ⟨rfl,s6⟩;have S6:=kh s6;clear s6 HSO S5
 have r0:w6.cell? ⟨g5,0,none⟩=some (.int .i64 1):=by
  obtain ⟨g',c',e,h1, -⟩:=own_one (S6.out.get 0 (o:=rowOb 3 1 (.slice (some ⟨g5,0,none⟩) 1 c5) 1 [.int .i64 1]) rfl);injection e with e1 e2 e3;injection e1 with e1;injection e1 with e1;rw [e1];exact h1
 go_wp2_with fail
 refine wp_loop_rounds 2 ?_;rw [rounds_succ];have q0:w6.cell? ⟨x.ps,0,none⟩=some (vPtr x.p):=(S6.out.cell 2 rfl).cell 0;have hpl:x.ps<w6.heap.size:=(S6.out.cell 2 rfl).lt;go_upto_region 14 with fail
 have S6d:=kh S6.out.tail.drew;clear S6 r0
 have HRD:Hid (∀ W5,SW b w (x.obs l) W5->Calls Tryz.prog 38 #[vPtr x.p,.string (fileN x.nm)] W5 (fun e w'=>∃ A n c,e= .returned (.tuple #[.slice A n c,.int .i64 0])/\n=bs.length/\bs.length<=c/\SW b w (rsOb A bs::x.obs l) w')):=fun W5 h5=>(Read_any x.p x.r x.s (fileN x.nm) W5 h5.1.sdv (file_ok hnm)).mono (by
  rintro e w8 ⟨⟨A8,n8,c8⟩,rfl,hr8,hd8,hb8⟩;rw [HE.out];rw [HB.out] at hr8;exact ⟨A8,n8,c8,rfl,hr8.1.symm,hr8.1 ▸ hr8.2.1,(h5.newBytes hb8 hr8 hd8).bufRs⟩)
 go_region_held (fun w'=>w'.cell? ⟨x.ps,0,none⟩=some (vPtr x.p))
  (first | go_keep | exact K5.out | exact K6.out)
  (first
    | (go_at_call 101;(with_reducible refine (HFN.out _ S6d.out).mono ?_);rintro e w7 ⟨rfl,q7,hw7⟩;have S7:=kh (S6d.out.on (after_drew0 hw7));have K5:Hid (w7.cell? ⟨x.ps,0,none⟩=some (vPtr x.p)):=(S7.out.cell 1 rfl).cell 0;clear hw7)
    | (go_at_call 38;(with_reducible refine (HRD.out w7 S7.out).mono ?_);rintro e w8 ⟨A8,n8,c8,rfl,hn8,hc8,s8⟩;have S8:=kh s8;have HN8:=kh hn8;have K6:Hid (w8.cell? ⟨x.ps,0,none⟩=some (vPtr x.p)):=(S8.out.cell 2 rfl).cell 0;clear s8 hn8))
 have hn8:=HN8.out;subst hn8;clear HN8;have S9:Hid (SW b w (x.obs (rsOb A8 bs::l)) w8):=S8.out.behind;have HLF:=kh (loadFile_any A8 bs S9.out HF.out HCC.out c8 hbl.out hc8 hnm HE.out HB.out);clear S8 S9 K6 K5 HRD HFN q0 hpl S7 S6d;go_wp2_with (go_at_call 134;(with_reducible refine HLF.out.mono ?_);rintro e w9 ⟨rfl,fb,sb,s9⟩;have S10:=kh s9;clear s9 HLF)
 rw [rounds_succ];go_wp2_with fail
 go_ret;exact ⟨rfl,fb,sb,S10.out.sub (by simp [SR.obs])⟩
end
end
section
open Go.RowKit Go.MapKept Go.ChangeMaps Go.Shelf Go.Sort
attribute [local go_sem] wext_cell
def SInv (C:Chs) (o:Nat):Prop:=LAt C/\C.length<=o/\∀ i∈C.map (·.1),okID i/\1<=i.2/\i.2<=4194304
theorem SInv.mono {C:Chs} {o o':Nat} (h:SInv C o) (ho:o<=o'):SInv C o':=⟨h.1,Nat.le_trans h.2.1 ho,h.2.2⟩
theorem SInv.set {C:Chs} {o:Nat} (h:SInv C o) {i:ID} (hi:okID i) (h1:1<=i.2) (h2:i.2<=4194304) {q:Nat} (hq:q<=4194304):SInv (setL C i (.at q)) (o+1):=by
 refine ⟨h.1.set i q hq,Nat.le_trans (setL_length _ _ _) (by have:=h.2.1;omega),fun j hj=>?_⟩;rcases (setL_keys C i (Pl.at q) j).1 hj with hj | hj
 · subst hj;exact ⟨hi,h1,h2⟩
 exact h.2.2 j hj
theorem SInv.found {C:Chs} {o:Nat} (h:SInv C o) {i:ID} (hi:okID i) (h1:1<=i.2) (h2:i.2<=4194304) {q:Nat} (hq:q<=4194304) (bs:List UInt8) (T:List (ID×Bool)):SInv (foundC bs C T i q).1 (o+1):=by
 unfold foundC;split
 · exact h.set hi h1 h2 hq
 · exact h.mono (by omega)
 simp only;split
 · exact h.set hi h1 h2 hq
 exact h.mono (by omega)
theorem scan_inv (bs:List UInt8) (hn:bs.length<=4194304):∀ (n o:Nat) (C:Chs) (T:List (ID×Bool)) (cl:Bool),o<=bs.length->SInv C o->SInv (scanF bs n o C T cl).1 bs.length:=by
 intro n;induction n with
 | zero=>intro o C T cl ho h;exact h.mono ho
 | succ n ih=>
  intro o C T cl ho h;rw [scanF];split
  · cases hr:rdHead bs o with
    | none=>exact ih _ _ _ _ (by omega) (h.mono (by omega))
    | some i=>
     simp only;split
     · exact h.mono ho
     rename_i h1
     obtain ⟨hid,h28⟩:=rdHead_some hr;have hok:okID i:=hid ▸ rdID_ok bs o;exact ih _ _ _ _ (by omega) ((h.found hok (by omega) (by omega) (by omega) bs T).mono (by omega))
  exact h.mono ho
def openedF (p:Nat) (r:Rp) (s:St) (nm:ByteArray) (H fb sb:Nat) (bs:List UInt8):SR:=⟨p,H+2,H,H+1,r,s,nm,(scanF bs bs.length 0 [] [] true).1,some ⟨fb,sb,bs.length,(scanF bs bs.length 0 [] [] true).2.2,(scanF bs bs.length 0 [] [] true).2.1⟩,0,sizeC (scanF bs bs.length 0 [] [] true).1,false⟩
def OpenOne (b p:Nat) (r:Rp) (s:St) (nm:ByteArray) (bs:List UInt8) (l:List Ob) (w:World) (e:Ending) (w':World):Prop:=
 ∃ H fb sb,w.heap.size<=H/\e= .returned (.tuple #[vPtr (H+2),.int .i64 0])/\SW b w ((openedF p r s nm H fb sb bs).obs l) w'
theorem SW.unRange {b:Nat} {w0 w:World} {l:List Ob} (h:SW b w0 l w) (k:Nat) {cm r cnt:Nat} {C done:Chs} (hk:l[k]? =some (itOb cm r C done cnt)) (hC:∀ c∈C,∃ q,c.2=Pl.at q):SW b w0 (l.set k (chOb cm C)) w:=by
 have hr:RIs okID vID vPl w cm r C done cnt:=h.get k hk
 have hp:∀ id d bs,(id,Pl.pend d bs) ∉ C:=fun id d bs hm=>by
  obtain ⟨q,e⟩:=hC _ hm;cases e
 have:=h.1.stepAt k hk (w':=w) (o':=chOb cm C) ⟨rfl,rfl,rfl,Nat.le_refl _,fun _ _ _=>rfl,fun i hi=> .inl (.inl hi)⟩ (fun i hi=>by
  obtain ⟨id,d,bs,hm,_⟩:=hi;exact absurd hm (hp id d bs)) ⟨hr.map,fun id d bs hm=>absurd hm (hp id d bs)⟩ (fun i hi=>by
  rcases hi with hi | ⟨id,d,bs,hm,_⟩
  · have e:i=cm:=hi;rw [e];exact hr.map.lt
  exact absurd hm (hp id d bs))
 exact ⟨this.1,h.2.trans this.2⟩
theorem sizeC_snoc (C:Chs) (c:ID×Pl):sizeC (C++[c])=sizeC C+c.1.2:=by simp [sizeC]
theorem sizeC_perm {C D:Chs} (h:C.Perm D):sizeC C=sizeC D:=by
 induction h with
 | nil=>rfl
 | cons c _ ih=>
  simp only [sizeC,zB,List.sum_cons] at ih |-; rw [ih]
 | swap c d l=>
  simp only [sizeC,zB,List.sum_cons];omega
 | trans _ _ ih1 ih2=>exact ih1.trans ih2
theorem sizeC_le4 (D:Chs) (h:∀ c∈D,1<=c.1.2/\c.1.2<=4194304):0<=sizeC D/\sizeC D<=D.length*4194304:=by
 induction D with
 | nil=>simp [sizeC]
 | cons c D ih=>
  have h1:=ih (fun c hc=>h c (by simp [hc]));have h2:=h c (by simp);have h3:sizeC (c::D)=c.1.2+sizeC D:=by simp [sizeC]
  rw [h3,zC];omega
theorem Open_one {b:Nat} {w:World} {p:Nat} {r:Rp} {s:St} {l:List Ob} (h:Sep b w (devOb p r s::l)) (nm:ByteArray) (bs:List UInt8) (hn:nameV nm=true) (hd:s.dn=false) (hN:∀ m,(s.now m).isSome=true↔m=fileN nm) (hE:readE s (fileN nm)=0) (hB:readB s (fileN nm)=bs):Calls Tryz.prog 20 #[vPtr p,.string nm] w (OpenOne b p r s nm bs l w):=by
 have hsz:=nameV_size hn;have HV:=kh (validStore_any nm w (by unfold maxLen;omega));rw [hn] at HV;have HD:=kh (Down_any p r s w h.head);rw [hd] at HD
 have hbl:bs.length<=4194304:=by
  have hdv:DV w p r s:=h.head;have:=readB_len hdv.ok (fileN nm);rw [hB] at this;exact this
 have hm1:(Instr.makeMap 128 none).run Tryz.prog w= .ok (.map (some w.heap.size)) (w.alloc (.map #[] 0)):=by simp [Instr.makeMap,run_underlying Tryz.underlying128]
 have hm2:(Instr.makeMap 129 none).run Tryz.prog (w.alloc (.map #[] 0))= .ok (.map (some (w.heap.size+1))) ((w.alloc (.map #[] 0)).alloc (.map #[] 0)):=by simp [Instr.makeMap,run_underlying Tryz.underlying129]
 have S1:SW b w (flOb (w.heap.size+1) none::chOb w.heap.size []::devOb p r s::l) ((w.alloc (.map #[] 0)).alloc (.map #[] 0)):=by
  have:=((SW.refl h).newMap).newFl;simpa using this
 have S2:Hid (SW b w ((openedS p r s nm w.heap.size).obs l) (((w.alloc (.map #[] 0)).alloc (.map #[] 0)).alloc (.cells #[.pointer (some ⟨p,0,none⟩),.string nm,.map (some w.heap.size),.map (some (w.heap.size+1)),.int .i64 0,.int .i64 0,.bool false] 131))):=
  SW.front (pre:=[_,_,_,_]) (t:=l) (S1.newCellAt 131 #[.pointer (some ⟨p,0,none⟩),.string nm,.map (some w.heap.size),.map (some (w.heap.size+1)),.int .i64 0,.int .i64 0,.bool false] (H:=w.heap.size+2) (by simp)) [3,0,2,1] (n:=4) rfl (by decide)
 have HLO:=kh (load_one (x:=openedS p r s nm w.heap.size) S2.out.1 rfl rfl (by show nm.size<=1000;omega) hN hE hB);have HSI:=kh (scan_inv bs hbl bs.length 0 [] [] true (by omega) ⟨LAt.nil,by simp,by simp⟩);unfold OpenOne openedF;obtain ⟨⟨C,T,cl⟩,HFIN⟩:∃ F,Hid (scanF bs bs.length 0 [] [] true=F):=⟨_,rfl⟩;rw [HFIN.out] at HLO HSI |-; simp only at HLO HSI |-; clear h hn hd hN hE hB S1 HFIN;go_enter Tryz.func20,Tryz.ntmps20;go_wp2_with (first | (go_at_call 81;(with_reducible refine HV.out.mono ?_);rintro e w1 ⟨rfl,rfl⟩) | (go_at_call 82;(with_reducible refine HD.out.mono ?_);rintro e w1 ⟨rfl,rfl⟩) | (go_at_call 83;refine halt_ ?_))
 refine HLO.out.mono ?_;rintro e w1 ⟨rfl,fb,sb,s3⟩;have S3:=kh (S2.out.then s3);clear s3 HLO S2 hm1 hm2;have k2:w1.cell? ⟨w.heap.size+1+1,2,none⟩=some (.map (some w.heap.size)):=(S3.out.cell 1 rfl).cell 2;have HM:=kh (S3.out.get 2 (o:=chOb w.heap.size C) rfl).1;go_wp2_with (at_range;(refine wpList_range_is _ rfl _ 128 rfl 31 138 Tryz.underlying128 w.heap.size C rfl HM.out ?_);intro w4 hrg hg hs;have SWr:=kh (S3.out.range 2 rfl hrg hg);clear hrg hg hs)
 obtain ⟨q,Hq⟩:∃ q,Hid (w1.heap.size=q):=⟨_,rfl⟩;rw [Hq.out] at SWr;rw [Hq.out];clear Hq HM S3 k2;have SW0:Hid (SW b w (devOb p r s::cellOb (w.heap.size+2) 131 #[.pointer (some ⟨p,0,none⟩),.string nm,.map (some w.heap.size),.map (some (w.heap.size+1)),.int .i64 0,.int .i64 (0),.bool false]::itOb w.heap.size q C [] C.length::flOb (w.heap.size+1) (some ⟨fb,sb,bs.length,cl,T⟩)::l) w4):=SWr.out;clear SWr;go_loopw [] (fun wr=>∃ (done:Chs) (cnt:Nat),done.length+cnt<=C.length/\(∀ c∈done,c∈C)/\SW b w (devOb p r s::cellOb (w.heap.size+2) 131 #[.pointer (some ⟨p,0,none⟩),.string nm,.map (some w.heap.size),.map (some (w.heap.size+1)),.int .i64 0,.int .i64 (sizeC done),.bool false]::itOb w.heap.size q C done cnt::flOb (w.heap.size+1) (some ⟨fb,sb,bs.length,cl,T⟩)::l) wr) (fun wr=>wr.rangeLeft w.heap.size q)
 case atStart=>exact ⟨[],C.length,by simp,by simp,SW0.out⟩
 obtain ⟨done,cnt,hdc,hsub,hs⟩:=hrel;have S6:=kh hs;have HRI:=kh (hs.get 2 (o:=itOb w.heap.size q C done cnt) rfl:RIs okID vID vPl wr w.heap.size q C done cnt);have Hleft:=kh HRI.out.left_eq;have HSUB:=kh hsub;clear hs SW0 hsub;go_wp2_with (at_next;(refine wpList_next_ch _ rfl _ rfl w.heap.size q C done cnt rfl HRI.out (fun hp=>?_) (fun i pl w5 cnt1 hc1 hrg1 hlt1 hg1 hs1 hen=>halt_ ?_)))
 · have HP:=kh hp;clear hp;go_wp2_with fail
   go_ret2;refine ⟨w.heap.size,fb,sb,Nat.le_refl _,rfl,?_⟩;rw [<- sizeC_perm HP.out]
   exact S6.out.unRange 2 rfl (fun c hc=>by
    obtain ⟨q',e,_⟩:=HSI.out.1 c.1 c.2 (asc_mem (HRI.out.map.nodup) hc);exact ⟨q',e⟩)
 have S7:=kh (S6.out.next 2 rfl hrg1 hg1);have HI:=kh (HSI.out.2.2 i (List.mem_map.2 ⟨_,hc1,rfl⟩));have Hlt:=kh hlt1;have HC1:=kh hc1;clear hrg1 hg1 hs1 hlt1 S6 HRI hc1;have S8:Hid (SW b w (cellOb w5.heap.size 31 #[.int .u64 i.1,.int .i64 i.2]::devOb p r s::cellOb (w.heap.size+2) 131 #[.pointer (some ⟨p,0,none⟩),.string nm,.map (some w.heap.size),.map (some (w.heap.size+1)),.int .i64 0,.int .i64 (sizeC done),.bool false]::itOb w.heap.size q C (done++[(i,pl)]) cnt1::flOb (w.heap.size+1) (some ⟨fb,sb,bs.length,cl,T⟩)::l) (w5.alloc (.cells #[.int .u64 i.1,.int .i64 i.2] 31))):=S7.out.newCell 31 _;clear S7;refine kh ?_;go_upto_region 12 with fail
 generalize w5.alloc (.cells #[.int .u64 i.1,.int .i64 i.2] 31)=W6 at S8 |-; generalize w5.heap.size=H6 at S8 |-; have c5:W6.cell? ⟨w.heap.size+2,5,none⟩=some (.int .i64 (sizeC done)):=(S8.out.cell 2 rfl).cell 5;have f5:W6.frozen? ⟨w.heap.size+2,5,none⟩=false:=(S8.out.cell 2 rfl).frozen 5;have d1:W6.cell? ⟨H6,1,none⟩=some (.int .i64 i.2):=(S8.out.cell 0 rfl).cell 1;have hb1:=sizeC_le4 done (fun c hc=>(HSI.out.2.2 c.1 (List.mem_map.2 ⟨c,HSUB.out c hc,rfl⟩)).2);have hb2:=HSI.out.2.1;have hb3:=HI.out.2;have hsum:IntKind.i64.wrap (sizeC done+i.2)=sizeC done+i.2:=IntWalk.i64_in _ (by omega);clear hen;go_region
 have S9:=kh ((S8.out.setAt 2 rfl 5 (.int .i64 (sizeC done+i.2))).tail.drew);clear S8 c5 f5 d1 hsum hb1 hb2 hb3;go_wp2_with fail
 go_roundw
 case rel=>
  refine ⟨done++[(i,pl)],cnt1,by have:=Hlt.out;rw [zA,List.length_singleton];omega,fun c hc=>?_,?_⟩
  · rcases List.mem_append.1 hc with hc | hc
    · exact HSUB.out c hc
    rw [List.mem_singleton.1 hc];exact HC1.out
  rw [sizeC_snoc];exact S9.out
 have h1:RIs okID vID vPl _ w.heap.size q C (done++[(i,pl)]) cnt1:=S9.out.get 2 rfl;exact Nat.lt_of_le_of_lt (Nat.le_of_eq h1.left_eq) (Nat.lt_of_lt_of_eq Hlt.out Hleft.out.symm)
end
section
open Go.RowKit Go.MapKept Go.ChangeMaps Go.Shelf Go.Sort
theorem drop_at (a b:List UInt8) (n k:Nat) (h:a.length=n):(a++b).drop (n+k)=b.drop k:=by
 rw [<- h,List.drop_length_add_append]
theorem take_at (a b:List UInt8) (n:Nat) (h:a.length=n):(a++b).take n=a:=by
 rw [<- h,List.take_left]
theorem rdHead_at (pre rest:List UInt8) (i:ID) (h0:0<=i.1) (h1:i.1<18446744073709551616) (h2:0<=i.2) (h3:i.2<=9223372036854775807):rdHead (pre++(headB i 1 pre.length++rest)) pre.length=some i:=by
 have hl:(headB i 1 pre.length).length=28:=headB_len _ _ _;have hD:(pre++(headB i 1 pre.length++rest)).drop pre.length=headB i 1 pre.length++rest:=List.drop_left;have hu1:u64 i.1=i.1.toNat:=by unfold u64;omega
 have hu2:u64 i.2<18446744073709551616:=by unfold u64;omega
 have e4:(pre++(headB i 1 pre.length++rest)).drop (pre.length+4)=le8 (u64 i.2)++(le8 (u64 i.1)++(le8 (fpSum (headA i++putU (2*1)++putU (2*pre.length)))++rest)):=by
  rw [drop_at _ _ _ _ rfl];unfold headB headA;simp only [zH];exact drop_at markB _ 4 0 rfl
 have e12:(pre++(headB i 1 pre.length++rest)).drop (pre.length+12)=le8 (u64 i.1)++(le8 (fpSum (headA i++putU (2*1)++putU (2*pre.length)))++rest):=by
  have:pre.length+12=(pre.length+4)+8:=by omega
  rw [this, <- List.drop_drop,e4];exact drop_at (le8 (u64 i.2)) _ 8 0 (le8_len _)
 have hid:rdID (pre++(headB i 1 pre.length++rest)) pre.length=i:=by
  unfold rdID;rw [e4,e12,take_at _ _ 8 (le8_len _),take_at _ _ 8 (le8_len _),leN_le8 _ (by rw [hu1];omega),leN_le8 _ hu2,s64_u64 _ (by omega) h3,hu1];exact Prod.ext (by simp;omega) rfl
 unfold rdHead;rw [hid,if_pos];refine ⟨by simp only [zA];omega,?_⟩;rw [hD,take_at _ _ 28 hl]
theorem scan_lay (cs:List (List UInt8)):∀ (pre:List UInt8) (C:Chs) (n:Nat),(∀ c∈cs,1<=c.length/\c.length<=4194304)->(cs.map fpOf).Nodup->(∀ c∈cs,fpOf c ∉ C.map (·.1))->cs.length<=n->
 scanF (pre++layB pre.length cs) (n+1) pre.length C [] true=(C++layC pre.length cs,[],true):=by
 induction cs with
 | nil=>
  intro pre C n _ _ _ _;rw [scanF,if_neg (by simp [layB])];simp [layC]
 | cons c cs ih=>
  intro pre C n hc hn hC hl;have hc1:=hc c (by simp);have hfp:=fpSum_lt c;unfold pP at hfp
  have hrd:rdHead (pre++layB pre.length (c::cs)) pre.length=some (fpOf c):=by
   rw [layB,zH];exact rdHead_at pre _ (fpOf c) (by simp [fpOf]) (by simp only [fpOf];omega) (by simp [fpOf]) (by simp only [fpOf];omega)
  have hlen:(pre++layB pre.length (c::cs)).length=pre.length+(28+c.length+(layB (pre.length+28+c.length) cs).length):=by
   rw [layB];simp only [zA,headB_len]
  have hz:(fpOf c).2=(c.length:Int):=rfl;rw [scanF,if_pos (by rw [hlen];omega),hrd];simp only;rw [if_neg (by rw [hz,hlen];omega)]
  have ha:asc C (fpOf c)=none:=by
   cases ha:asc C (fpOf c) with
   | none=>rfl
   | some pl=>exact absurd (List.mem_map.2 ⟨_,mem_of_asc ha,rfl⟩) (hC c (by simp))
  have hf:foundC (pre++layB pre.length (c::cs)) C [] (fpOf c) pre.length=(C++[(fpOf c,.at pre.length)],[]):=by
   unfold foundC;rw [ha];simp only;rw [setL_new (hC c (by simp))]
  rw [hf];simp only;obtain ⟨m,rfl⟩:∃ m,n=m+1:=⟨n-1,by simp at hl;omega⟩
  have h2:=ih (pre++(headB (fpOf c) 1 pre.length++c)) (C++[(fpOf c,.at pre.length)]) m (fun d hd=>hc d (by simp [hd])) (List.nodup_cons.1 hn).2 (fun d hd=>by
   rw [zE,zF];rintro (h | h)
   · exact hC d (by simp [hd]) h
   have e:fpOf d=fpOf c:=by simpa using h
   exact (List.nodup_cons.1 hn).1 (List.mem_map.2 ⟨d,hd,e⟩)) (by simp at hl;omega)
  have hpl:(pre++(headB (fpOf c) 1 pre.length++c)).length=pre.length+28+c.length:=by
   simp only [zA,headB_len];omega
  rw [hpl] at h2
  have e1:pre++layB pre.length (c::cs)=pre++(headB (fpOf c) 1 pre.length++c)++layB (pre.length+28+c.length) cs:=by
   rw [layB];simp only [zH]
  have e2:pre.length+(28+(fpOf c).2.toNat)=pre.length+28+c.length:=by rw [hz];omega
  rw [e2,e1,h2,layC];simp only [zH,List.singleton_append]
def tbytes (L:List Int) (n:Nat) (k:Int):Nat->List UInt8
 | 0=>[]
 | c+1=>tbytes L n k c++[UInt8.ofNat (tnext L (n+c) k).toNat]
theorem tbytes_len (L:List Int) (n:Nat) (k:Int):∀ c,(tbytes L n k c).length=c
 | 0=>rfl
 | c+1=>by rw [tbytes,zA,tbytes_len L n k c];rfl
theorem sb_const (w:World) (g:Nat) (hg:g=w.heap.size) (bs:List UInt8) (fr:Nat×Nat):SB (w.alloc (.cells (bs.map encU).toArray 5 fr)) (some ⟨g,0,none⟩) bs:=by
 subst hg;refine ⟨(fun e=>by cases e),fun ad e j u hu=>?_⟩;injection e with e;subst e;rw [lit_add,Nat.zero_add];have:(w.alloc (.cells (bs.map encU).toArray 5 fr)).heap[w.heap.size]? =some (.cells (bs.map encU).toArray 5 fr):=heap_alloc_new w _;rw [cell_of_row _ _ j _ _ _ this,List.getElem?_toArray];exact hu
theorem mk_slice (w:World) (n:Nat) (hn:n<=100000):∃ cs:Array Value,n<=cs.size/\(Instr.makeSlice 34 (.int .i64 0) (.int .i64 n)).run Tryz.prog w= .ok (.slice (some ⟨w.heap.size,0,none⟩) 0 n) (w.alloc (.cells cs 5)):=by
 obtain ⟨i0,hi,hz0,hz1,hz2⟩:=info_parts info5;have:=run_makeSlice (P:=Tryz.prog) w 34 5 i0 _ Tryz.underlying34 hi hz0 .i64 .i64 0 n (by omega) (by omega) (by rw [hz1];omega) (by rw [hz2];omega) (by omega);simp only [Int.toNat_zero,Int.toNat_natCast] at this;exact ⟨_,by rw [size_madeCells,hz1];omega,this⟩
section
variable {b:Nat} {w0 w w':World} {l:List Ob} {g:Nat} {A:Option Addr} {c:Nat} {L:List Int} {n:Nat}
theorem SW.newBuT {d:BD} {bs:List UInt8} (h:SW b w0 l w) (hb:Below w.heap.size w w') (hr:RB w' d bs) (hn:∀ g,blk d=some g->w.heap.size<=g):SW b w0 (bufOb d bs::l) w':=by
 have:=h.1.add (o':=bufOb d bs) hb hr (fun i hi=>⟨hn i hi,hr.lt hi⟩) (fun i hi=>hi.elim) (fun i hi=>hi.elim);exact ⟨this.1,h.2.trans this.2⟩
theorem SW.appB {d d':BD} {bs bs':List UInt8} (h:SW b w0 l w) (k:Nat) (hk:l[k]? =some (bufOb d bs)) (ha:AppB w d bs' d' w'):SW b w0 (l.set k (bufOb d' bs')) w':=⟨(h.1.app k hk ha).1,h.2.trans (h.1.app k hk ha).2⟩
theorem Bytes_x (h:SW b w0 l w) (kk:Nat) (hk:l[kk]? =some (tpOb g A c L n)) (m:Nat) (k:Int) (hm:m<=10000) (hk1:1<k) (hk2:k<=256) (hn:n+m<=1000000):
 Calls Tryz.prog 54 #[vPtr g,.int .i64 m,.int .i64 k] w (fun e w'=>∃ d,e= .returned (.slice d.A d.len d.cap)/\SW b w0 (bufOb d (tbytes L n k m)::l.set kk (tpOb g A c L (n+m))) w'):=by
 obtain ⟨cs,hcs,hmk⟩:=mk_slice w m (by omega);have hmx:max (m:Int) 0=m:=by omega
 have hkl:kk<l.length:=(List.getElem?_eq_some_iff.1 hk).1;have S0:Hid (SW b w0 (bufOb ⟨some ⟨w.heap.size,0,none⟩,0,m⟩ []::l) (w.alloc (.cells cs 5))):=h.newBuT ((Below.refl _ _).alloc (Nat.le_refl _) _) (new_bytes w cs _ _ _ _ rfl rfl (Nat.zero_le _) hcs (by simp)) (fun g hg=>by simp [blk] at hg;omega);have HK:=kh hk;clear h hk;go_enter Tryz.func54,Tryz.ntmps54;go_wp2_with fail
 go_loopw [7,8] (fun v i wr=>∃ (j:Nat) (d:BD),j<=m/\i= .int .i64 j/\v= .slice d.A d.len d.cap/\SW b w0 (bufOb d (tbytes L n k j)::l.set kk (tpOb g A c L (n+j))) wr) (fun _ i _=>m-(intOf i).toNat)
 case atStart=>
  refine ⟨0,⟨some ⟨w.heap.size,0,none⟩,0,m⟩,by omega,rfl,rfl,?_⟩;have e:l.set kk (tpOb g A c L (n+0))=l:=set_self l kk _ HK.out;rw [e];exact S0.out
 obtain ⟨j,d,hj,rfl,rfl,hs⟩:=hrel;have S1:=kh hs;clear hs hmk S0;have HN:=kh (Next_x S1.out (kk+1) (by rw [List.getElem?_cons_succ,List.getElem?_set_self hkl]) k (by omega) (by omega));simp only [List.set_cons_succ,List.set_set] at HN;by_cases hlt:j<m
 · go_wp2_with (first
    | (go_at_call 33;(with_reducible refine HN.out.mono ?_);refine halt_ ?_)
    | (at_builtin;refine halt_ ?_))
   rintro e w1 ⟨rfl,s2⟩;have S2:=kh s2;clear s2 HN;obtain ⟨hy0,hy1⟩:=tnext_in L (n+j) k;have hy1:=hy1 hk1;have HT:Hid (tbytes L n k (j+1)=tbytes L n k j++[UInt8.ofNat (tnext L (n+j) k).toNat]):=rfl;have HL:=kh (tbytes_len L n k j);generalize tbytes L n k j=bs at S1 S2 HL HT;generalize tnext L (n+j) k=y at hy0 hy1 HT |-; have hyw:IntKind.u8.wrap y=y:=IntWalk.u8_in y (by omega);obtain ⟨yb,hyb⟩:∃ yb:UInt8,((yb.toNat:Nat):Int)=y:=⟨UInt8.ofNat y.toNat,by rw [UInt8.toNat_ofNat'];omega⟩;subst hyb;have e1:UInt8.ofNat (((yb.toNat:Nat):Int)).toNat=yb:=by simp
   rw [e1] at HT;clear S1 e1;go_wp2_with (at_builtin;refine halt_ ?_)
   have hrb:RB w1 d bs:=S2.out.get 0 (o:=bufOb d bs) rfl;have SB1:Hid (SB (w1.alloc (.cells #[.int .u8 ((yb.toNat:Nat):Int)] 5)) (some ⟨w1.heap.size,0,none⟩) [yb]):=sb_const w1 _ rfl [yb] (0,0);refine wpList_append_bytes rfl _ _ rfl d bs rfl (hrb.on (bel1 _ _)) (some ⟨w1.heap.size,0,none⟩) 1 [yb] rfl SB1.out (by rw [HL.out];simp only [zC,List.length_nil];omega) ?_;intro d2 w2 hl2 happ
   have S3:Hid (SW b w0 (bufOb d2 (tbytes L n k (j+1))::l.set kk (tpOb g A c L (n+(j+1)))) w2):=by
    rw [Hid,HT.out];have:=(S2.out.alloc (.cells #[.int .u8 ((yb.toNat:Nat):Int)] 5)).appB 0 rfl happ;exact this
   clear happ hl2 hyw hy0 hy1 hrb SB1 S2;go_wp2_with fail
   go_roundw
   case rel=>exact ⟨j+1,d2,by omega,by go_num,rfl,S3.out⟩
   simp [intOf];omega
 obtain rfl:j=m:=by omega
 go_wp2_with fail
 go_ret;exact ⟨d,rfl,S1.out⟩
def textN (L:List Int) (n:Nat):Nat:=1+(tnext L n 4).toNat
def textB (L:List Int) (n:Nat):List UInt8:=tbytes L (n+1) 2 (textN L n)
theorem textN_in (L:List Int) (n:Nat):1<=textN L n/\textN L n<=4:=by
 obtain ⟨h1,h2⟩:=tnext_in L n 4;have:=h2 (by omega);unfold textN;omega
abbrev TextP (b:Nat) (w0:World) (l:List Ob) (kk g:Nat) (A:Option Addr) (c:Nat) (L:List Int) (n:Nat) (e:Ending) (w':World):Prop:=
 ∃ d,e= .returned (.slice d.A d.len d.cap)/\SW b w0 (bufOb d (textB L n)::l.set kk (tpOb g A c L (n+1+textN L n))) w'
end
def bitsL:Nat->List (List UInt8)
 | 0=>[[]]
 | n+1=>(bitsL n).flatMap fun t=>[0::t,1::t]
def allTexts:List (List UInt8):=bitsL 1++bitsL 2++bitsL 3++bitsL 4
structure IsText (bs:List UInt8):Prop where
 lo:1<=bs.length
 hi:bs.length<=4
 bit:∀ c∈bs,c=0∨c=1
theorem mem_bitsL:∀ (bs:List UInt8),(∀ c∈bs,c=0∨c=1)->bs∈bitsL bs.length
 | [],_=>by simp [bitsL]
 | c::bs,h=>by
  have ih:=mem_bitsL bs (fun d hd=>h d (List.mem_cons_of_mem _ hd));rw [zC,bitsL];refine List.mem_flatMap.2 ⟨bs,ih,?_⟩;rcases h c (List.mem_cons_self ..) with rfl | rfl<;>simp
theorem IsText.mem {bs:List UInt8} (h:IsText bs):bs∈allTexts:=by
 have hm:=mem_bitsL bs h.bit;have h1:=h.lo;have h2:=h.hi;unfold allTexts;simp only [zF];have:bs.length=1∨bs.length=2∨bs.length=3∨bs.length=4:=by omega
 rcases this with e | e | e | e<;>rw [e] at hm
 · exact .inl (.inl (.inl hm))
 · exact .inl (.inl (.inr hm))
 · exact .inl (.inr hm)
 exact .inr hm
theorem texts_nodup:(allTexts.map fpOf).Nodup:=by decide+kernel
theorem inj_of_nodup {α β:Type} (f:α->β):∀ (l:List α),(l.map f).Nodup->∀ a∈l,∀ b∈l,f a=f b->a=b
 | [],_,a,ha,_,_,_=>by cases ha
 | x::l,h,a,ha,b,hb,e=>by
  rw [zB,List.nodup_cons] at h;rcases List.mem_cons.1 ha with ha' | ha'
  · rcases List.mem_cons.1 hb with hb' | hb'
    · rw [ha',hb']
    exact absurd (List.mem_map.2 ⟨b,hb',by rw [<- e,ha']⟩) h.1
  rcases List.mem_cons.1 hb with hb' | hb'
  · exact absurd (List.mem_map.2 ⟨a,ha',by rw [e,hb']⟩) h.1
  exact inj_of_nodup f l h.2 a ha' b hb' e
theorem text_inj {a b:List UInt8} (ha:IsText a) (hb:IsText b) (e:fpOf a=fpOf b):a=b:=inj_of_nodup fpOf allTexts texts_nodup a ha.mem b hb.mem e
theorem tbytes_bit (L:List Int) (n:Nat):∀ c,∀ x∈tbytes L n 2 c,x=0∨x=1
 | 0,x,h=>by cases h
 | c+1,x,h=>by
  rw [tbytes] at h;rcases List.mem_append.1 h with h | h
  · exact tbytes_bit L n c x h
  rw [zG] at h;obtain ⟨h0,h1⟩:=tnext_in L (n+c) 2;have h1:=h1 (by omega);have:(tnext L (n+c) 2).toNat=0∨(tnext L (n+c) 2).toNat=1:=by omega
  rcases this with e | e
  · left
    rw [h,e];rfl
  right
  rw [h,e];rfl
theorem textB_is (L:List Int) (n:Nat):IsText (textB L n):=by
 obtain ⟨h1,h2⟩:=textN_in L n;have hl:(textB L n).length=textN L n:=tbytes_len _ _ _ _;exact ⟨by omega,by omega,tbytes_bit _ _ _⟩
theorem IsText.size {bs:List UInt8} (h:IsText bs):(fpOf bs).2=bs.length:=rfl
structure TX (x:SR) (P:List (List UInt8)):Prop where
 has:∀ i,(asc x.C i).isSome=decide (i∈P.map fpOf)
 val:∀ bs∈P,valC x (fpOf bs)=some bs
 text:∀ bs∈P,IsText bs
theorem TX.empty {x:SR} (h:x.C=[]):TX x []:=⟨fun i=>by rw [h];simp [asc],fun _ h=>(by cases h),fun _ h=>(by cases h)⟩
theorem TX.key {x:SR} {P:List (List UInt8)} (h:TX x P) {i:ID} (hi:i∈x.C.map (·.1)):∃ bs∈P,fpOf bs=i/\IsText bs:=by
 have h1:=asc_key.2 hi;rw [h.has i,decide_eq_true_eq] at h1;obtain ⟨bs,hb,e⟩:=List.mem_map.1 h1;exact ⟨bs,hb,e,h.text bs hb⟩
theorem TX.few {x:SR} {P:List (List UInt8)} (h:TX x P) (hn:(x.C.map (·.1)).Nodup):x.C.length<=30:=by
 have:=len_le_sub (x.C.map (·.1)) (allTexts.map fpOf) hn (fun i hi=>by
  obtain ⟨bs,hb,e,ht⟩:=h.key hi;exact List.mem_map.2 ⟨bs,ht.mem,e⟩)
 have e:(allTexts.map fpOf).length=30:=by decide+kernel
 rw [e] at this;simpa using this
theorem frSum_le:∀ (l:List ID),(∀ i∈l,i.2<=4)->frSum l<=32*l.length
 | [],_=>by simp [frSum]
 | i::l,h=>by
  have h1:=h i (List.mem_cons_self ..);have ih:=frSum_le l (fun j hj=>h j (List.mem_cons_of_mem _ hj));have e:frSum (i::l)=28+i.2.toNat+frSum l:=by simp [frSum]
  rw [e,zC];omega
theorem TX.pends {x:SR} {P:List (List UInt8)} (h:TX x P):frSum (Go.Proofs.YteabgcollokgjaaGreatDoor.pends x.C)<=32*(Go.Proofs.YteabgcollokgjaaGreatDoor.pends x.C).length:=frSum_le _ (fun i hi=>by
 obtain ⟨d,bs,hm⟩:=pends_mem hi;obtain ⟨t,_,e,ht⟩:=h.key (List.mem_map.2 ⟨_,hm,rfl⟩);have e:fpOf t=i:=e;rw [<- e,ht.size];have:=ht.hi;omega)
theorem pends_le (C:Chs):(pends C).length<=C.length:=by
 unfold pends;rw [zD];exact List.length_filter_le _ _
theorem TX.more {x:SR} {P:List (List UInt8)} (h:TX x P) {bs:List UInt8} (hb:bs∈P):TX x (P++[bs]):=by
 refine ⟨fun i=>?_,fun t ht=>?_,fun t ht=>?_⟩
 · rw [h.has i];congr 1
   simp only [zE,zB,List.map_nil,zF,zG,eq_iff_iff];constructor
   · exact .inl
   rintro (h1 | rfl)
   · exact h1
   exact List.mem_map.2 ⟨bs,hb,rfl⟩
 · rcases List.mem_append.1 ht with ht | ht
   · exact h.val t ht
   rw [List.mem_singleton.1 ht];exact h.val bs hb
 rcases List.mem_append.1 ht with ht | ht
 · exact h.text t ht
 rw [List.mem_singleton.1 ht];exact h.text bs hb
theorem TX.put {x:SR} {P:List (List UInt8)} (h:TX x P) {bs:List UInt8} (ht:IsText bs) (hn:asc x.C (fpOf bs)=none) (d:BD):TX (putS x (fpOf bs) d bs) (P++[bs]):=by
 have hni:fpOf bs ∉ P.map fpOf:=fun hm=>by
  have:=h.has (fpOf bs);rw [hn] at this;simp [hm] at this
 refine ⟨fun i=>?_,fun t hm=>?_,fun t hm=>?_⟩
 · show (asc (setL x.C (fpOf bs) (Pl.pend d bs)) i).isSome=_;rw [asc_setL];by_cases e:fpOf bs=i
   · rw [if_pos e];simp [e]
   rw [if_neg e,h.has i];congr 1
   simp only [zE,zB,List.map_nil,zF,zG,eq_iff_iff];constructor
   · exact .inl
   rintro (h1 | h1)
   · exact h1
   exact absurd h1.symm e
 · rw [put_val];rcases List.mem_append.1 hm with hm | hm
   · rw [if_neg (fun e=>hni (by rw [e];exact List.mem_map.2 ⟨t,hm,rfl⟩))];exact h.val t hm
   rw [List.mem_singleton.1 hm,if_pos rfl]
 rcases List.mem_append.1 hm with hm | hm
 · exact h.text t hm
 rw [List.mem_singleton.1 hm];exact ht
theorem layC_at (cs:List (List UInt8)):∀ o,∀ c∈layC o cs,∃ q,c.2=Pl.at q:=by
 induction cs with
 | nil=>intro o c hc;cases hc
 | cons d cs ih=>
  intro o c hc;rcases List.mem_cons.1 hc with rfl | hc
  · exact ⟨_,rfl⟩
  exact ih _ c hc
theorem layC_pends (o:Nat) (cs:List (List UInt8)):Go.Proofs.YteabgcollokgjaaGreatDoor.pends (layC o cs)=[]:=pends_none (layC_at cs o)
theorem layC_sum (cs:List (List UInt8)):∀ o,entSum (durs (layC o cs))=layN cs:=by
 induction cs with
 | nil=>intro o;rfl
 | cons c cs ih=>
  intro o;have e1:durs (layC o (c::cs))=(fpOf c,o)::durs (layC (o+28+c.length) cs):=rfl;have e2:∀ (y:Ent) l,entSum (y::l)=28+y.1.2.toNat+entSum l:=fun y l=>by simp [entSum]
  have e3:layN (c::cs)=28+c.length+layN cs:=by simp [layN]
  have e4:((fpOf c).2).toNat=c.length:=by simp [fpOf]
  rw [e1,e2,e3,ih,e4]
theorem scan_lay0 (cs:List (List UInt8)) (hc:∀ c∈cs,1<=c.length/\c.length<=8192) (hn:(cs.map fpOf).Nodup):scanF (layB 0 cs) (layB 0 cs).length 0 [] [] true=(layC 0 cs,[],true):=by
 cases cs with
 | nil=>rfl
 | cons c cs=>
  have hl:cs.length+1<=layN (c::cs):=by
   have:∀ cs:List (List UInt8),cs.length<=layN cs:=by
    intro cs;induction cs with
    | nil=>simp
    | cons d cs ih=>
     have e3:layN (d::cs)=28+d.length+layN cs:=by simp [layN]
     rw [e3,zC];omega
   exact this (c::cs)
  have hl2:layN (c::cs)=28+c.length+layN cs:=by simp [layN]
  obtain ⟨m,hm⟩:∃ m,(layB 0 (c::cs)).length=m+1:=⟨(layB 0 (c::cs)).length-1,by rw [layB_len];omega⟩
  have:=scan_lay (c::cs) [] [] m (fun d hd=>by have:=hc d hd;omega) hn (by simp) (by
   have:=layB_len 0 (c::cs)
   have h3:cs.length+1<=layN cs+1:=by
    have:∀ cs:List (List UInt8),cs.length<=layN cs:=by
     intro cs;induction cs with
     | nil=>simp
     | cons d cs ih=>
      have e3:layN (d::cs)=28+d.length+layN cs:=by simp [layN]
      rw [e3,zC];omega
    have:=this cs;omega
   rw [zC];omega)
  rw [hm];simpa using this
theorem reopen_cl {ns:List ByteArray} {x:SR} {f:FR} {D:List UInt8} {H fb sb:Nat} (h:Cl ns x) (hF:x.F=some f) (hD:x.s.now (fileN x.nm)=some D) (hl:LayD D x.C) (hp:∀ c∈x.C,∃ o,c.2=Pl.at o):
 Cl ns (openedF x.p x.r x.s x.nm H fb sb D)/\LayS (openedF x.p x.r x.s x.nm H fb sb D)/\(∀ i,asc (openedF x.p x.r x.s x.nm H fb sb D).C i=asc x.C i):=by
 obtain ⟨cs,rfl,hsz,hnd,hat⟩:=hl;have hsc:=scan_lay0 cs hsz hnd;have hk:((layC 0 cs).map (·.1)).Nodup:=by rw [layC_keys];exact hnd
 have hmem:∀ c,c∈layC 0 cs↔c∈x.C:=fun c=>by
  obtain ⟨i,pl⟩:=c;constructor
  · intro hc;obtain ⟨q,e⟩:=layC_at cs 0 _ hc;simp only at e;subst e;exact (hat i q).2 hc
  intro hc;obtain ⟨q,e⟩:=hp _ hc;simp only at e;subst e;exact (hat i q).1 hc
 have hasc:∀ i,asc (layC 0 cs) i=asc x.C i:=fun i=>by
  cases h1:asc x.C i with
  | some pl=>exact asc_mem hk ((hmem _).2 (mem_of_asc h1))
  | none=>
   cases h2:asc (layC 0 cs) i with
   | none=>rfl
   | some pl=>
    have:=asc_mem h.keys ((hmem _).1 (mem_of_asc h2));rw [h1] at this;cases this
 obtain ⟨hT,D',hD',hDl,hcut⟩:=h.file f hF;rw [hD] at hD';injection hD' with hD';subst hD';unfold openedF;rw [hsc];simp only
 refine ⟨{
  live:=rfl
  up:=h.up
  name:=h.name
  few:=by
   have:=len_le_sub _ (x.C.map (·.1)) hk (fun a ha=>by
    obtain ⟨c,hc,rfl⟩:=List.mem_map.1 ha;exact List.mem_map.2 ⟨c,(hmem c).1 hc,rfl⟩)
   rw [zD,zD] at this;exact Nat.le_trans this h.few
  ids:=fun c hc=>h.ids c ((hmem c).1 hc)
  offs:=fun i o hc=>h.offs i o ((hmem _).1 hc)
  pends:=fun i d bs hc=>by obtain ⟨q,e⟩:=layC_at cs 0 _ hc;cases e
  whole:=fun f' hf'=>by injection hf' with hf';rw [<- hf']
  own:=fun i d bs hc=>by obtain ⟨q,e⟩:=layC_at cs 0 _ hc;cases e
  ops:=h.ops
  files:=h.files
  ids8:=fun c hc=>h.ids8 c ((hmem c).1 hc)
  wait0:=by simp
  wait1:=by simp
  keys:=hk
  f0:=h.f0
  nv:=h.nv
  ns1:=h.ns1
  ns2:=h.ns2
  ns3:=h.ns3
  no:=fun hn=>by cases hn
  file:=fun f' hf'=>by
   injection hf' with hf';rw [<- hf'];exact ⟨rfl,layB 0 cs,hD,rfl,fun i o hc=>hcut i o ((hmem _).1 hc)⟩
  len:=by
   have:=h.len;rw [hF] at this;simp only [flen] at this |-; omega
  waits:=by rw [layC_pends];rfl
  pA:=fun i d bs hc=>by obtain ⟨q,e⟩:=layC_at cs 0 _ hc;cases e
  size:=rfl
  frames:=by
   rw [layC_sum];simp only [flen];rw [layB_len];exact Nat.le_refl _ },fun f' hf'=>⟨layB 0 cs,hD,cs,rfl,hsz,hnd,fun i o=>Iff.rfl⟩,hasc⟩
end
end Go.Proofs.YteabgcollokgjaaGreatDoor
