/- Q -/
import Derived.RegionTactic
import Derived.ChangeAlike
import Derived.Test.YteabgcollokgjaaGreatDoorQ28
import Derived.Deep.RegionWith
set_option linter.unusedSimpArgs false
set_option linter.unusedVariables false
set_option maxRecDepth 100000
set_option maxHeartbeats 32000000
open Go.Lib (hid)
open List renaming getD_eq_getElem?_getD → zA,getElem?_eq_getElem → zB
namespace Go.Proofs.YteabgcollokgjaaGreatDoor
section
open Go.RowKit
attribute [local go_sem] wext_cell
def sumZ (l:List ID):Int:=(l.map (·.2)).sum
theorem sumZ_snoc (l:List ID) (i:ID):sumZ (l++[i])=sumZ l+i.2:=by simp [sumZ]
structure Man where
 size:Int
 ids:List ID
def validB (i:ID):Bool:=decide (0<=i.2)&&decide (i.2<=1048576)&&decide (i.1<2305843009213693951)&&(decide (0<i.2)||i.1==0)
theorem Valid_any (s z:Int) (w:World):Calls Tryz.prog 165 #[.agg #[.int .u64 s,.int .i64 z]] w (Gives (.bool (validB (s,z))) w):=by
 have fin:∀ b:Bool,validB (s,z)=b->∀ W,W=w.alloc (.cells #[.int .u64 s,.int .i64 z] 31)->Gives (.bool (validB (s,z))) w (.returned (.bool b)) W:=by
  rintro b h W rfl;exact ⟨by rw [h],bel1 _ _⟩
 by_cases h1:0<=z
 · by_cases h2:z<=1048576
   · by_cases h3:s<2305843009213693951
     · by_cases h4:0<z
       · go_enter Tryz.func165,Tryz.ntmps165;go_wp2_with fail
         go_ret;exact fin _ (by simp [validB];omega) _ rfl
       by_cases h5:s=0
       · subst h5;have V:Hid (validB (0,z)=true):=by simp [Hid,validB];omega
         go_enter Tryz.func165,Tryz.ntmps165;go_wp2_with fail
         go_ret;exact fin _ V.out _ rfl
       have hb:(s==0)=false:=by rw [beq_eq_false_iff_ne];exact h5
       go_enter Tryz.func165,Tryz.ntmps165;go_wp2_with fail
       go_ret;exact fin _ (by simp [validB];omega) _ rfl
     go_enter Tryz.func165,Tryz.ntmps165;go_wp2_with fail
     go_ret;exact fin _ (by simp [validB];omega) _ rfl
   go_enter Tryz.func165,Tryz.ntmps165;go_wp2_with fail
   go_ret;exact fin _ (by simp [validB];omega) _ rfl
 go_enter Tryz.func165,Tryz.ntmps165;go_wp2_with fail
 go_ret;exact fin _ (by simp [validB];omega) _ rfl
def chunkB (i:ID):Bool:=validB i&&decide (1<=i.2)&&decide (i.2<=8192)
def manE (m:Man):Int:=if 1024<m.ids.length then 251 else if m.ids.all chunkB=false then 250 else if m.size=sumZ m.ids/\m.size<=1048576 then 0 else 252
theorem getD_mem {α:Type} (l:List α) (d:α) (k:Nat) (h:k<l.length):l.getD k d∈l:=by
 rw [zA,zB h];exact List.getElem_mem h
theorem take_snoc {α:Type} (l:List α) (d:α) (k:Nat) (h:k<l.length):l.take (k+1)=l.take k++[l.getD k d]:=by
 rw [List.take_add_one,zA,zB h];rfl
theorem chunkB_sound {i:ID} (h:chunkB i=true):1<=i.2/\i.2<=8192:=by
 simp [chunkB] at h;omega
theorem sum_take_bd {l:List ID}:∀ {k:Nat},(l.take k).all chunkB=true->0<=sumZ (l.take k)/\sumZ (l.take k)<=8192*k:=by
 have key:∀ (l:List ID),l.all chunkB=true->0<=sumZ l/\sumZ l<=8192*l.length:=by
  intro l;induction l with
  | nil=>intro _;simp [sumZ]
  | cons i l ih=>
   intro h;rw [List.all_cons,Bool.and_eq_true] at h;have h1:=chunkB_sound h.1;have h2:=ih h.2;simp only [sumZ,List.map_cons,List.sum_cons,List.length_cons] at *; omega
 intro k h;have:=key _ h;have hl:(l.take k).length<=k:=by rw [List.length_take];omega
 omega
theorem manE_bad {m:Man} {k:Nat} (hl:m.ids.length<=1024) (hk:k<m.ids.length) (h:chunkB (m.ids.getD k (0,0))=false):manE m=250:=by
 unfold manE;rw [if_neg (by omega),if_pos];rw [List.all_eq_false];exact ⟨_,getD_mem _ _ _ hk,by rw [h];simp⟩
theorem manE_end {m:Man} (hl:m.ids.length<=1024) (h:m.ids.all chunkB=true):manE m=if m.size=sumZ m.ids/\m.size<=1048576 then 0 else 252:=by
 unfold manE;rw [if_neg (by omega),if_neg (by simp [h])]
theorem manCheck_any (x:Nat) (m:Man) (A:Option Addr) (c:Nat) (w:World) (hr:RdID w x A m.ids) (hn:m.ids.length<=9223372036854775807):
 Calls Tryz.prog 108 #[.agg #[.int .i64 m.size,.slice A m.ids.length c]] w (Gives (.int .i64 (manE m)) w):=by
 have Hr:=hid hr;clear hr;by_cases hl:m.ids.length<=1024
 · go_enter Tryz.func108,Tryz.ntmps108;go_wp2_with fail
   go_loopw [3,13] (fun n i wr=>∃ k:Nat,k<=m.ids.length/\i= .int .i64 k/\n= .int .i64 (sumZ (m.ids.take k))/\(m.ids.take k).all chunkB=true/\IsB wr w.heap.size 89 #[.int .i64 m.size,.slice A m.ids.length c]/\Below w.heap.size w wr) (fun _ i _=>m.ids.length-(intOf i).toNat)
   case atStart=>exact ⟨0,Nat.zero_le _,rfl,by simp [sumZ],by simp,IsB.new _ _ _,bel1 _ _⟩
   obtain ⟨k,hk,rfl,rfl,hall,hB,hb⟩:=hrel;have hsz:=hb.size;have hbd:=sum_take_bd hall;have HB:=hid hB;have Hall:=hid hall;clear hB hall;obtain ⟨S,HS⟩:∃ S,Hid (sumZ (m.ids.take k)=S):=⟨_,rfl⟩;rw [HS.out] at hbd |-; by_cases hlt:k<m.ids.length
   · obtain ⟨b,o,rfl,hbB,_,hc⟩:=Hr.out (by omega);obtain ⟨s,z,HI⟩:∃ s z,Hid (m.ids.getD k (0,0)=(s,z)):=⟨_,_,rfl⟩;have hc0:wr.cell? ⟨b,o+k*2,none⟩=some (.int .u64 s):=by rw [hb.cell (p:=⟨b,o+k*2,none⟩) hbB];exact hc k hlt 0 _ (by rw [HI.out];rfl)
     have hc1:wr.cell? ⟨b,o+k*2+1,none⟩=some (.int .i64 z):=by rw [hb.cell (p:=⟨b,o+k*2+1,none⟩) hbB];exact hc k hlt 1 _ (by rw [HI.out];rfl)
     clear hc;go_wp2_with fail
     refine (Valid_any s z _).mono ?_;rintro e w1 ⟨rfl,hb1⟩;have hn0:w1.cell? ⟨wr.heap.size,0,none⟩=some (.int .u64 s):=by rw [hb1.cell (p:=⟨wr.heap.size,0,none⟩) (by simp)];exact new_cell _ _ _ _ rfl 0
     have hn1:w1.cell? ⟨wr.heap.size,1,none⟩=some (.int .i64 z):=by rw [hb1.cell (p:=⟨wr.heap.size,1,none⟩) (by simp)];exact new_cell _ _ _ _ rfl 1
     have hbw:Hid (Below w.heap.size w w1):=(hb.alloc hb.size _).trans (hb1.mono (by simp;omega));have HB1:Hid (IsB w1 w.heap.size 89 #[.int .i64 m.size,.slice (some ⟨b,o,none⟩) m.ids.length c]):=(HB.out.alloc _).on hb1;clear hb1;cases hv:validB (s,z) with
     | false=>
      have HE:Hid (manE m=250):=manE_bad hl hlt (by rw [HI.out];simp [chunkB,hv]);clear hv;go_wp2_with fail
      go_ret;exact gv HE.out (hbw.out)
     | true=>
      by_cases h1:z<1
      · have HE:Hid (manE m=250):=manE_bad hl hlt (by rw [HI.out];simp [chunkB];omega);clear hv;go_wp2_with fail
        go_ret;exact gv HE.out (hbw.out)
      by_cases h2:8192<z
      · have HE:Hid (manE m=250):=manE_bad hl hlt (by rw [HI.out];simp [chunkB];omega);clear hv;go_wp2_with fail
        go_ret;exact gv HE.out (hbw.out)
      have HC:Hid (chunkB (s,z)=true):=by simp [Hid,chunkB,hv];omega
      clear hv;go_wp2_with fail
      go_roundw
      case rel=>exact ⟨k+1,by omega,by go_num,by rw [take_snoc _ (0,0) _ hlt,sumZ_snoc,HS.out,HI.out],by rw [take_snoc _ (0,0) _ hlt,List.all_append,Hall.out,HI.out];simp [HC.out],HB1.out,hbw.out⟩
      simp [intOf];omega
   obtain rfl:k=m.ids.length:=by omega
   rw [List.take_length] at Hall HS;have hE:=manE_end hl Hall.out;rw [HS.out] at hE;have hc0:wr.cell? ⟨w.heap.size,0,none⟩=some (.int .i64 m.size):=by rw [HB.out.cell];rfl
   by_cases h1:m.size=S
   · subst h1;by_cases h2:m.size<=1048576
     · rw [if_pos ⟨rfl,h2⟩] at hE;have HE:=hid hE;clear hE;go_wp2_with fail
       go_ret;exact gv HE.out (hb)
     rw [if_neg (by omega)] at hE;have HE:=hid hE;clear hE;go_wp2_with fail
     go_ret;exact gv HE.out (hb)
   have hbe:(m.size !=S)=true:=by rw [bne_iff_ne];exact h1
   rw [if_neg (by omega)] at hE;have HE:=hid hE;clear hE h1;go_wp2_with fail
   go_ret;exact gv HE.out (hb)
 have HE:Hid (manE m=251):=by unfold Hid manE;rw [if_pos (by omega)]
 go_enter Tryz.func108,Tryz.ntmps108;go_wp2_with fail
 go_ret;exact gv HE.out (bel1 _ _)
end
section
open Go.RowKit Go.MapKept Go.ChangeMaps
attribute [local go_sem] wext_cell
theorem manE_len {m:Man} (h:manE m=0):m.ids.length<=1024:=by
 unfold manE at h;split at h
 · cases h
 omega
theorem manE_all {m:Man} (h:manE m=0):m.ids.all chunkB=true:=by
 unfold manE at h;split at h
 · cases h
 split at h
 · cases h
 rename_i h2
 simpa using h2
end
section
open Go.RowKit Go.MapKept Go.ChangeMaps Go.Shelf Go.Sort
attribute [local go_sem] wext_cell

end
section
open Go.RowKit
attribute [local go_sem] wext_cell

end
section
open Go.RowKit
attribute [local go_sem] wext_cell

end
section
open Go.RowKit Go.MapKept Go.ChangeMaps Go.Shelf Go.Sort
theorem rdID_of {w:World} {A:Option Addr} {ids:List ID} (h:(riOb A ids).holds w):RdID w w.heap.size A ids:=by
 intro hp;cases A with
 | none=>
  have:=h.1 rfl;rw [this] at hp;simp at hp
 | some ad=>
  obtain ⟨g,rfl,hr,hlt⟩:=h.2 ad rfl;refine ⟨g,0,rfl,hlt,by omega,fun j hj i v hv=>?_⟩;obtain ⟨a0,a1,_,_⟩:=hr.cells hj rfl;match i,hv with
  | 0,hv=>
   simp [encID] at hv;subst hv;simpa using a0
  | 1,hv=>
   simp [encID] at hv;subst hv;simpa using a1
  | i+2,hv=>simp [encID] at hv
end
section
open Go.RowKit Go.MapKept Go.ChangeMaps Go.Shelf Go.Sort
attribute [local go_sem] wext_cell

end
section
open Go.RowKit Go.MapKept Go.ChangeMaps Go.Shelf Go.Sort
attribute [local go_sem] wext_cell

end
section
open Go.RowKit Go.MapKept Go.ChangeMaps Go.Shelf Go.Sort
attribute [local go_sem] wext_cell
end
section
open Go.RowKit Go.MapKept Go.ChangeMaps Go.Shelf Go.Sort
attribute [local go_sem] wext_cell
end
section
open Go.RowKit Go.MapKept Go.ChangeMaps Go.Shelf Go.Sort
abbrev nmS:ByteArray:=⟨#[115]⟩
theorem nmS_ok:nameV nmS=true:=by decide+kernel
abbrev bAB:List UInt8:=[97,98]
def iAB:ID:=fpOf bAB
theorem iAB_ne:iAB≠(1,1):=by decide+kernel
theorem iAB_ok:okID iAB:=okID_fp bAB (by decide)
theorem rs_const (w:World) (g:Nat) (hg:g=w.heap.size) (bs:List UInt8) (fr:Nat×Nat):RS (w.alloc (.cells (bs.map encU).toArray 5 fr)) (some ⟨g,0,none⟩) bs:=by
 subst hg;refine ⟨(fun e=>by cases e),fun ad e=>?_⟩;injection e with e;subst e;refine ⟨_,0,rfl,fun j hj=>?_⟩;have:(w.alloc (.cells (bs.map encU).toArray 5 fr)).heap[w.heap.size]? =some (.cells (bs.map encU).toArray 5 fr):=heap_alloc_new w _;rw [Nat.zero_add,cell_of_row _ _ j _ _ _ this,List.getElem?_toArray,List.getElem?_map,zB hj,zA,zB hj];rfl
theorem known33_any (w:World):Calls Tryz.prog 22 #[] w (fun e w'=>e= .returned (.bool true)/\Below w.heap.size w w'):=by
 have kc:=fun (w:World) (C:Array Value) (n c:Nat)=>Lib.run_convert_bytes_const (P:=Tryz.prog) w 34 5 C n c Tryz.underlying34 Tryz.underlying5
 have kc1:=fun (w:World) (o:Obj) (C:Array Value) (n c:Nat)=>(show Sem.run Tryz.prog (convert 34 34 (.slice (some ⟨w.heap.size+1,0,none⟩) n c)) ((w.alloc o).alloc (.cells C 5))= .ok (.slice (some ⟨w.heap.size+1,0,none⟩) n c) ((w.alloc o).alloc (.cells C 5 (C.size,C.size+1))) from by
  have:=kc (w.alloc o) C n c;simpa using this)
 go_enter Tryz.func22,Tryz.ntmps22;go_wp2_with fail
 refine (New_L _).mono ?_;rintro e w1 ⟨r,rfl,hs⟩;have S1:=hid hs;clear hs;go_wp2_with fail
 refine (Open_L (ns:=[fileN nmS]) S1.out nmS nmS_ok rfl rfl (fun _=>rfl) (by decide) (by simp) (by simp)).mono ?_;rintro e w2 ⟨x0,rfl,hs,hc,hC,hF,hnm,_,hw,hby⟩;have S2:=hid hs;have C2:=hid hc;have HC:=hid hC;have HF:=hid hF;have HN:=hid hnm;have HW:=hid hw;clear hs hc hC hF hnm hw hby S1;go_wp2_with fail
 have S2b:Hid (SW w.heap.size w (x0.obs []) (w2.alloc (Obj.cells #[Value.int .u8 97,Value.int .u8 98] 5 (2,3)))):=S2.out.alloc _;refine (PutN_L S2b.out C2.out _ 2 bAB (rs_const w2 _ rfl bAB (2,3)) (by decide) (by decide) (by rw [HC.out];rfl) (by rw [HC.out];decide)).mono ?_;rintro e w3 ⟨rfl,d,hs,hc⟩;have S3:=hid hs;have C3:=hid hc;clear hs hc S2b S2 C2;rw [show fpOf bAB=iAB from rfl] at *; obtain ⟨x1,HX⟩:∃ x1,Hid (putS x0 iAB d bAB=x1):=⟨_,rfl⟩;rw [HX.out] at S3 C3;have hps:x0.ps=x1.ps:=by rw [<- HX.out];rfl
 rw [hps];clear hps;go_wp2_with fail
 have S3b:=hid (((S3.out.newCell 31 #[.int .u64 iAB.1,.int .i64 iAB.2]).behind).alloc (Obj.cells #[Value.int .u8 97,Value.int .u8 98] 5 (2,3)));have hv1:valC x1 iAB=some bAB:=by rw [<- HX.out];exact (put_val x0 bAB d iAB).trans (if_pos rfl)
 refine (PutS_L S3b.out C3.out _ 2 bAB (rs_const (w3.alloc (Obj.cells #[.int .u64 iAB.1,.int .i64 iAB.2] 31)) _ (by simp) bAB (2,3)) (by decide) (by decide) hv1).mono ?_;rintro e w4 ⟨rfl,hs⟩;rw [show fpOf bAB=iAB from rfl];have S4:=hid (hs.alloc (Obj.cells #[.int .u64 iAB.1,.int .i64 iAB.2] 31));have HV1:=hid hv1;have hw1:x1.wait=1:=by rw [<- HX.out];simp [putS,HW.out]
 have hC1:x1.C=[(iAB,.pend d bAB)]:=by rw [<- HX.out];simp [putS,HC.out,setL]
 have hF1:x1.F=none:=by rw [<- HX.out];exact HF.out
 have hdA:=(C3.out.pA iAB d bAB (by rw [hC1];simp)).1;have hpn:pends x1.C=[iAB]:=by rw [hC1];simp [pends,Pl.A,hdA]
 clear hs S3b hv1;have HP:=hid (Pending_L S4.out 1 hw1);have HFL:=hid (Flush_L S4.out C3.out (by rw [hpn];simp) (by rw [hpn,hF1];simp [flen,frSum];decide));have HW1:=hid hw1;have HC1:=hid hC1;have HF1:=hid hF1;clear hw1 hC1 hF1 hdA hpn;go_wp2_with (first | (go_at_call 29;(with_reducible refine HP.out.mono ?_);rintro e w5 ⟨rfl,rfl⟩) | (go_at_call 35;(with_reducible refine HFL.out.mono ?_);refine halt_ ?_))
 rintro e w5 ⟨rfl,x2,hs,hc,hfl⟩;rw [<- hfl.ps];have S5:=hid hs;have C5:=hid hc;have hv2:valC x2 iAB=some bAB:=(hfl.val iAB).trans HV1.out;have HV2:=hid hv2;have HP2:=hid (Pending_L S5.out 0 hfl.wait);have HFL2:=hid hfl;have HG:=hid (Get_L S5.out C5.out iAB iAB_ok bAB hv2);have k0:w5.cell? ⟨w3.heap.size,0,none⟩=some (.int .u64 iAB.1):=(S5.out.cell 4 rfl).cell 0;have k1:w5.cell? ⟨w3.heap.size,1,none⟩=some (.int .i64 iAB.2):=(S5.out.cell 4 rfl).cell 1;clear hs hc hfl hv2 HP HFL;go_wp2_with (first | (go_at_call 29;(with_reducible refine HP2.out.mono ?_);rintro e w6 ⟨rfl,rfl⟩) | (go_at_call 30;(with_reducible refine HG.out.mono ?_);refine halt_ ?_))
 rintro e w6 ⟨d1,rfl,hs⟩;have S6:=hid hs;have k0:w6.cell? ⟨w3.heap.size,0,none⟩=some (.int .u64 iAB.1):=(S6.out.cell 5 rfl).cell 0;have k1:w6.cell? ⟨w3.heap.size,1,none⟩=some (.int .i64 iAB.2):=(S6.out.cell 5 rfl).cell 1;clear hs HP2 HG;go_wp2_with fail
 have S7:=hid ((S6.out.newIds2 iAB (1,1)).behind)
 have has2:∀ i,(asc x2.C i).isSome=decide (iAB=i):=fun i=>by
  rw [HFL2.out.has i,HC1.out];simp only [asc];by_cases e:iAB=i<;>simp [e]
 have hone:goneL x2.C [iAB,(1,1)]=[(iAB,true)]:=by
  have h1:=has2 iAB;have h2:=has2 (1,1);rw [decide_eq_true rfl] at h1;rw [decide_eq_false iAB_ne] at h2;simp [goneL,gstep,h1,h2,setL]
 refine (Rem_L S7.out C5.out _ 2 [iAB,(1,1)] (by simp) (fun i hi=>?_) (by simp)).mono ?_
 · simp only [List.mem_cons,List.not_mem_nil,or_false] at hi;rcases hi with rfl | rfl
   · exact iAB_ok
   exact okID_of (by decide) (by decide) (by decide) (by decide)
 rintro e w7 ⟨he,x3,hs,hc,hgn⟩;rw [hone] at he;subst he;rw [<- hgn.ps];have S8:=hid hs;have C8:=hid hc
 have hno:asc x3.C iAB=none:=by
  have:=hgn.has iAB;cases hx:asc x3.C iAB with
  | none=>rfl
  | some v=>rw [hx] at this;simp at this
 have k0:w7.cell? ⟨w3.heap.size,0,none⟩=some (.int .u64 iAB.1):=(S8.out.cell 6 rfl).cell 0;have k1:w7.cell? ⟨w3.heap.size,1,none⟩=some (.int .i64 iAB.2):=(S8.out.cell 6 rfl).cell 1;have HG:=hid (GetN_L S8.out C8.out iAB iAB_ok hno);clear hs hc hgn hno hone has2;go_wp2_with (go_at_call 30;(with_reducible refine HG.out.mono ?_);refine halt_ ?_)
 rintro e w8 ⟨d2,rfl,hs⟩;have S9:=hid hs;have v1:=conv_rb (S9.out.get 6 (o:=bufOb d1 bAB) rfl);clear hs HG k0 k1;go_wp2_with fail
 go_ret;exact ⟨rfl,S9.out.2⟩
section
variable {ns:List ByteArray} {b:Nat} {w0 w w':World} {l:List Ob} {x:SR}
theorem New_S (h:SW b w0 l w):Calls Tryz.prog 21 #[] w (fun e w'=>∃ r,e= .returned (vPtr (w.heap.size+2))/\SW b w0 (devOb (w.heap.size+2) r St.new::l) w'):=by
 refine (New_any w).mono ?_;rintro e w' ⟨rfl,hd,hb⟩;refine ⟨_,rfl,h.addN hb hd (fun i hi=>⟨?_,hd.own_lt hi⟩) (fun i hi=>⟨?_,hd.reads_lt hi⟩)⟩
 · rcases hi with hi | ⟨q,hq,rfl⟩
   · rcases hi with rfl | rfl | rfl | hi
     · omega
     · exact Nat.le_refl _
     · exact Nat.le_succ _
     cases hi
   cases hq
 obtain ⟨d,hd,_⟩:=hi;rcases hd with ⟨_,he,_⟩ | ⟨_,he,_⟩ | ⟨_,he,_⟩<;>cases he
theorem IDs_S (h:SW b w0 (x.obs l) w) (hn:x.C.length<=49):Calls Tryz.prog 28 #[vPtr x.ps] w (fun e w'=>∃ A c ys,e= .returned (.slice A ys.length c)/\ys.Perm (x.C.map (·.1))/\SortedI ys/\SW b w0 (riOb A ys::x.obs l) w'):=by
 refine (IDs_anyC h.1 hn).mono ?_;rintro e w' ⟨A,c,ys,rfl,hp,hs,hr,hb,hc⟩;have e:x.C.filter (fun c=>(fun _=>true) c.2)=x.C:=List.filter_eq_self.2 (fun _ _=>rfl);rw [e] at hp;refine ⟨A,c,ys,rfl,hp,hs,h.addN hb ⟨hr.1,fun ad e=>?_⟩ (fun i hi=>hi.elim) (fun i hi=>?_)⟩
 · obtain ⟨g,e1,h1,h2,h3⟩:=hr.2 ad e;exact ⟨g,e1,h1,h3⟩
 obtain ⟨g,e1,h1,h2,h3⟩:=hr.2 _ hi;injection e1 with e1;rw [e1];exact ⟨h2,h3⟩
end
end
section
open Go.RowKit Go.MapKept Go.ChangeMaps Go.Shelf Go.Sort
attribute [local go_sem] wext_cell
end
section
open Go.RowKit Go.MapKept Go.ChangeMaps Go.Shelf Go.Sort
attribute [local go_sem] wext_cell
def Syn (w:World):Prop:=∃ ev,w.cell? ⟨0,0,none⟩=some ev/\(ev= .nilIface∨∃ te pe,ev= .iface te pe)
theorem Syn.on {b:Nat} {w w':World} (h:Syn w) (h0:0<b) (hb:Below b w w'):Syn w':=by
 obtain ⟨ev,h1,h2⟩:=h;exact ⟨ev,(hb.cell (p:=⟨0,0,none⟩) h0).trans h1,h2⟩
def Alien (nm m:ByteArray):Prop:=m=freshN nm∨(Lib.hasPrefix m.data.toList (nm++⟨#[46]⟩:ByteArray).data.toList=false/\m.size<=18)
theorem pre_new (nm:ByteArray) (w:World):Calls Tryz.prog 131 #[.string (freshN nm),.string (nm++⟨#[46]⟩)] w (fun e w'=>e= .returned (.tuple #[.string ⟨#[110,101,119]⟩,.bool true])/\w=w'):=by
 have hf:(freshN nm).data.toList=(nm++⟨#[46]⟩:ByteArray).data.toList++[110,101,119]:=by
  unfold freshN;rw [ByteArray.data_append,Array.toList_append,ByteArray.data_append,Array.toList_append,List.append_assoc];rfl
 have h1:Lib.hasPrefix (freshN nm).data.toList (nm++⟨#[46]⟩:ByteArray).data.toList=true:=by
  unfold Lib.hasPrefix;rw [hf];exact List.isPrefixOf_iff_prefix.2 (List.prefix_append _ _)
 have h2:Lib.trimPrefix (freshN nm).data.toList (nm++⟨#[46]⟩:ByteArray).data.toList=[110,101,119]:=by
  unfold Lib.trimPrefix;rw [if_pos h1,hf,List.drop_left]
 have h:=Tryz.strings_CutPrefix (freshN nm) (nm++⟨#[46]⟩) w;rw [h1,h2] at h;exact h.mono (fun e w' h=>⟨h.1,h.2.symm⟩)
theorem pre_no {nm m:ByteArray} (h1:Lib.hasPrefix m.data.toList (nm++⟨#[46]⟩:ByteArray).data.toList=false) (w:World):Calls Tryz.prog 131 #[.string m,.string (nm++⟨#[46]⟩)] w (fun e w'=>e= .returned (.tuple #[.string m,.bool false])/\w=w'):=by
 have h2:Lib.trimPrefix m.data.toList (nm++⟨#[46]⟩:ByteArray).data.toList=m.data.toList:=by
  unfold Lib.trimPrefix;rw [if_neg (by rw [h1];simp)]
 have h:=Tryz.strings_CutPrefix m (nm++⟨#[46]⟩) w;rw [h1,h2] at h;exact h.mono (fun e w' h=>⟨h.1,h.2.symm⟩)
theorem atoiNew:Lib.atoi [110,101,119]=none:=by kernel_rfl
theorem atoi_bad (m:ByteArray) (hl:m.size<=18) (ha:Lib.atoi m.data.toList=none) (w:World) (hS:Syn w):Calls Tryz.prog 132 #[.string m] w (fun e w'=>∃ N,e= .returned (.tuple #[.int .i64 0,.iface 297 (.pointer (some ⟨N,0,none⟩))])/\Below w.heap.size w w'):=by
 obtain ⟨ev,hv,hev⟩:=hS;refine (Any.strconv_Atoi_err Tryz.atoiC m hl ha ev w hv hev).mono ?_;rintro e w' ⟨N,rfl, -, -, hb⟩;exact ⟨N,rfl,hb⟩
theorem atoi_all (m:ByteArray) (hl:m.size<=18) (w:World) (hS:Syn w):Calls Tryz.prog 132 #[.string m] w (fun e w'=>∃ n v,e= .returned (.tuple #[.int .i64 n,v])/\Below w.heap.size w w'):=by
 cases ha:Lib.atoi m.data.toList with
 | none=>
  refine (atoi_bad m hl ha w hS).mono ?_;rintro e w' ⟨N,rfl,hb⟩;exact ⟨_,_,rfl,hb⟩
 | some v=>
  refine (Any.strconv_Atoi Tryz.atoiC.toM.ton172 m v hl ha w).mono ?_;rintro e w' ⟨rfl,t,rfl⟩;exact ⟨_,_,rfl,Lib.bytesWorld_below _ _ _⟩
def NumR (w1:World) (nm:ByteArray) (ns:List ByteArray) (j:Nat) (v:Value) (wr:World):Prop:=
 (fileN nm ∉ ns.take j/\v= .slice none 0 0/\Below w1.heap.size w1 wr)∨
 (fileN nm∈ns.take j/\∃ g c,v= .slice (some ⟨g,0,none⟩) 1 c/\SW w1.heap.size w1 [rowOb 3 1 v 1 [.int .i64 1]] wr)
section
variable {w1 wr w':World} {nm:ByteArray} {ns:List ByteArray} {j:Nat} {v:Value}
theorem NumR.below (h:NumR w1 nm ns j v wr):Below w1.heap.size w1 wr:=by
 rcases h with ⟨_,_,h⟩ | ⟨_,_,_,_,h⟩
 · exact h
 exact h.2
theorem takeN_at (hj:j<ns.length):ns.take (j+1)=ns.take j++[ns.getD j ByteArray.empty]:=by
 rw [List.take_add_one,zB hj,zA,zB hj];rfl
theorem NumR.alien (h:NumR w1 nm ns j v wr) (hj:j<ns.length) (hne:ns.getD j ByteArray.empty≠fileN nm) (hb:Below wr.heap.size wr w'):NumR w1 nm ns (j+1) v w':=by
 rcases h with ⟨h1,h2,h3⟩ | ⟨h1,g,c,h2,h3⟩
 · refine .inl ⟨fun hm=>?_,h2,h3.trans (hb.mono h3.size)⟩;rw [takeN_at hj] at hm;rcases List.mem_append.1 hm with hm | hm
   · exact h1 hm
   exact hne (List.mem_singleton.1 hm).symm
 refine .inr ⟨?_,g,c,h2,h3.on hb⟩;rw [takeN_at hj];exact List.mem_append_left _ h1
theorem NumR.slice (h:NumR w1 nm ns j v wr):∃ A n c,v= .slice A n c:=by
 rcases h with ⟨_,h2,_⟩ | ⟨_,g,c,h2,_⟩
 · exact ⟨_,_,_,h2⟩
 exact ⟨_,_,_,h2⟩
theorem NumR.own (h:NumR w1 nm ns j v wr) (hj:j<ns.length) (hn:ns.Nodup) (he:ns.getD j ByteArray.empty=fileN nm):v= .slice none 0 0/\Below w1.heap.size w1 wr:=by
 rcases h with ⟨_,h2,h3⟩ | ⟨h1,_⟩
 · exact ⟨h2,h3⟩
 exfalso
 have hs:(ns.take (j+1)).Nodup:=hn.sublist (List.take_sublist _ _);rw [takeN_at hj,List.nodup_append] at hs;exact hs.2.2 _ h1 _ (List.mem_singleton.2 rfl) he.symm
theorem NumR.fin (h:NumR w1 nm ns j v wr) (hj:ns.take j=ns):(fileN nm ∉ ns/\v= .slice none 0 0/\Below w1.heap.size w1 wr)∨(fileN nm∈ns/\∃ g c,v= .slice (some ⟨g,0,none⟩) 1 c/\SW w1.heap.size w1 [rowOb 3 1 v 1 [.int .i64 1]] wr):=by
 unfold NumR at h;rw [hj] at h;exact h
end
theorem SW.joinW {b:Nat} {w0 w w':World} {l l':List Ob} (h:SW b w0 l w) (h':SW w.heap.size w l' w') (hr:∀ o∈l',∀ i,o.rd i->w.heap.size<=i):SW b w0 (l'++l) w':=⟨h.1.join h'.2 h'.1 hr,h.2.trans (h'.2.mono h.1.base)⟩
theorem file_pre (nm:ByteArray):Lib.hasPrefix (fileN nm).data.toList (nm++⟨#[46]⟩:ByteArray).data.toList=true:=by
 unfold Lib.hasPrefix fileN;rw [ByteArray.data_append,Array.toList_append];exact List.isPrefixOf_iff_prefix.2 (List.prefix_append _ _)
theorem Alien.ne {nm m:ByteArray} (h:Alien nm m):m≠fileN nm:=by
 rintro rfl;rcases h with h | ⟨h,_⟩
 · have:=congrArg ByteArray.size h;unfold fileN freshN at this;rw [ByteArray.size_append,ByteArray.size_append,ByteArray.size_append] at this;have e1:(⟨#[46]⟩:ByteArray).size=1:=rfl;have e2:(⟨#[49]⟩:ByteArray).size=1:=rfl;have e3:(⟨#[46,110,101,119]⟩:ByteArray).size=4:=rfl;omega
 rw [file_pre] at h;cases h
section
variable {b:Nat} {w:World} {l:List Ob} {x:SR}
abbrev SR.with1 (x:SR) (fb sb:Nat) (bs:List UInt8):SR:={ x with C:=(scanF bs bs.length 0 [] [] true).1,F:=some ⟨fb,sb,bs.length,(scanF bs bs.length 0 [] [] true).2.2,(scanF bs bs.length 0 [] [] true).2.1⟩ }
def LoadP (b:Nat) (w:World) (x:SR) (bs:List UInt8) (l:List Ob) (e:Ending) (w':World):Prop:=
 e= .returned (.int .i64 0)/\(((x.s.now (fileN x.nm)).isSome=false/\SW b w (x.obs l) w')∨((x.s.now (fileN x.nm)).isSome=true/\∃ fb sb,SW b w ((x.with1 fb sb bs).obs l) w'))
theorem load_gen {bs:List UInt8} (h:Sto b w x l) (hb0:0<b) (hS:Syn w) (hF:x.F=none) (hC:x.C=[]) (hnm:x.nm.size<=1000) (hN:∀ m,(x.s.now m).isSome=true->m=fileN x.nm∨Alien x.nm m) (hR:(x.s.now (fileN x.nm)).isSome=true->readE x.s (fileN x.nm)=0/\readB x.s (fileN x.nm)=bs):
 Calls Tryz.prog 83 #[vPtr x.ps] w (LoadP b w x bs l):=by
 have HN:=hid (Names_any x.p x.r x.s w h.sdv);have k0:w.cell? ⟨x.ps,0,none⟩=some (vPtr x.p):=h.scell.cell 0;have S0:Hid (SW b w (x.obs l) w):=SW.refl h;have HNM:=hid hN;have HRD:=hid hR;have HSY:=hid hS;have HB0:=hid hb0
 have HLN:Hid (∀ ns,Listed x.s.now ns->ns.length<=256):=fun ns hl=>by
  obtain ⟨_,c,hc,hc2⟩:=h.sdv.ok.now;have:ns.length=c:=Cnt.uniq ⟨ns,hl.nodup,hl.mem,rfl⟩ hc2;omega
 have HF:=hid hF;have HCC:=hid hC;have HFN:=hid (fun (W:World) (hW:SW b w (x.obs l) W)=>fileName_any x.ps x.nm W ((hW.cell 1 rfl).cell 1) hnm);clear h hN hR hS hF hC hb0;go_enter Tryz.func83,Tryz.ntmps83;go_wp2_with (go_at_call 37;(with_reducible refine HN.out.mono ?_);refine halt_ ?_)
 rintro e w1 ⟨A,c,ns,rfl,hls,hrd,hb1⟩;have S1:=hid (S0.out.on hb1);have HLS:=hid hls;have HRDS:=hid hrd;obtain ⟨n,Hn⟩:∃ n,Hid (ns.length=n):=⟨_,rfl⟩;have hn:n<=256:=by rw [<- Hn.out];exact HLN.out ns hls
 have HSY1:=hid (HSY.out.on HB0.out (hb1.mono S0.out.1.base));rw [Hn.out];clear hls hrd hb1 HN k0 S0 HLN HSY;go_wp2_with fail
 go_loopw [3,20] (fun s3 s20 wr=>∃ j:Nat,s20= .int .i64 (j:Int)/\j<=n/\NumR w1 x.nm ns j s3 wr) (fun _ s20 _=>n-(intOf s20).toNat)
 case atStart=>exact ⟨0,rfl,Nat.zero_le _,.inl ⟨by simp,rfl,Below.refl _ _⟩⟩
 obtain ⟨j,rfl,hj,hnr⟩:=hrel;have NR:=hid hnr;by_cases hjl:j<n
 · have hjn:j<ns.length:=by rw [Hn.out];exact hjl
   obtain ⟨b1,rfl,hb1lt,hrd1⟩:=HRDS.out (by omega);obtain ⟨m,Hm⟩:∃ m,Hid (ns.getD j ByteArray.empty=m):=⟨_,rfl⟩
   have n0:wr.cell? ⟨b1,j,none⟩=some (.string m):=by
    rw [<- Hm.out];exact (hnr.below.cell (p:=⟨b1,j,none⟩) hb1lt).trans (hrd1 j hjn)
   have hmem:m∈ns:=by
    rw [<- Hm.out,zA,zB hjn];exact List.getElem_mem hjn
   have hmm:=hid (HNM.out m ((HLS.out.mem m).1 hmem));have SR1:=hid (S1.out.on hnr.below);have p1:wr.cell? ⟨x.ps,1,none⟩=some (.string x.nm):=(SR1.out.cell 1 rfl).cell 1;have HSYr:=hid (HSY1.out.on HB0.out (hnr.below.mono S1.out.1.base));have ha1:=fun W=>add_str x.nm ⟨#[46]⟩ W (by show x.nm.size+1<=_;omega);clear hmem hrd1 hb1lt;rcases hmm.out with he | ha
   · subst he;have HEQ:Hid (ns.getD j ByteArray.empty=fileN x.nm):=Hm;obtain ⟨A0,n0',c0,hv⟩:=hnr.slice;subst hv;have hown:=hnr.own hjn HLS.out.nodup HEQ.out;have HV0:=hid hown.1
     have Hn0:Hid (n0'=0):=by
      have:=hown.1;injection this
     have HB:=hid hown.2;clear hnr hmm hown;have HCP:=hid (cutPre x.nm);have HAT:=hid atoi1;go_wp2_with (first | (go_at_call 131;(with_reducible refine (HCP.out _).mono ?_);rintro e w2 ⟨rfl,rfl⟩) | (go_at_call 132;refine halt_ ?_))
     refine hid ((HAT.out wr).mono ?_);rintro e w3 ⟨rfl,hb3⟩;have S3:=hid (SR1.out.on hb3);have HB3:=hid (HB.out.trans (hb3.mono HB.out.size));clear hb3 HAT HCP SR1 p1 n0 ha1 HB;go_wp2_with (first | (go_at_call 101;(with_reducible refine (HFN.out _ S3.out).mono ?_);refine halt_ ?_))
     rintro e w4 ⟨rfl,q4,hw4⟩
     have S4:Hid (SW w1.heap.size w1 [rowOb 3 1 (.slice A0 n0' c0) n0' []] w4):=by
      rw [Hid,HV0.out,Hn0.out];exact ((SW.refl (Sep.nil w1 (Nat.le_refl _))).on (HB3.out.trans ((after_drew0 hw4).mono HB3.out.size))).newRow 3 1
     have hn0:n0'<=0:=by rw [Hn0.out];omega
     clear hw4 S3 HB3;obtain ⟨i1,gi,gz0,gz1,gz2⟩:=info_parts info3;go_wp2_with (at_builtin;(refine wpList_rowS (t:=47) (e:=3) (size:=1) (bytes:=8) (i:=i1) (S4.out.alloc _) 0 rfl (by rfl) (.tmp 55) (.tmp 57) (by rfl) Tryz.underlying47 gi gz0 gz1 gz2 rfl (by omega) (by rfl) ⟨w4.heap.size,0,none⟩ 1 [.int .i64 1] (by rfl) rfl (one_at (cell_new w4 3 _)) (by intro u hu;simp at hu;rw [hu];rfl) (by unfold maxLen;omega) (by omega) ?_);refine halt_ ?_)
     intro v5 w5 s5
     have S5:Hid (SW w1.heap.size w1 [rowOb 3 1 v5 1 [.int .i64 1]] w5):=by
      have:=s5;rw [Hn0.out] at this;exact this
     clear s5 S4 hn0 HV0 Hn0;obtain ⟨g5,c5,rfl⟩:=own_some (S5.out.get 0 rfl) (by omega);have NR2:Hid (NumR w1 x.nm ns (j+1) (.slice (some ⟨g5,0,none⟩) 1 c5) w5):=.inr ⟨by rw [takeN_at hjn,HEQ.out];simp,g5,c5,rfl,S5.out⟩;clear S5 NR;go_wp2_with fail
     go_roundw
     case rel=>exact ⟨j+1,by go_num,by omega,NR2.out⟩
     simp [intOf];omega
   have HNE:Hid (ns.getD j ByteArray.empty≠fileN x.nm):=by rw [Hid,Hm.out];exact ha.ne
   obtain ⟨A0,n0',c0,hv⟩:=hnr.slice;subst hv;clear hnr hmm;rcases ha with rfl | ⟨hpre,hsz⟩
   · have HCP:=hid (pre_new x.nm);have HAT:=hid (fun (W:World) (hW:Syn W)=>atoi_bad ⟨#[110,101,119]⟩ (by show 3<=18;omega) atoiNew W hW);go_wp2_with (first | (go_at_call 131;(with_reducible refine (HCP.out _).mono ?_);rintro e w2 ⟨rfl,rfl⟩) | (go_at_call 132;refine halt_ ?_))
     refine hid ((HAT.out wr HSYr.out).mono ?_);rintro e w3 ⟨N,rfl,hb3⟩;have NR2:=hid (NR.out.alien hjn HNE.out hb3);clear hb3 HAT HCP SR1 p1 n0 ha1 NR;go_wp2_with fail
     go_roundw
     case rel=>exact ⟨j+1,by go_num,by omega,NR2.out⟩
     simp [intOf];omega
   have HCP:=hid (pre_no hpre);have HAT:=hid (atoi_all m hsz);go_wp2_with (first | (go_at_call 131;(with_reducible refine (HCP.out _).mono ?_);rintro e w2 ⟨rfl,rfl⟩) | (go_at_call 132;refine halt_ ?_))
   refine hid ((HAT.out wr HSYr.out).mono ?_);rintro e w3 ⟨N,v,rfl,hb3⟩;have NR2:=hid (NR.out.alien hjn HNE.out hb3);clear hb3 HAT HCP SR1 p1 n0 ha1 NR;go_wp2_with fail
   go_roundw
   case rel=>exact ⟨j+1,by go_num,by omega,NR2.out⟩
   simp [intOf];omega
 have hjn:ns.take j=ns:=by rw [List.take_of_length_le];rw [Hn.out];omega
 have HM:=hid (HLS.out.mem (fileN x.nm));have HNR:=hid (hnr.fin hjn);clear hnr NR hjn;rcases HNR.out with ⟨hno,rfl,hbl⟩ | ⟨hyes,g5,c5,rfl,s5⟩
 · have HNO:Hid ((x.s.now (fileN x.nm)).isSome=false):=by
    rw [Hid,Bool.eq_false_iff];exact fun e=>hno (HM.out.2 e)
   have SF:=hid (S1.out.on hbl);clear hno hbl HNR HM;go_wp2_with (go_at_call 133;(with_reducible refine (Tryz.slices_Sort_int_none none 0 _).mono ?_);rintro e w2 ⟨rfl,rfl⟩)
   refine wp_loop_rounds 1 ?_;rw [rounds_succ];go_wp2_with fail
   go_ret;exact ⟨rfl,.inl ⟨HNO.out,SF.out⟩⟩
 have HYES:=hid (HM.out.1 hyes);obtain ⟨hE0,hB0⟩:=HRD.out HYES.out;have HE:=hid hE0;have HB:=hid hB0;have S5:Hid (SW b w (rowOb 3 1 (.slice (some ⟨g5,0,none⟩) 1 c5) 1 [.int .i64 1]::x.obs l) wr):=S1.out.joinW s5 (fun o ho i hi=>by rw [List.mem_singleton.1 ho] at hi;exact hi.elim)
 have hbl:Hid (bs.length<=4194304):=by
  have:=readB_len S1.out.1.sdv.ok (fileN x.nm);rw [hB0] at this;exact this
 clear hE0 hB0 s5 hyes HM HNR S1 HRD;have HSO:=hid (sort1 S5.out 0 rfl);go_wp2_with (first | (go_at_call 133;(with_reducible refine HSO.out.mono ?_);refine halt_ ?_))
 rintro e w6 ⟨rfl,s6⟩;have S6:=hid s6;clear s6 HSO S5
 have r0:w6.cell? ⟨g5,0,none⟩=some (.int .i64 1):=by
  obtain ⟨g',c',e,h1, -⟩:=own_one (S6.out.get 0 (o:=rowOb 3 1 (.slice (some ⟨g5,0,none⟩) 1 c5) 1 [.int .i64 1]) rfl);injection e with e1 e2 e3;injection e1 with e1;injection e1 with e1;rw [e1];exact h1
 go_wp2_with fail
 refine wp_loop_rounds 2 ?_;rw [rounds_succ];have q0:w6.cell? ⟨x.ps,0,none⟩=some (vPtr x.p):=(S6.out.cell 2 rfl).cell 0;have hpl:x.ps<w6.heap.size:=(S6.out.cell 2 rfl).lt;go_upto_region 14 with fail
 have S6d:=hid S6.out.tail.drew;clear S6 r0
 have HRE:Hid (∀ W5,SW b w (x.obs l) W5->Calls Tryz.prog 38 #[vPtr x.p,.string (fileN x.nm)] W5 (fun e w'=>∃ A n c,e= .returned (.tuple #[.slice A n c,.int .i64 0])/\n=bs.length/\bs.length<=c/\SW b w (rsOb A bs::x.obs l) w')):=fun W5 h5=>(Read_any x.p x.r x.s (fileN x.nm) W5 h5.1.sdv (file_ok hnm)).mono (by
  rintro e w8 ⟨⟨A8,n8,c8⟩,rfl,hr8,hd8,hb8⟩;rw [HE.out];rw [HB.out] at hr8;exact ⟨A8,n8,c8,rfl,hr8.1.symm,hr8.1 ▸ hr8.2.1,(h5.newBytes hb8 hr8 hd8).bufRs⟩)
 go_region_held (fun w'=>w'.cell? ⟨x.ps,0,none⟩=some (vPtr x.p))
  (first | go_keep | exact K5.out | exact K6.out)
  (first
    | (go_at_call 101;(with_reducible refine (HFN.out _ S6d.out).mono ?_);rintro e w7 ⟨rfl,q7,hw7⟩;have S7:=hid (S6d.out.on (after_drew0 hw7));have K5:Hid (w7.cell? ⟨x.ps,0,none⟩=some (vPtr x.p)):=(S7.out.cell 1 rfl).cell 0;clear hw7)
    | (go_at_call 38;(with_reducible refine (HRE.out w7 S7.out).mono ?_);rintro e w8 ⟨A8,n8,c8,rfl,hn8,hc8,s8⟩;have S8:=hid s8;have HN8:=hid hn8;have K6:Hid (w8.cell? ⟨x.ps,0,none⟩=some (vPtr x.p)):=(S8.out.cell 2 rfl).cell 0;clear s8 hn8))
 have hn8:=HN8.out;subst hn8;clear HN8;have S9:Hid (SW b w (x.obs (rsOb A8 bs::l)) w8):=S8.out.behind;have HLF:=hid (loadFile_any A8 bs S9.out HF.out HCC.out c8 hbl.out hc8 hnm HE.out HB.out);clear S8 S9 K6 K5 HRE HFN q0 hpl S7 S6d;go_wp2_with (go_at_call 134;(with_reducible refine HLF.out.mono ?_);rintro e w9 ⟨rfl,fb,sb,s9⟩;have S10:=hid s9;clear s9 HLF)
 rw [rounds_succ];go_wp2_with fail
 go_ret;exact ⟨rfl,.inr ⟨HYES.out,fb,sb,S10.out.sub (by simp [SR.obs])⟩⟩
end
end
end Go.Proofs.YteabgcollokgjaaGreatDoor
