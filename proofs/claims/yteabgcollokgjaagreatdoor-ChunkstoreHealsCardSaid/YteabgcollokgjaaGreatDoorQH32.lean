/- Q -/
import Derived.Laws.Cells
import Derived.RegionTactic
import Derived.ChangeAlike
import Derived.Test.YteabgcollokgjaaGreatDoorQH31
import Derived.Deep.RegionWith
set_option linter.unusedSimpArgs false
set_option linter.unusedVariables false
set_option maxRecDepth 100000
set_option maxHeartbeats 32000000
open Go.Lib renaming hid → kh
open List renaming getD_eq_getElem?_getD → zA,getElem?_eq_getElem → zB,getElem_mem → zC
namespace Go.Proofs.YteabgcollokgjaaGreatDoor
section
open Go.RowKit Go.MapKept Go.ChangeMaps Go.Shelf Go.Sort
end
section
open Go.RowKit
attribute [local go_sem] wext_cell
theorem getD_mem {α:Type} (l:List α) (d:α) (k:Nat) (h:k<l.length):l.getD k d∈l:=by
 rw [zA,zB h];exact zC h
theorem take_snoc {α:Type} (l:List α) (d:α) (k:Nat) (h:k<l.length):l.take (k+1)=l.take k++[l.getD k d]:=by
 rw [List.take_add_one,zA,zB h];rfl
end
section
open Go.RowKit Go.MapKept Go.ChangeMaps
attribute [local go_sem] wext_cell

end
section
open Go.RowKit Go.MapKept Go.ChangeMaps Go.Shelf Go.Sort
attribute [local go_sem] wext_cell

end
section
open Go.RowKit
attribute [local go_sem] wext_cell
theorem B_cell {w w':World} {b o:Nat} {v:Value} (h:Below w.heap.size w w') (hb:b<w.heap.size) (hc:w.cell? ⟨b,o,none⟩=some v):w'.cell? ⟨b,o,none⟩=some v:=(h.cell (p:=⟨b,o,none⟩) hb).trans hc
end
section
open Go.RowKit
attribute [local go_sem] wext_cell
theorem gb {p q:Bool} {w W:World} (h:p=q) (hb:Below w.heap.size w W):Gives (.bool p) w (.returned (.bool q)) W:=⟨by rw [h],hb⟩
theorem rHas_any (x:Nat) (l:List ID) (A:Option Addr) (c:Nat) (s z:Int) (w:World) (hl:RdID w x A l) (hn:l.length<=9223372036854775807):
    Calls Tryz.prog 49 #[.slice A l.length c,.agg #[.int .u64 s,.int .i64 z]] w (Gives (.bool (decide ((s,z)∈l))) w):=by
  have Hl:=kh hl
  clear hl
  go_enter Tryz.func49,Tryz.ntmps49
  go_wp2_with fail
  go_loopw [5] (fun v wr=>∃ k:Nat,k<=l.length/\v= .int .i64 k/\Hid (¬ (s,z)∈l.take k)/\IsB wr w.heap.size 31 #[.int .u64 s,.int .i64 z]/\Below w.heap.size w wr) (fun v _=>l.length-(intOf v).toNat)
  case atStart=>exact ⟨0,Nat.zero_le _,rfl,by simp [Hid],IsB.new _ _ _,bel1 _ _⟩
  case round=>
    obtain ⟨k,hk,rfl,Hk,hI,hbw⟩:=hrel
    have hi0:wr.cell? ⟨w.heap.size,0,none⟩=some (.int .u64 s):=by rw [hI.cell];rfl
    have hi1:wr.cell? ⟨w.heap.size,1,none⟩=some (.int .i64 z):=by rw [hI.cell];rfl
    have hIl:=hI.lt
    have HI:=kh hI
    have Hbw:=kh hbw
    clear hbw hI
    by_cases hlt:k<l.length
    · obtain ⟨b1,o1,rfl,hb1,_,hc1⟩:=Hl.out (by omega)
      obtain ⟨p,q,HJ⟩:∃ p q,Hid (l.getD k (0,0)=(p,q)):=⟨_,_,rfl⟩
      have p0:wr.cell? ⟨b1,o1+k*2,none⟩=some (.int .u64 p):=B_cell Hbw.out hb1 (hc1 k hlt 0 _ (by rw [HJ.out];rfl))
      have p1:wr.cell? ⟨b1,o1+k*2+1,none⟩=some (.int .i64 q):=B_cell Hbw.out hb1 (hc1 k hlt 1 _ (by rw [HJ.out];rfl))
      clear hc1
      have next:(p,q)≠(s,z)->¬ (s,z)∈l.take (k+1):=by
        intro hne hm
        rw [take_snoc _ (0,0) _ hlt,HJ.out] at hm
        rcases List.mem_append.1 hm with h | h
        · exact Hk.out h
        · rw [List.mem_singleton] at h;exact hne h.symm
      have Hnext:=kh next
      clear next
      by_cases e0:p=s
      · obtain rfl:=e0
        by_cases e1:q=z
        · obtain rfl:=e1
          have HT:Hid (decide ((p,q)∈l)=true):=by
            unfold Hid
            rw [decide_eq_true_eq, <- HJ.out]
            exact getD_mem _ _ _ hlt
          go_wp2_with fail
          go_quiet (fail)
          go_wp2_with fail
          go_ret
          exact gb HT.out (bdrewN Hbw.out _)
        · have hne:(q==z)=false:=by rw [beq_eq_false_iff_ne];exact e1
          have Hn:Hid (¬ (p,z)∈l.take (k+1)):=Hnext.out (fun h=>e1 (by injection h))
          clear e1
          go_wp2_with fail
          go_quiet (fail)
          go_wp2_with fail
          go_roundw
          case rel=>exact ⟨k+1,by omega,by go_num,Hn,HI.out.drewN _,bdrewN Hbw.out _⟩
          case measure=>simp [intOf];omega
      · have hne:(p==s)=false:=by rw [beq_eq_false_iff_ne];exact e0
        have Hn:Hid (¬ (s,z)∈l.take (k+1)):=Hnext.out (fun h=>e0 (by injection h))
        clear e0
        go_wp2_with fail
        go_quiet (fail)
        go_wp2_with fail
        go_roundw
        case rel=>exact ⟨k+1,by omega,by go_num,Hn,HI.out.drewN _,bdrewN Hbw.out _⟩
        case measure=>simp [intOf];omega
    · obtain rfl:k=l.length:=by omega
      have HF:Hid (decide ((s,z)∈l)=false):=by
        unfold Hid
        rw [decide_eq_false_iff_not]
        have:=Hk.out
        rwa [List.take_length] at this
      go_wp2_with fail
      go_ret
      exact gb HF.out Hbw.out
end
section
open Go.RowKit Go.MapKept Go.ChangeMaps Go.Shelf Go.Sort
theorem rdID_of {w:World} {A:Option Addr} {ids:List ID} (h:(riOb A ids).holds w):RdID w w.heap.size A ids:=by
 intro hp;cases A with
 | none=>
  have:=h.1 rfl;rw [this] at hp;simp at hp
 | some ad=>
  obtain ⟨g,rfl,hr,hlt⟩:=h.2 ad rfl;refine ⟨g,0,rfl,hlt,by omega,fun j hj i v hv=>?_⟩;obtain ⟨a0,a1,_,_⟩:=hr.cells hj rfl;match i,hv with
  | 0,hv=>
   simp [encID] at hv;subst hv;simpa using a0
  | 1,hv=>
   simp [encID] at hv;subst hv;simpa using a1
  | i+2,hv=>simp [encID] at hv
end
section
open Go.RowKit Go.MapKept Go.ChangeMaps Go.Shelf Go.Sort
attribute [local go_sem] wext_cell
theorem rPut_there {w:World} {r:R3} (h:R3Ok w r) (d:BD) (bs:List UInt8) (hb:RB w d bs) (h1:1<=bs.length) (h2:bs.length<=8192) {e:RE} (hat:hasAt r.E (fpOf bs)=true) (he:r.E.getD (atI r.E (fpOf bs)) re0=e) (hk:atI r.E (fpOf bs)<r.E.length) (heb:e.bs=bs):
 Calls Tryz.prog 36 #[.agg #[.slice r.A r.E.length r.c,.slice r.B r.E.length r.k],.slice d.A d.len d.cap] w (fun e w'=>e= .returned (.tuple #[.agg #[.slice r.A r.E.length r.c,.slice r.B r.E.length r.k],.agg #[.int .u64 (fpOf bs).1,.int .i64 (fpOf bs).2],.int .i64 0])/\Below w.heap.size w w'):=by
 have hdl:d.len=bs.length:=hb.1.symm;rw [hdl];have HRB:=kh hb
 have S0:Hid (SW w.heap.size w [rsOb d.A bs,r3Ob r] w):=(SW.startR h).also (o':=rsOb d.A bs) hb.rs (fun _ h=>h) (fun _ h'=>rsOb_lt hb.rs h') (fun i _ y hy=>by
  rcases List.mem_cons.1 hy with rfl | hy
  · exact fun h=>h
  cases hy)
 have S1:=kh (((S0.out.newCell 54 #[.slice r.A r.E.length r.c,.slice r.B r.E.length r.k]).newCellAt 54 #[.slice none 0 0,.slice none 0 0] (H:=w.heap.size+1) (by simp)).newCellAt 31 #[.int .u64 0,.int .i64 0] (H:=w.heap.size+2) (by simp));generalize hN:bs.length=N at h1 h2;have HN:=kh hN;have hd1:decide ((N:Int)<1)=false:=decide_eq_false (by omega);have hd2:decide ((N:Int)>8192)=false:=decide_eq_false (by omega);obtain ⟨W1,HW1⟩:∃ W1,Hid (((w.alloc (.cells #[.slice r.A r.E.length r.c,.slice r.B r.E.length r.k] 54)).alloc (.cells #[.slice none 0 0,.slice none 0 0] 54)).alloc (.cells #[.int .u64 0,.int .i64 0] 31)=W1):=⟨_,rfl⟩;rw [HW1.out] at S1;have HOF:=kh (rOf_any d.A d.cap bs W1 (S1.out.get 3 (o:=rsOb d.A bs) rfl) (by omega));rw [hN] at HOF;obtain ⟨i,HI⟩:∃ i,Hid (fpOf bs=i):=⟨_,rfl⟩;rw [HI.out] at HOF hat he hk;have HAT':=kh hat;have HE:=kh he;have HEB:=kh heb;obtain ⟨K,HK⟩:∃ K,Hid (atI r.E i=K):=⟨_,rfl⟩;rw [HK.out] at hk HE;clear hN h hb hat he heb hdl;rw [HI.out];go_enter Tryz.func36,Tryz.ntmps36;go_upto_region 3 with fail
 rw [HW1.out];go_wp2_with (first | (go_at_call 94;(with_reducible refine HOF.out.mono ?_);refine halt_ ?_) | (at_builtin;refine halt_ ?_))
 rintro e2 w2 ⟨rfl,hb2⟩;have S2:=kh (S1.out.on hb2);clear hb2 HOF S1;have HRB2:=kh (HRB.out.on S2.out.2);go_wp2_with (at_builtin;refine halt_ ?_)
 refine wpList_append_bytes rfl _ _ rfl ⟨none,0,0⟩ [] rfl (rb_nil w2) d.A d.cap bs (by rw [HN.out];rfl) HRB2.out.src (by have:=HN.out;simp only [List.length_nil];omega) ?_;intro d2 w3 hl2 happ;clear hl2;have S3:Hid (SW w.heap.size w [bufOb d2 bs,cellOb (w.heap.size+2) 31 #[.int .u64 0,.int .i64 0],cellOb (w.heap.size+1) 54 #[.slice none 0 0,.slice none 0 0],cellOb w.heap.size 54 #[.slice r.A r.E.length r.c,.slice r.B r.E.length r.k],rsOb d.A bs,r3Ob r] w3):=S2.out.newBuf.appB 0 rfl happ;unfold vB;have S4:=kh (S3.out.newCell 65 #[.int .u64 i.1,.int .i64 i.2,.slice d2.A d2.len d2.cap]);have HAT:=kh (At_any (S4.out.get 6 (o:=r3Ob r) rfl) i);rw [HK.out,HAT'.out] at HAT;have d0:(w3.alloc (.cells #[.int .u64 i.1,.int .i64 i.2,.slice d2.A d2.len d2.cap] 65)).cell? ⟨w3.heap.size,0,none⟩=some (.int .u64 i.1):=(S4.out.cell 0 rfl).cell 0;have d1:(w3.alloc (.cells #[.int .u64 i.1,.int .i64 i.2,.slice d2.A d2.len d2.cap] 65)).cell? ⟨w3.heap.size,1,none⟩=some (.int .i64 i.2):=(S4.out.cell 0 rfl).cell 1;have c0:(w3.alloc (.cells #[.int .u64 i.1,.int .i64 i.2,.slice d2.A d2.len d2.cap] 65)).cell? ⟨w.heap.size,0,none⟩=some (.slice r.A r.E.length r.c):=(S4.out.cell 4 rfl).cell 0;have c1:(w3.alloc (.cells #[.int .u64 i.1,.int .i64 i.2,.slice d2.A d2.len d2.cap] 65)).cell? ⟨w.heap.size,1,none⟩=some (.slice r.B r.E.length r.k):=(S4.out.cell 4 rfl).cell 1;have h3lt:=(S3.out.cell 1 rfl).lt
 clear happ S2 S3;go_wp2_with (go_at_call 95;(with_reducible refine HAT.out.mono ?_);refine halt_ ?_)
 rintro e4 w4 ⟨rfl,hb4⟩;have S5:=kh (S4.out.on hb4);clear hb4 HAT S4 d0 d1 c0 c1;have c0:=(S5.out.cell 4 rfl).cell 0;have c1:=(S5.out.cell 4 rfl).cell 1;have hok:R3Ok w4 r:=S5.out.get 6 (o:=r3Ob r) rfl;obtain ⟨gE,hA,hgl,a0,a1,a2⟩:=hok.chunk hk HE.out
 have hrb1:RB w4 e.d e.bs:=hok.bytes e (by
  rw [<- HE.out,zA,zB hk];exact zC hk)
 have hrb2:RB w4 d bs:=HRB.out.on S5.out.2;have v1:=fun q:Ext w4=>conv_rb (hrb1.on (wext_below q));have v2:=fun q:Ext w4=>conv_rb (hrb2.on (wext_below q));rw [HEB.out] at v1;have hdl:d.len=N:=hrb2.1.symm.trans HN.out;rw [hdl] at v2;rw [hA] at c0;have l0:=(S5.out.cell 4 rfl).lt;clear hok hrb1 hrb2 hdl;go_upto_region 6 with fail
 refine wp_region_ext (by kernel_rfl) (by kernel_rfl) ?_;repeat (go_big_quiet_step (fail))
 refine wpQuiet_nil ?_;intro w5 hb5;have S6:=kh (S5.out.on hb5);clear hb5 v1 v2 a0 a1 a2 c0 c1 S5;have c0:=(S6.out.cell 4 rfl).cell 0;have c1:=(S6.out.cell 4 rfl).cell 1;have d0:=(S6.out.cell 0 rfl).cell 0;have d1:=(S6.out.cell 0 rfl).cell 1;have z0:=(S6.out.cell 3 rfl).cell 0;have z1:=(S6.out.cell 3 rfl).cell 1;have y0:=(S6.out.cell 2 rfl).cell 0;have y1:=(S6.out.cell 2 rfl).cell 1;have f0:=(S6.out.cell 3 rfl).frozen 0;have f1:=(S6.out.cell 3 rfl).frozen 1;have f2:=(S6.out.cell 2 rfl).frozen 0;have f3:=(S6.out.cell 2 rfl).frozen 1;have hn1:w3.heap.size≠w.heap.size+1:=by omega
 have hn2:w3.heap.size≠w.heap.size+2:=by omega
 have hn3:w3.heap.size≠w.heap.size+1+1:=by omega
 go_upto_region 8 with fail
 go_region
 have S7:=kh (((((S6.out.setAt 3 rfl 0 (.slice (some ⟨gE,0,none⟩) r.E.length r.c)).setAt 3 rfl 1 (.slice r.B r.E.length r.k)).setAt 2 rfl 0 (.int .u64 i.1)).setAt 2 rfl 1 (.int .i64 i.2)).drew);have e0:=(S7.out.cell 3 rfl).cell 0;have e1:=(S7.out.cell 3 rfl).cell 1;have e2:=(S7.out.cell 2 rfl).cell 0;have e3:=(S7.out.cell 2 rfl).cell 1;clear c0 c1 d0 d1 z0 z1 y0 y1 f0 f1 f2 f3 S6;generalize World.drew _=W at S7 e0 e1 e2 e3 |-; have hRA:=hA;clear hA;go_wp2_with fail
 refine bodyPost_ret (v:=.tuple #[.agg #[.slice (some ⟨gE,0,none⟩) r.E.length r.c,.slice r.B r.E.length r.k],.agg #[.int .u64 i.1,.int .i64 i.2],.int .i64 0]) ?_ rfl ⟨?_,S7.out.2⟩
 · simp [results,Tryz.results36,go_sem,e0,e1,e2,e3]
 first
  | rfl
  | (rw [hRA])
end
section
open Go.RowKit Go.MapKept Go.ChangeMaps Go.Shelf Go.Sort
abbrev nmS:ByteArray:=⟨#[115]⟩
theorem nmS_ok:nameV nmS=true:=by decide+kernel
abbrev bAB:List UInt8:=[97,98]
def iAB:ID:=fpOf bAB
theorem iAB_ne:iAB≠(1,1):=by decide+kernel
theorem iAB_ok:okID iAB:=okID_fp bAB (by decide)
theorem rs_const (w:World) (g:Nat) (hg:g=w.heap.size) (bs:List UInt8) (fr:Nat×Nat):RS (w.alloc (.cells (bs.map encU).toArray 5 fr)) (some ⟨g,0,none⟩) bs:=by
 subst hg;refine ⟨(fun e=>by cases e),fun ad e=>?_⟩;injection e with e;subst e;refine ⟨_,0,rfl,fun j hj=>?_⟩;have:(w.alloc (.cells (bs.map encU).toArray 5 fr)).heap[w.heap.size]? =some (.cells (bs.map encU).toArray 5 fr):=heap_alloc_new w _;rw [Nat.zero_add,cell_of_row _ _ j _ _ _ this,List.getElem?_toArray,List.getElem?_map,zB hj,zA,zB hj];rfl
theorem known33_any (w:World):Calls Tryz.prog 22 #[] w (fun e w'=>e= .returned (.bool true)/\Below w.heap.size w w'):=by
 have kc:=fun (w:World) (C:Array Value) (n c:Nat)=>Lib.run_convert_bytes_const (P:=Tryz.prog) w 34 5 C n c Tryz.underlying34 Tryz.underlying5
 have kc1:=fun (w:World) (o:Obj) (C:Array Value) (n c:Nat)=>(show Sem.run Tryz.prog (convert 34 34 (.slice (some ⟨w.heap.size+1,0,none⟩) n c)) ((w.alloc o).alloc (.cells C 5))= .ok (.slice (some ⟨w.heap.size+1,0,none⟩) n c) ((w.alloc o).alloc (.cells C 5 (C.size,C.size+1))) from by
  have:=kc (w.alloc o) C n c;simpa using this)
 go_enter Tryz.func22,Tryz.ntmps22;go_wp2_with fail
 refine (New_L _).mono ?_;rintro e w1 ⟨r,rfl,hs⟩;have S1:=kh hs;clear hs;go_wp2_with fail
 refine (Open_L (ns:=[fileN nmS]) S1.out nmS nmS_ok rfl rfl (fun _=>rfl) (by decide) (by simp) (by simp)).mono ?_;rintro e w2 ⟨x0,rfl,hs,hc,hC,hF,hnm,_,hw,hby⟩;have S2:=kh hs;have C2:=kh hc;have HC:=kh hC;have HF:=kh hF;have HN:=kh hnm;have HW:=kh hw;clear hs hc hC hF hnm hw hby S1;go_wp2_with fail
 have S2b:Hid (SW w.heap.size w (x0.obs []) (w2.alloc (Obj.cells #[Value.int .u8 97,Value.int .u8 98] 5 (2,3)))):=S2.out.alloc _;refine (PutN_L S2b.out C2.out _ 2 bAB (rs_const w2 _ rfl bAB (2,3)) (by decide) (by decide) (by rw [HC.out];rfl) (by rw [HC.out];decide)).mono ?_;rintro e w3 ⟨rfl,d,hs,hc⟩;have S3:=kh hs;have C3:=kh hc;clear hs hc S2b S2 C2;rw [show fpOf bAB=iAB from rfl] at *; obtain ⟨x1,HX⟩:∃ x1,Hid (putS x0 iAB d bAB=x1):=⟨_,rfl⟩;rw [HX.out] at S3 C3;have hps:x0.ps=x1.ps:=by rw [<- HX.out];rfl
 rw [hps];clear hps;go_wp2_with fail
 have S3b:=kh (((S3.out.newCell 31 #[.int .u64 iAB.1,.int .i64 iAB.2]).behind).alloc (Obj.cells #[Value.int .u8 97,Value.int .u8 98] 5 (2,3)));have hv1:valC x1 iAB=some bAB:=by rw [<- HX.out];exact (put_val x0 bAB d iAB).trans (if_pos rfl)
 refine (PutS_L S3b.out C3.out _ 2 bAB (rs_const (w3.alloc (Obj.cells #[.int .u64 iAB.1,.int .i64 iAB.2] 31)) _ (by simp) bAB (2,3)) (by decide) (by decide) hv1).mono ?_;rintro e w4 ⟨rfl,hs⟩;rw [show fpOf bAB=iAB from rfl];have S4:=kh (hs.alloc (Obj.cells #[.int .u64 iAB.1,.int .i64 iAB.2] 31));have HV1:=kh hv1;have hw1:x1.wait=1:=by rw [<- HX.out];simp [putS,HW.out]
 have hC1:x1.C=[(iAB,.pend d bAB)]:=by rw [<- HX.out];simp [putS,HC.out,setL]
 have hF1:x1.F=none:=by rw [<- HX.out];exact HF.out
 have hdA:=(C3.out.pA iAB d bAB (by rw [hC1];simp)).1;have hpn:pends x1.C=[iAB]:=by rw [hC1];simp [pends,Pl.A,hdA]
 clear hs S3b hv1;have HP:=kh (Pending_L S4.out 1 hw1);have HFL:=kh (Flush_L S4.out C3.out (by rw [hpn];simp) (by rw [hpn,hF1];simp [flen,frSum];decide));have HW1:=kh hw1;have HC1:=kh hC1;have HF1:=kh hF1;clear hw1 hC1 hF1 hdA hpn;go_wp2_with (first | (go_at_call 29;(with_reducible refine HP.out.mono ?_);rintro e w5 ⟨rfl,rfl⟩) | (go_at_call 35;(with_reducible refine HFL.out.mono ?_);refine halt_ ?_))
 rintro e w5 ⟨rfl,x2,hs,hc,hfl⟩;rw [<- hfl.ps];have S5:=kh hs;have C5:=kh hc;have hv2:valC x2 iAB=some bAB:=(hfl.val iAB).trans HV1.out;have HV2:=kh hv2;have HP2:=kh (Pending_L S5.out 0 hfl.wait);have HFL2:=kh hfl;have HG:=kh (Get_L S5.out C5.out iAB iAB_ok bAB hv2);have k0:w5.cell? ⟨w3.heap.size,0,none⟩=some (.int .u64 iAB.1):=(S5.out.cell 4 rfl).cell 0;have k1:w5.cell? ⟨w3.heap.size,1,none⟩=some (.int .i64 iAB.2):=(S5.out.cell 4 rfl).cell 1;clear hs hc hfl hv2 HP HFL;go_wp2_with (first | (go_at_call 29;(with_reducible refine HP2.out.mono ?_);rintro e w6 ⟨rfl,rfl⟩) | (go_at_call 30;(with_reducible refine HG.out.mono ?_);refine halt_ ?_))
 rintro e w6 ⟨d1,rfl,hs⟩;have S6:=kh hs;have k0:w6.cell? ⟨w3.heap.size,0,none⟩=some (.int .u64 iAB.1):=(S6.out.cell 5 rfl).cell 0;have k1:w6.cell? ⟨w3.heap.size,1,none⟩=some (.int .i64 iAB.2):=(S6.out.cell 5 rfl).cell 1;clear hs HP2 HG;go_wp2_with fail
 have S7:=kh ((S6.out.newIds2 iAB (1,1)).behind)
 have has2:∀ i,(asc x2.C i).isSome=decide (iAB=i):=fun i=>by
  rw [HFL2.out.has i,HC1.out];simp only [asc];by_cases e:iAB=i<;>simp [e]
 have hone:goneL x2.C [iAB,(1,1)]=[(iAB,true)]:=by
  have h1:=has2 iAB;have h2:=has2 (1,1);rw [decide_eq_true rfl] at h1;rw [decide_eq_false iAB_ne] at h2;simp [goneL,gstep,h1,h2,setL]
 refine (Rem_L S7.out C5.out _ 2 [iAB,(1,1)] (by simp) (fun i hi=>?_) (by simp)).mono ?_
 · simp only [List.mem_cons,List.not_mem_nil,or_false] at hi;rcases hi with rfl | rfl
   · exact iAB_ok
   exact okID_of (by decide) (by decide) (by decide) (by decide)
 rintro e w7 ⟨he,x3,hs,hc,hgn⟩;rw [hone] at he;subst he;rw [<- hgn.ps];have S8:=kh hs;have C8:=kh hc
 have hno:asc x3.C iAB=none:=by
  have:=hgn.has iAB;cases hx:asc x3.C iAB with
  | none=>rfl
  | some v=>rw [hx] at this;simp at this
 have k0:w7.cell? ⟨w3.heap.size,0,none⟩=some (.int .u64 iAB.1):=(S8.out.cell 6 rfl).cell 0;have k1:w7.cell? ⟨w3.heap.size,1,none⟩=some (.int .i64 iAB.2):=(S8.out.cell 6 rfl).cell 1;have HG:=kh (GetN_L S8.out C8.out iAB iAB_ok hno);clear hs hc hgn hno hone has2;go_wp2_with (go_at_call 30;(with_reducible refine HG.out.mono ?_);refine halt_ ?_)
 rintro e w8 ⟨d2,rfl,hs⟩;have S9:=kh hs;have v1:=conv_rb (S9.out.get 6 (o:=bufOb d1 bAB) rfl);clear hs HG k0 k1;go_wp2_with fail
 go_ret;exact ⟨rfl,S9.out.2⟩
section
variable {ns:List ByteArray} {b:Nat} {w0 w w':World} {l:List Ob} {x:SR}
theorem New_S (h:SW b w0 l w):Calls Tryz.prog 21 #[] w (fun e w'=>∃ r,e= .returned (vPtr (w.heap.size+2))/\SW b w0 (devOb (w.heap.size+2) r St.new::l) w'):=by
 refine (New_any w).mono ?_;rintro e w' ⟨rfl,hd,hb⟩;refine ⟨_,rfl,h.addN hb hd (fun i hi=>⟨?_,hd.own_lt hi⟩) (fun i hi=>⟨?_,hd.reads_lt hi⟩)⟩
 · rcases hi with hi | ⟨q,hq,rfl⟩
   · rcases hi with rfl | rfl | rfl | hi
     · omega
     · exact Nat.le_refl _
     · exact Nat.le_succ _
     cases hi
   cases hq
 obtain ⟨d,hd,_⟩:=hi;rcases hd with ⟨_,he,_⟩ | ⟨_,he,_⟩ | ⟨_,he,_⟩<;>cases he
end
def inOb (A:Option Addr) (L:List Int):Ob where
 own:=fun _=>False
 rd:=fun i=>0<L.length/\∃ o,A=some ⟨i,o,none⟩
 holds:=fun w=>RdT w w.heap.size A L/\L.length<=9223372036854775807
 stable:=fun w w' h hs hk=>by
  refine ⟨fun hp=>?_,h.2⟩;obtain ⟨b,o,e,hlt,hc⟩:=h.1 hp;have h2:=hk b (.inr ⟨hp,o,e⟩);refine ⟨b,o,e,Nat.lt_of_lt_of_le hlt hs.2.2.2,fun j hj=>?_⟩;rw [<- hc j hj];simp [World.cell?, h2]
section
variable {b:Nat} {w0 w w':World} {l:List Ob}
theorem SW.newTape {A:Option Addr} {L:List Int} (h:SW b w0 l w) (hm:inOb A L∈l) (c:Nat) {H:Nat} (hH:w.heap.size=H):SW b w0 (tpOb H A c L 0::l) (w.alloc (.cells #[.slice A L.length c,.int .i64 0] 50)):=by
 subst hH;have hh:RdT w w.heap.size A L/\L.length<=9223372036854775807:=h.1.holds _ hm;have hb:Below w.heap.size w (w.alloc (.cells #[.slice A L.length c,.int .i64 0] 50)):=(Below.refl _ _).alloc (Nat.le_refl _) _;have:=h.1.add (o':=tpOb w.heap.size A c L 0) hb ⟨IsB.new _ _ _,fun hp=>?_,hh.2⟩ (fun i hi=>?_) (fun i hi=>?_) (fun i hi hlt=>h.noOwn hm (fun _ h=>h) hi)
 · exact ⟨this.1,h.2.trans this.2⟩
 · obtain ⟨q,o,e,hlt,hc⟩:=hh.1 hp;exact ⟨q,o,e,by simp;omega,by omega,fun j hj=>(hb.cell hlt).trans (hc j hj)⟩
 · have hi:i=w.heap.size:=hi;rw [hi];exact ⟨Nat.le_refl _,by simp⟩
 obtain ⟨hp,o,e⟩:=hi;obtain ⟨q,o',e',hlt,_⟩:=hh.1 hp;rw [e] at e';injection e' with e';injection e' with e' _;rw [e'];exact Nat.lt_of_lt_of_le hlt (by simp)
theorem SW.stepR {r r':R3} (h:SW b w0 (r3Ob r::l) w) (hb:Below w.heap.size w w') (hok:R3Ok w' r') (hj:∀ j,(r3Ob r').rd j->w.heap.size<=j∨(r3Ob r).rd j):SW b w0 (r3Ob r'::l) w':=by
 have:=h.1.step (o':=r3Ob r') (Fr.new hb (fun i hi=>hi.elim)) (fun i hi=>by
  rcases hj i hi with h1 | h1
  · exact .inr (.inr h1)
  · exact .inr (.inl h1)) hok (fun i hi=>by
  rcases hi with hi | hi
  · exact hi.elim
  exact r3Ob_lt hok hi)
 exact ⟨this.1,h.2.trans this.2⟩
abbrev RPutS (b:Nat) (w0:World) (P:List (List UInt8)) (bs:List UInt8) (l:List Ob) (e:Ending) (w':World):Prop:=
 ∃ r':R3,e= .returned (.tuple #[.agg #[.slice r'.A r'.E.length r'.c,.slice r'.B r'.E.length r'.k],.agg #[.int .u64 (fpOf bs).1,.int .i64 (fpOf bs).2],.int .i64 0])/\SW b w0 (r3Ob r'::l) w'/\RTX r' (P++[bs])
theorem rPut_S {r:R3} (h:SW b w0 (r3Ob r::l) w) {P:List (List UInt8)} (hT:RTX r P) (d:BD) (bs:List UInt8) (hb:RB w d bs) (ht:IsText bs) (hlen:r.E.length<4096):
 Calls Tryz.prog 36 #[.agg #[.slice r.A r.E.length r.c,.slice r.B r.E.length r.k],.slice d.A d.len d.cap] w (RPutS b w0 P bs l):=by
 have hok:R3Ok w r:=h.get 0 (o:=r3Ob r) rfl;have h1:=ht.lo;have h2:=ht.hi;cases hat:hasAt r.E (fpOf bs) with
 | false=>
  refine (rPut_new hok d bs hb h1 (by omega) hat hlen).mono ?_;rintro e w' ⟨r',d2,rfl,hok',he,hbel,hj⟩;exact ⟨r',rfl,h.stepR hbel hok' hj,hT.put ht he hat⟩
 | true=>
  have hm:=(hasAt_iff hT.sort _).1 hat
  obtain ⟨f,hk,he,hid⟩:∃ f:RE,atI r.E (fpOf bs)<r.E.length/\r.E.getD (atI r.E (fpOf bs)) re0=f/\f.id=fpOf bs:=by
   have hat':=hat;unfold hasAt at hat';split at hat'
   · rename_i f hf
     exact ⟨f,(List.getElem?_eq_some_iff.1 hf).1,by rw [zA,hf];rfl,of_decide_eq_true hat'⟩
   cases hat'
  have hmem:f∈r.E:=by
   rw [<- he,zA,zB hk];exact zC hk
  obtain ⟨hv1,hv2⟩:=hT.val f hmem;have hbs:f.bs=bs:=text_inj hv2 ht (hv1.trans hid);refine (rPut_there hok d bs hb h1 (by omega) hat he hk hbs).mono ?_;rintro e w' ⟨rfl,hbel⟩;exact ⟨r,rfl,h.on hbel,hT.more hat⟩
abbrev r30:R3:=⟨none,0,none,0,[]⟩
theorem SW.newR3 (h:SW b w0 l w):SW b w0 (r3Ob r30::l) w:=SW.fuse (pre:=[]) h ⟨RowV.nil,RowV.nil,Nat.le_refl _,Nat.le_refl _,by simp,fun e he=>by cases he⟩ (fun _ h=>h) (fun i hi=>by
 rcases hi with ⟨h,_⟩ | ⟨e,he,_⟩
 · simp at h
 cases he)
theorem RTX.empty:RTX r30 []:=⟨List.Pairwise.nil,fun i=>by simp [R3.ids],fun e he=>by cases he⟩
end
end
section
open Go.RowKit Go.MapKept Go.ChangeMaps Go.Shelf Go.Sort
attribute [local go_sem] wext_cell
section
variable {b:Nat} {w0 w:World} {l:List Ob} {g:Nat} {A:Option Addr} {c:Nat} {L:List Int} {n:Nat}
theorem text34_x (h:SW b w0 l w) (kk:Nat) (hk:l[kk]? =some (tpOb g A c L n)) (hn:n<=999000):Calls Tryz.prog 34 #[vPtr g] w (TextP b w0 l kk g A c L n):=by
 have hkl:kk<l.length:=(List.getElem?_eq_some_iff.1 hk).1;have HN:=kh (Next_x h kk hk 4 (by omega) (by omega));have HT:=kh (textN_in L n);obtain ⟨q,hq⟩:∃ q:Nat,tnext L n 4=(q:Int):=⟨(tnext L n 4).toNat,by have:=(tnext_in L n 4).1;omega⟩;have e1:textN L n=1+q:=by unfold textN;rw [hq];simp
 have hq4:q<=3:=by have:=HT.out.2;omega
 rw [hq] at HN;clear h;go_enter Tryz.func34,Tryz.ntmps34;go_wp2_with (go_at_call 33;(with_reducible refine HN.out.mono ?_);refine halt_ ?_)
 rintro e w1 ⟨rfl,s1⟩;have HB:=kh (Bytes_x s1 kk (List.getElem?_set_self hkl) (1+q) 2 (by omega) (by omega) (by omega) (by omega));rw [<- e1,List.set_set] at HB;have e2:Hid ((1:Int)+(q:Int)=((textN L n:Nat):Int)):=by rw [Hid,e1];omega
 clear e1 hq;clear s1 HN;go_wp2_with (go_at_call 54;refine halt_ ?_)
 rw [e2.out];refine HB.out.mono ?_;rintro e w2 ⟨d,rfl,s2⟩;have S2:=kh s2;clear s2 HB;go_wp2_with fail
 go_ret;exact ⟨d,rfl,S2.out⟩
end
abbrev PutTS (ns:List ByteArray) (b:Nat) (w0:World) (x:SR) (P:List (List UInt8)) (bs:List UInt8) (l:List Ob) (e:Ending) (w':World):Prop:=
 e= .returned (.tuple #[.agg #[.int .u64 (fpOf bs).1,.int .i64 (fpOf bs).2],.int .i64 0])/\∃ x',SW b w0 (x'.obs l) w'/\Cl ns x'/\TX x' (P++[bs])/\x'.ps=x.ps/\x'.p=x.p/\x'.nm=x.nm/\x'.F=x.F/\x'.s=x.s
theorem PutTS_L {ns:List ByteArray} {b:Nat} {w0 w:World} {x:SR} {l:List Ob} (h:SW b w0 (x.obs l) w) (hc:Cl ns x) {P:List (List UInt8)} (hT:TX x P) (A:Option Addr) (c:Nat) (bs:List UInt8) (hs:RS w A bs) (ht:IsText bs):
 Calls Tryz.prog 23 #[vPtr x.ps,.slice A bs.length c] w (PutTS ns b w0 x P bs l):=by
 have h1:=ht.lo;have h2:=ht.hi;cases ha:asc x.C (fpOf bs) with
 | none=>
  have hf:=hT.few hc.keys;refine (PutN_L h hc A c bs hs (by omega) (by omega) ha (by omega)).mono ?_;rintro e w' ⟨rfl,d,s,hc'⟩;exact ⟨rfl,_,s,hc',hT.put ht ha d,rfl,rfl,rfl,rfl,rfl⟩
 | some pl=>
  have hm:fpOf bs∈P.map fpOf:=by
   have:=hT.has (fpOf bs);rw [ha] at this;exact of_decide_eq_true this.symm
  obtain ⟨t,ht',e⟩:=List.mem_map.1 hm;have e2:=text_inj (hT.text t ht') ht e;subst e2;refine (PutS_L h hc A c t hs (by omega) (by omega) (hT.val t ht')).mono ?_;rintro e w' ⟨rfl,s⟩;exact ⟨rfl,x,s,hc,hT.more ht',rfl,rfl,rfl,rfl,rfl⟩
structure TrI (ps dp:Nat) (P:List (List UInt8)) (x:SR) (r:R3):Prop where
 ps:x.ps=ps
 p:x.p=dp
 nm:x.nm=nmS
 ops:x.s.ops=[]
 cl:Cl [fileN nmS] x
 tx:TX x P
 rtx:RTX r P
 len:flen x.F<=192*P.length
abbrev trL (x:SR) (r:R3) (g9 tg:Nat) (A:Option Addr) (cap:Nat) (L:List Int) (n:Nat) (l:List Ob):List Ob:=x.obs (r3Ob r::cellOb g9 54 #[.slice r.A r.E.length r.c,.slice r.B r.E.length r.k]::tpOb tg A cap L n::l)
theorem flipB_length (bs:List UInt8) (o k:Nat):(flipB bs o k).length=bs.length:=by simp [flipB]
theorem fold_q (v n:Int) (W:World) (hn:n<=4294967296):Calls Tryz.prog 24 #[.int .i64 v,.int .i64 n] W (fun e w'=>e= .returned (.int .i64 (foldI v n))/\Below W.heap.size W w'):=(Fold_x v n W hn).mono (by
 rintro e w' ⟨rfl,rfl⟩;exact ⟨rfl,Below.refl _ _⟩)
theorem names_one {s:St} {ns:List ByteArray} (hls:Listed s.now ns) {f:ByteArray} (h:∀ m,(s.now m).isSome=true↔m=f):ns=[f]:=by
 have h1:∀ m,m∈ns↔m=f:=fun m=>(hls.mem m).trans (h m);cases ns with
 | nil=>exact absurd ((h1 _).2 rfl) (by simp)
 | cons a t=>
  cases t with
  | nil=>rw [(h1 a).1 (by simp)]
  | cons c t=>
   have e1:=(h1 a).1 (by simp);have e2:=(h1 c).1 (by simp);have:=hls.nodup;rw [e1,e2] at this;simp at this
theorem SW.toTr {b:Nat} {w0 w:World} {l:List Ob} {x:SR} {o1 o2:Ob} (h:SW b w0 (o1::o2::x.obs l) w):SW b w0 (x.obs (o1::o2::l)) w:=
 SW.front (pre:=[o1,o2,devOb x.p x.r x.s,cellOb x.ps 131 x.cells,chOb x.cm x.C,flOb x.fm x.F]) (t:=l) h [2,3,4,5,0,1] (n:=6) rfl (by decide)
end
end Go.Proofs.YteabgcollokgjaaGreatDoor
