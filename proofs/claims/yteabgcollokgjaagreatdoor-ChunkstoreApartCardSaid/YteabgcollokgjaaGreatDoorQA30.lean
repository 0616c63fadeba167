/- Q -/
import Derived.Laws.Cells
import Derived.RegionTactic
import Derived.ChangeAlike
import Derived.Test.YteabgcollokgjaaGreatDoorQA29
import Derived.Deep.RegionWith
set_option linter.unusedSimpArgs false
set_option linter.unusedVariables false
set_option maxRecDepth 100000
set_option maxHeartbeats 32000000
open Go.Lib (hid)
open List renaming mem_cons_of_mem → zA,getD_eq_getElem?_getD → zB,length_append → zC,getElem?_eq_getElem → zD,getElem_mem → zE,take_length → zF,setIfInBounds_toArray → zG
namespace Go.Proofs.YteabgcollokgjaaGreatDoor
section
open Go.RowKit Go.MapKept Go.ChangeMaps Go.Shelf Go.Sort
section
variable {b:Nat} {w0 w:World} {l:List Ob}
theorem SW.rowCell {A:Option Addr} {ids:List ID} (h:SW b w0 l w) (hA:riOb A ids∈l) {k:Nat} (hk:k<ids.length) {i:ID} (hi:ids.getD k id0=i):∃ g,A=some ⟨g,0,none⟩/\w.cell? ⟨g,k*2,none⟩=some (.int .u64 i.1)/\w.cell? ⟨g,k*2+1,none⟩=some (.int .i64 i.2):=by
 have hri:=h.1.holds (riOb A ids) hA;cases A with
 | none=>
  have h0:=hri.1 rfl;rw [h0] at hk;simp at hk
 | some ad=>
  obtain ⟨g,rfl,hr,_⟩:=hri.2 ad rfl;obtain ⟨a0,a1,_,_⟩:=hr.cells hk hi;exact ⟨g,rfl,a0,a1⟩
end
end
section
open Go.RowKit
attribute [local go_sem] wext_cell
theorem take_snoc {α:Type} (l:List α) (d:α) (k:Nat) (h:k<l.length):l.take (k+1)=l.take k++[l.getD k d]:=by
 rw [List.take_add_one,zB,zD h];rfl
end
section
open Go.RowKit Go.MapKept Go.ChangeMaps
attribute [local go_sem] wext_cell

end
section
open Go.RowKit Go.MapKept Go.ChangeMaps Go.Shelf Go.Sort
attribute [local go_sem] wext_cell

end
section
open Go.RowKit
attribute [local go_sem] wext_cell
theorem B_cell {w w':World} {b o:Nat} {v:Value} (h:Below w.heap.size w w') (hb:b<w.heap.size) (hc:w.cell? ⟨b,o,none⟩=some v):w'.cell? ⟨b,o,none⟩=some v:=(h.cell (p:=⟨b,o,none⟩) hb).trans hc
end
section
open Go.RowKit
attribute [local go_sem] wext_cell
theorem gb {p q:Bool} {w W:World} (h:p=q) (hb:Below w.heap.size w W):Gives (.bool p) w (.returned (.bool q)) W:=⟨by rw [h],hb⟩
theorem eq_of_take {α:Type} {a b:List α} (hl:a.length=b.length) (h:a.take a.length=b.take a.length):a=b:=by
  rw [zF,hl,zF] at h
  exact h
theorem ne_of_getD {α:Type} {a b:List α} (d:α) (k:Nat) (h:a.getD k d≠b.getD k d):a≠b:=fun e=>h (by rw [e])
theorem take_both {α:Type} {a b:List α} {d:α} {k:Nat} (ha:k<a.length) (hb:k<b.length) (h:a.take k=b.take k) (he:a.getD k d=b.getD k d):a.take (k+1)=b.take (k+1):=by
  rw [take_snoc _ d _ ha,take_snoc _ d _ hb,h,he]
theorem SameIDs_any (x y:Nat) (a b:List ID) (A B:Option Addr) (c d:Nat) (w:World) (ha:RdID w x A a) (hb:RdID w y B b) (hla:a.length<=9223372036854775807) (hlb:b.length<=9223372036854775807):
    Calls Tryz.prog 64 #[.slice A a.length c,.slice B b.length d] w (Gives (.bool (decide (a=b))) w):=by
  have Ha:=hid ha
  have Hb:=hid hb
  clear ha hb
  by_cases hlen:a.length=b.length
  · have hbe:(a.length !=b.length)=false:=by simp [hlen]
    have hbi:(((a.length:Nat):Int) !=((b.length:Nat):Int))=false:=by simp [hlen]
    have Hlen:=hid hlen
    clear hlen
    go_enter Tryz.func64,Tryz.ntmps64
    go_wp2_with fail
    go_loopw [5] (fun v wr=>∃ k:Nat,k<=a.length/\v= .int .i64 k/\Hid (a.take k=b.take k)/\Below w.heap.size w wr) (fun v _=>a.length-(intOf v).toNat)
    case atStart=>exact ⟨0,Nat.zero_le _,rfl,rfl,Below.refl _ _⟩
    case round=>
      obtain ⟨k,hk,rfl,Hk,hbw⟩:=hrel
      have Hbw:=hid hbw
      clear hbw
      by_cases hlt:k<a.length
      · have hlt':k<b.length:=by have:=Hlen.out;omega
        obtain ⟨b1,o1,rfl,hb1,_,hc1⟩:=Ha.out (by omega)
        obtain ⟨b2,o2,rfl,hb2,_,hc2⟩:=Hb.out (by omega)
        obtain ⟨s0,s1,HI⟩:∃ s0 s1,Hid (a.getD k (0,0)=(s0,s1)):=⟨_,_,rfl⟩
        obtain ⟨r0,r1,HJ⟩:∃ r0 r1,Hid (b.getD k (0,0)=(r0,r1)):=⟨_,_,rfl⟩
        have p0:wr.cell? ⟨b1,o1+k*2,none⟩=some (.int .u64 s0):=B_cell Hbw.out hb1 (hc1 k hlt 0 _ (by rw [HI.out];rfl))
        have q0:wr.cell? ⟨b2,o2+k*2,none⟩=some (.int .u64 r0):=B_cell Hbw.out hb2 (hc2 k hlt' 0 _ (by rw [HJ.out];rfl))
        have p1:wr.cell? ⟨b1,o1+k*2+1,none⟩=some (.int .i64 s1):=B_cell Hbw.out hb1 (hc1 k hlt 1 _ (by rw [HI.out];rfl))
        have q1:wr.cell? ⟨b2,o2+k*2+1,none⟩=some (.int .i64 r1):=B_cell Hbw.out hb2 (hc2 k hlt' 1 _ (by rw [HJ.out];rfl))
        clear hc1 hc2
        by_cases e0:s0=r0
        · obtain rfl:=e0
          by_cases e1:s1=r1
          · obtain rfl:=e1
            go_wp2_with fail
            go_quiet (fail)
            go_wp2_with fail
            go_roundw
            case rel=>exact ⟨k+1,by omega,by go_num,take_both (d:=(0,0)) hlt hlt' Hk.out (by rw [HI.out,HJ.out]),bdrewN Hbw.out _⟩
            case measure=>simp [intOf];omega
          · have hne:(s1==r1)=false:=by rw [beq_eq_false_iff_ne];exact e1
            have HF:Hid (decide (a=b)=false):=by
              unfold Hid
              rw [decide_eq_false_iff_not]
              exact ne_of_getD (0,0) k (fun h=>e1 (by rw [HI.out,HJ.out] at h;simp at h;omega))
            clear e1
            go_wp2_with fail
            go_quiet (fail)
            go_wp2_with fail
            go_ret
            exact gb HF.out (bdrewN Hbw.out _)
        · have hne:(s0==r0)=false:=by rw [beq_eq_false_iff_ne];exact e0
          have HF:Hid (decide (a=b)=false):=by
            unfold Hid
            rw [decide_eq_false_iff_not]
            exact ne_of_getD (0,0) k (fun h=>e0 (by rw [HI.out,HJ.out] at h;simp at h;omega))
          clear e0
          go_wp2_with fail
          go_quiet (fail)
          go_wp2_with fail
          go_ret
          exact gb HF.out (bdrewN Hbw.out _)
      · obtain rfl:k=a.length:=by omega
        have HT:Hid (decide (a=b)=true):=by
          unfold Hid
          rw [decide_eq_true_eq]
          exact eq_of_take Hlen.out Hk.out
        go_wp2_with fail
        go_ret
        exact gb HT.out Hbw.out
  · have hbe:(a.length !=b.length)=true:=by rw [bne_iff_ne];exact hlen
    have hbi:(((a.length:Nat):Int) !=((b.length:Nat):Int))=true:=by rw [bne_iff_ne];omega
    have HF:Hid (decide (a=b)=false):=by
      unfold Hid
      rw [decide_eq_false_iff_not]
      intro e
      exact hlen (by rw [e])
    clear hlen
    go_enter Tryz.func64,Tryz.ntmps64
    go_wp2_with fail
    go_ret
    exact gb HF.out (Below.refl _ _)
end
section
open Go.RowKit Go.MapKept Go.ChangeMaps Go.Shelf Go.Sort
theorem rdID_of {w:World} {A:Option Addr} {ids:List ID} (h:(riOb A ids).holds w):RdID w w.heap.size A ids:=by
 intro hp;cases A with
 | none=>
  have:=h.1 rfl;rw [this] at hp;simp at hp
 | some ad=>
  obtain ⟨g,rfl,hr,hlt⟩:=h.2 ad rfl;refine ⟨g,0,rfl,hlt,by omega,fun j hj i v hv=>?_⟩;obtain ⟨a0,a1,_,_⟩:=hr.cells hj rfl;match i,hv with
  | 0,hv=>
   simp [encID] at hv;subst hv;simpa using a0
  | 1,hv=>
   simp [encID] at hv;subst hv;simpa using a1
  | i+2,hv=>simp [encID] at hv
end
section
open Go.RowKit Go.MapKept Go.ChangeMaps Go.Shelf Go.Sort
attribute [local go_sem] wext_cell
theorem rPut_there {w:World} {r:R3} (h:R3Ok w r) (d:BD) (bs:List UInt8) (hb:RB w d bs) (h1:1<=bs.length) (h2:bs.length<=8192) {e:RE} (hat:hasAt r.E (fpOf bs)=true) (he:r.E.getD (atI r.E (fpOf bs)) re0=e) (hk:atI r.E (fpOf bs)<r.E.length) (heb:e.bs=bs):
 Calls Tryz.prog 36 #[.agg #[.slice r.A r.E.length r.c,.slice r.B r.E.length r.k],.slice d.A d.len d.cap] w (fun e w'=>e= .returned (.tuple #[.agg #[.slice r.A r.E.length r.c,.slice r.B r.E.length r.k],.agg #[.int .u64 (fpOf bs).1,.int .i64 (fpOf bs).2],.int .i64 0])/\Below w.heap.size w w'):=by
 have hdl:d.len=bs.length:=hb.1.symm;rw [hdl];have HRB:=hid hb
 have S0:Hid (SW w.heap.size w [rsOb d.A bs,r3Ob r] w):=(SW.startR h).also (o':=rsOb d.A bs) hb.rs (fun _ h=>h) (fun _ h'=>rsOb_lt hb.rs h') (fun i _ y hy=>by
  rcases List.mem_cons.1 hy with rfl | hy
  · exact fun h=>h
  cases hy)
 have S1:=hid (((S0.out.newCell 54 #[.slice r.A r.E.length r.c,.slice r.B r.E.length r.k]).newCellAt 54 #[.slice none 0 0,.slice none 0 0] (H:=w.heap.size+1) (by simp)).newCellAt 31 #[.int .u64 0,.int .i64 0] (H:=w.heap.size+2) (by simp));generalize hN:bs.length=N at h1 h2;have HN:=hid hN;have hd1:decide ((N:Int)<1)=false:=decide_eq_false (by omega);have hd2:decide ((N:Int)>8192)=false:=decide_eq_false (by omega);obtain ⟨W1,HW1⟩:∃ W1,Hid (((w.alloc (.cells #[.slice r.A r.E.length r.c,.slice r.B r.E.length r.k] 54)).alloc (.cells #[.slice none 0 0,.slice none 0 0] 54)).alloc (.cells #[.int .u64 0,.int .i64 0] 31)=W1):=⟨_,rfl⟩;rw [HW1.out] at S1;have HOF:=hid (rOf_any d.A d.cap bs W1 (S1.out.get 3 (o:=rsOb d.A bs) rfl) (by omega));rw [hN] at HOF;obtain ⟨i,HI⟩:∃ i,Hid (fpOf bs=i):=⟨_,rfl⟩;rw [HI.out] at HOF hat he hk;have HAT':=hid hat;have HE:=hid he;have HEB:=hid heb;obtain ⟨K,HK⟩:∃ K,Hid (atI r.E i=K):=⟨_,rfl⟩;rw [HK.out] at hk HE;clear hN h hb hat he heb hdl;rw [HI.out];go_enter Tryz.func36,Tryz.ntmps36;go_upto_region 3 with fail
 rw [HW1.out];go_wp2_with (first | (go_at_call 94;(with_reducible refine HOF.out.mono ?_);refine halt_ ?_) | (at_builtin;refine halt_ ?_))
 rintro e2 w2 ⟨rfl,hb2⟩;have S2:=hid (S1.out.on hb2);clear hb2 HOF S1;have HRB2:=hid (HRB.out.on S2.out.2);go_wp2_with (at_builtin;refine halt_ ?_)
 refine wpList_append_bytes rfl _ _ rfl ⟨none,0,0⟩ [] rfl (rb_nil w2) d.A d.cap bs (by rw [HN.out];rfl) HRB2.out.src (by have:=HN.out;simp only [List.length_nil];omega) ?_;intro d2 w3 hl2 happ;clear hl2;have S3:Hid (SW w.heap.size w [bufOb d2 bs,cellOb (w.heap.size+2) 31 #[.int .u64 0,.int .i64 0],cellOb (w.heap.size+1) 54 #[.slice none 0 0,.slice none 0 0],cellOb w.heap.size 54 #[.slice r.A r.E.length r.c,.slice r.B r.E.length r.k],rsOb d.A bs,r3Ob r] w3):=S2.out.newBuf.appB 0 rfl happ;unfold vB;have S4:=hid (S3.out.newCell 65 #[.int .u64 i.1,.int .i64 i.2,.slice d2.A d2.len d2.cap]);have HAT:=hid (At_any (S4.out.get 6 (o:=r3Ob r) rfl) i);rw [HK.out,HAT'.out] at HAT;have d0:(w3.alloc (.cells #[.int .u64 i.1,.int .i64 i.2,.slice d2.A d2.len d2.cap] 65)).cell? ⟨w3.heap.size,0,none⟩=some (.int .u64 i.1):=(S4.out.cell 0 rfl).cell 0;have d1:(w3.alloc (.cells #[.int .u64 i.1,.int .i64 i.2,.slice d2.A d2.len d2.cap] 65)).cell? ⟨w3.heap.size,1,none⟩=some (.int .i64 i.2):=(S4.out.cell 0 rfl).cell 1;have c0:(w3.alloc (.cells #[.int .u64 i.1,.int .i64 i.2,.slice d2.A d2.len d2.cap] 65)).cell? ⟨w.heap.size,0,none⟩=some (.slice r.A r.E.length r.c):=(S4.out.cell 4 rfl).cell 0;have c1:(w3.alloc (.cells #[.int .u64 i.1,.int .i64 i.2,.slice d2.A d2.len d2.cap] 65)).cell? ⟨w.heap.size,1,none⟩=some (.slice r.B r.E.length r.k):=(S4.out.cell 4 rfl).cell 1;have h3lt:=(S3.out.cell 1 rfl).lt
 clear happ S2 S3;go_wp2_with (go_at_call 95;(with_reducible refine HAT.out.mono ?_);refine halt_ ?_)
 rintro e4 w4 ⟨rfl,hb4⟩;have S5:=hid (S4.out.on hb4);clear hb4 HAT S4 d0 d1 c0 c1;have c0:=(S5.out.cell 4 rfl).cell 0;have c1:=(S5.out.cell 4 rfl).cell 1;have hok:R3Ok w4 r:=S5.out.get 6 (o:=r3Ob r) rfl;obtain ⟨gE,hA,hgl,a0,a1,a2⟩:=hok.chunk hk HE.out
 have hrb1:RB w4 e.d e.bs:=hok.bytes e (by
  rw [<- HE.out,zB,zD hk];exact zE hk)
 have hrb2:RB w4 d bs:=HRB.out.on S5.out.2;have v1:=fun q:Ext w4=>conv_rb (hrb1.on (wext_below q));have v2:=fun q:Ext w4=>conv_rb (hrb2.on (wext_below q));rw [HEB.out] at v1;have hdl:d.len=N:=hrb2.1.symm.trans HN.out;rw [hdl] at v2;rw [hA] at c0;have l0:=(S5.out.cell 4 rfl).lt;clear hok hrb1 hrb2 hdl;go_upto_region 6 with fail
 refine wp_region_ext (by kernel_rfl) (by kernel_rfl) ?_;repeat (go_big_quiet_step (fail))
 refine wpQuiet_nil ?_;intro w5 hb5;have S6:=hid (S5.out.on hb5);clear hb5 v1 v2 a0 a1 a2 c0 c1 S5;have c0:=(S6.out.cell 4 rfl).cell 0;have c1:=(S6.out.cell 4 rfl).cell 1;have d0:=(S6.out.cell 0 rfl).cell 0;have d1:=(S6.out.cell 0 rfl).cell 1;have z0:=(S6.out.cell 3 rfl).cell 0;have z1:=(S6.out.cell 3 rfl).cell 1;have y0:=(S6.out.cell 2 rfl).cell 0;have y1:=(S6.out.cell 2 rfl).cell 1;have f0:=(S6.out.cell 3 rfl).frozen 0;have f1:=(S6.out.cell 3 rfl).frozen 1;have f2:=(S6.out.cell 2 rfl).frozen 0;have f3:=(S6.out.cell 2 rfl).frozen 1;have hn1:w3.heap.size≠w.heap.size+1:=by omega
 have hn2:w3.heap.size≠w.heap.size+2:=by omega
 have hn3:w3.heap.size≠w.heap.size+1+1:=by omega
 go_upto_region 8 with fail
 go_region
 have S7:=hid (((((S6.out.setAt 3 rfl 0 (.slice (some ⟨gE,0,none⟩) r.E.length r.c)).setAt 3 rfl 1 (.slice r.B r.E.length r.k)).setAt 2 rfl 0 (.int .u64 i.1)).setAt 2 rfl 1 (.int .i64 i.2)).drew);have e0:=(S7.out.cell 3 rfl).cell 0;have e1:=(S7.out.cell 3 rfl).cell 1;have e2:=(S7.out.cell 2 rfl).cell 0;have e3:=(S7.out.cell 2 rfl).cell 1;clear c0 c1 d0 d1 z0 z1 y0 y1 f0 f1 f2 f3 S6;generalize World.drew _=W at S7 e0 e1 e2 e3 |-; have hRA:=hA;clear hA;go_wp2_with fail
 refine bodyPost_ret (v:=.tuple #[.agg #[.slice (some ⟨gE,0,none⟩) r.E.length r.c,.slice r.B r.E.length r.k],.agg #[.int .u64 i.1,.int .i64 i.2],.int .i64 0]) ?_ rfl ⟨?_,S7.out.2⟩
 · simp [results,Tryz.results36,go_sem,e0,e1,e2,e3]
 first
  | rfl
  | (rw [hRA])
theorem mk_bools (w:World) (n:Nat) (hn:n<=100000):(Instr.makeSlice 52 (.int .i64 n) (.int .i64 n)).run Tryz.prog w= .ok (.slice (some ⟨w.heap.size,0,none⟩) n n) (w.alloc (.cells (Array.replicate n (.bool false)) 4)):=by
 obtain ⟨i0,hi,hz0,hz1,hz2⟩:=info_parts info4;have:=run_makeSlice (P:=Tryz.prog) w 52 4 i0 _ Tryz.underlying52 hi hz0 .i64 .i64 n n (by omega) (by omega) (by rw [hz1];simp;omega) (by rw [hz2];omega) (by omega);simp only [Int.toNat_natCast] at this;have e:madeCells (Value.bool false).cells n=(Array.replicate n (.bool false)):=Array.ext' (by rw [show (Value.bool false).cells= #[Value.bool false] from rfl,toList_madeCells_one];simp);rw [this,hz1,Nat.mul_one,e]
def R3.still (r:R3) (g:Nat):R3:=⟨r.A,r.c,some ⟨g,0,none⟩,r.E.length,r.E.map fun e=>{ e with pn:=false }⟩
theorem still_len (r:R3) (g:Nat):(r.still g).E.length=r.E.length:=by simp [R3.still]
theorem still_ids (r:R3) (g:Nat):(r.still g).ids=r.ids:=by simp [R3.still,R3.ids]
theorem RTX.still {r:R3} {P:List (List UInt8)} (h:RTX r P) (g:Nat):RTX (r.still g) P:=by
 refine ⟨?_,fun i=>?_,fun e he=>?_⟩
 · exact List.pairwise_map.2 h.sort
 · rw [still_ids];exact h.has i
 obtain ⟨f,hf,rfl⟩:=List.mem_map.1 he;exact h.val f hf
theorem still_ok {w w':World} {r:R3} (h:R3Ok w r) (hb:Below w.heap.size w w') {g:Nat} (hg:IsB w' g 4 (Array.replicate r.E.length (.bool false))):R3Ok w' (r.still g):=by
 have h':=h.on hb
 have e1:(r.still g).E.flatMap encK=r.E.flatMap encK:=by
  show (r.E.map fun e=>{ e with pn:=false }).flatMap encK=_;rw [List.flatMap_map];rfl
 have e2:(r.still g).E.flatMap encP=List.replicate r.E.length (.bool false):=by
  have:∀ l:List RE,(l.map fun e=>{ e with pn:=false }).flatMap encP=List.replicate l.length (Value.bool false):=fun l=>by
   induction l with
   | nil=>rfl
   | cons e l ih=>rw [List.map_cons,List.flatMap_cons,ih];rfl
  exact this r.E
 refine ⟨?_,?_,?_,?_,?_,fun e he=>?_⟩
 · rw [e1,still_len];exact h'.a
 · rw [e2,still_len];refine ⟨by simp,.inr ⟨g,_,rfl,hg,by simp⟩⟩
 · rw [still_len];exact h'.c
 · rw [still_len];exact Nat.le_refl _
 · rw [still_len];exact h'.n
 obtain ⟨f,hf,rfl⟩:=List.mem_map.1 he;exact h'.bytes f hf
theorem still_rd {r:R3} {g i:Nat} (h:(r3Ob (r.still g)).rd i):i=g∨(r3Ob r).rd i:=by
 rcases h with ⟨hn,e | e⟩ | ⟨e,he,ea⟩
 · exact .inr (.inl ⟨by rw [still_len] at hn;exact hn,.inl e⟩)
 · injection e with e;injection e with e;exact .inl e.symm
 obtain ⟨f,hf,rfl⟩:=List.mem_map.1 he;exact .inr (.inr ⟨f,hf,ea⟩)
theorem rFlush_any {w:World} {r:R3} (h:R3Ok w r):Calls Tryz.prog 43 #[.agg #[.slice r.A r.E.length r.c,.slice r.B r.E.length r.k]] w (fun e w'=>∃ g,e= .returned (.agg #[.slice r.A r.E.length r.c,.slice (some ⟨g,0,none⟩) r.E.length r.E.length])/\w.heap.size<=g/\R3Ok w' (r.still g)/\Below w.heap.size w w'):=by
 have S0:Hid (SW w.heap.size w [cellOb (w.heap.size+1) 54 #[.slice none 0 0,.slice none 0 0],cellOb w.heap.size 54 #[.slice r.A r.E.length r.c,.slice r.B r.E.length r.k]] _):=hid (((SW.refl (Sep.nil w (Nat.le_refl _))).newCell 54 #[.slice r.A r.E.length r.c,.slice r.B r.E.length r.k]).newCellAt 54 #[.slice none 0 0,.slice none 0 0] (H:=w.heap.size+1) (by simp));have HO:=hid h;have hn:=h.n;have hmk:=fun W=>mk_bools W r.E.length hn;generalize hN:r.E.length=N at hmk hn S0;have HN:=hid hN;clear h;go_enter Tryz.func43,Tryz.ntmps43;go_upto_region 1 with fail
 clear hN;generalize hW:(w.alloc _).alloc _=W at S0 |-; have c0:=(S0.out.cell 1 rfl).cell 0;have d0:=(S0.out.cell 0 rfl).cell 0;have d1:=(S0.out.cell 0 rfl).cell 1;have f0:=(S0.out.cell 0 rfl).frozen 0;have f1:=(S0.out.cell 0 rfl).frozen 1;have l1:=(S0.out.cell 0 rfl).lt;have l0:w.heap.size<W.heap.size:=by omega
 clear hW;go_region
 have S1:=hid ((((S0.out.setAt 0 rfl 0 (.slice r.A N r.c)).setAt 0 rfl 1 (.slice (some ⟨W.heap.size,0,none⟩) N N)).newCellAt 4 (Array.replicate N (.bool false)) (H:=W.heap.size) (by simp [World.setCell])).drew);have e0:=(S1.out.cell 1 rfl).cell 0;have e1:=(S1.out.cell 1 rfl).cell 1;have hg:=S1.out.cell 0 rfl;clear c0 d0 d1 f0 f1 S0;generalize World.drew _=W1 at S1 e0 e1 hg |-; go_wp2_with fail
 refine bodyPost_ret (v:=.agg #[.slice r.A N r.c,.slice (some ⟨W.heap.size,0,none⟩) N N]) ?_ rfl ⟨W.heap.size,rfl,by omega,still_ok HO.out S1.out.2 (by rw [HN.out];exact hg),S1.out.2⟩;simp [results,Tryz.results43,go_sem,e0,e1]
end
section
open Go.RowKit Go.MapKept Go.ChangeMaps Go.Shelf Go.Sort
attribute [local go_sem] wext_cell
def pnN (E:List RE):Nat:=(E.filter (·.pn)).length
def bsN (E:List RE):Nat:=(E.map (·.bs.length)).sum
theorem pnN_snoc (E:List RE) (e:RE):pnN (E++[e])=pnN E+(if e.pn then 1 else 0):=by
 unfold pnN;rw [List.filter_append,zC];cases h:e.pn<;>simp [h]
theorem bsN_snoc (E:List RE) (e:RE):bsN (E++[e])=bsN E+e.bs.length:=by simp [bsN]
theorem bsN_le (E:List RE) (h:∀ e∈E,e.bs.length<=8192):bsN E<=8192*E.length:=by
 induction E with
 | nil=>simp [bsN]
 | cons e E ih=>
  have h1:=ih (fun x hx=>h x (by simp [hx]));have h2:=h e (by simp);have h3:bsN (e::E)=e.bs.length+bsN E:=by simp [bsN]
  rw [h3,List.length_cons];omega
theorem R3Ok.pend {w:World} {r:R3} (h:R3Ok w r) {j:Nat} (hj:j<r.E.length) {e:RE} (he:r.E.getD j re0=e):∃ g,r.B=some ⟨g,0,none⟩/\g<w.heap.size/\w.cell? ⟨g,j,none⟩=some (.bool e.pn):=by
 obtain ⟨g,e1,hlt,hc⟩:=h.b.at (by omega)
 have hf:w.cell? ⟨g,j*1+0,none⟩=(encP e)[0]? :=by
  rw [hc _ (by omega),flat_at encP_len re0 r.E j 0 hj (by omega),he]
 refine ⟨g,e1,hlt,?_⟩;rw [Nat.mul_one,Nat.add_zero] at hf;exact hf
theorem rCount_any {w:World} {r:R3} (h:R3Ok w r) (hbs:∀ e∈r.E,e.bs.length<=8192):Calls Tryz.prog 99 #[.agg #[.slice r.A r.E.length r.c,.slice r.B r.E.length r.k]] w (fun e w'=>e= .returned (.tuple #[.int .i64 (pnN r.E:Int),.int .i64 (bsN r.E:Int)])/\Below w.heap.size w w'):=by
 have S0:=hid ((SW.startR h).newCell 54 #[.slice r.A r.E.length r.c,.slice r.B r.E.length r.k]);have hn:=h.n;have HBS:=hid hbs;clear h hbs;go_enter Tryz.func99,Tryz.ntmps99;go_wp2_with fail
 generalize w.alloc _=W1 at S0 |-; go_loopw [4,5,6] (fun s4 s5 s6 wr=>∃ (k:Nat),s6= .int .i64 (k:Int)/\k<=r.E.length/\s4= .int .i64 (pnN (r.E.take k):Int)/\s5= .int .i64 (bsN (r.E.take k):Int)/\SW w.heap.size w [cellOb w.heap.size 54 #[.slice r.A r.E.length r.c,.slice r.B r.E.length r.k],r3Ob r] wr) (fun _ _ s6 _=>r.E.length-(intOf s6).toNat)
 case atStart=>exact ⟨0,rfl,Nat.zero_le _,rfl,rfl,S0.out⟩
 obtain ⟨k,rfl,hk,rfl,rfl,hs⟩:=hrel;have S1:=hid hs;clear hs S0;have c0:=(S1.out.cell 0 rfl).cell 0;have c1:=(S1.out.cell 0 rfl).cell 1;by_cases hlt:k<r.E.length
 · obtain ⟨e,he⟩:∃ e,r.E.getD k re0=e:=⟨_,rfl⟩;obtain ⟨g,hA,hg,_,_,a2⟩:=R3Ok.chunk (S1.out.get 1 (o:=r3Ob r) rfl) hlt he;obtain ⟨gB,hB,hgB,b0⟩:=R3Ok.pend (S1.out.get 1 (o:=r3Ob r) rfl) hlt he
   have hem:e∈r.E:=by
    rw [<- he,zB,zD hlt];exact zE hlt
   have hdl:e.d.len=e.bs.length:=(((S1.out.get 1 (o:=r3Ob r) rfl):R3Ok wr r).bytes e hem).1.symm;have hts:r.E.take (k+1)=r.E.take k++[e]:=by rw [List.take_succ_eq_append_getElem hlt, <- he,zB,zD hlt];rfl
   have HP:Hid (pnN (r.E.take (k+1))=pnN (r.E.take k)+(if e.pn then 1 else 0)):=by rw [Hid,hts,pnN_snoc]
   have HB:Hid (bsN (r.E.take (k+1))=bsN (r.E.take k)+e.bs.length):=by rw [Hid,hts,bsN_snoc]
   have hp1:pnN (r.E.take k)<=100000:=by
    have:pnN (r.E.take k)<=(r.E.take k).length:=List.length_filter_le _ _;rw [List.length_take] at this;omega
   have hb1:=bsN_le (r.E.take k) (fun x hx=>HBS.out x (List.mem_of_mem_take hx));rw [List.length_take] at hb1;have hb2:=HBS.out e hem;rw [hA] at c0;rw [hB] at c1;rw [hdl] at a2;generalize pnN (r.E.take k)=P at *; generalize bsN (r.E.take k)=B at *; clear he hA hB hem hdl hts;cases hpn:e.pn with
   | false=>
    rw [hpn] at b0 HP;go_wp2_with fail
    go_roundw
    case rel=>exact ⟨k+1,by go_num,by omega,by rw [HP.out];simp,by rw [HB.out];go_num,S1.out⟩
    simp [intOf];omega
   | true=>
    rw [hpn] at b0 HP;go_wp2_with fail
    go_roundw
    case rel=>exact ⟨k+1,by go_num,by omega,by rw [HP.out];go_num,by rw [HB.out];go_num,S1.out⟩
    simp [intOf];omega
 obtain rfl:k=r.E.length:=by omega
 rw [zF] at *; go_wp2_with fail
 go_ret2;exact ⟨rfl,S1.out.2⟩
end
section
open Go.RowKit Go.MapKept Go.ChangeMaps Go.Shelf Go.Sort
attribute [local go_sem] wext_cell
section
variable {b:Nat} {w0 w:World} {l:List Ob} {g:Nat} {A:Option Addr} {c:Nat} {L:List Int} {n:Nat}
theorem text34_a (h:SW b w0 l w) (kk:Nat) (hk:l[kk]? =some (tpOb g A c L n)) (hn:n<=999000):Calls Tryz.prog 34 #[vPtr g] w (TextP b w0 l kk g A c L n):=by
 have hkl:kk<l.length:=(List.getElem?_eq_some_iff.1 hk).1;have HN:=hid (Next_x h kk hk 4 (by omega) (by omega));have HT:=hid (textN_in L n);obtain ⟨q,hq⟩:∃ q:Nat,tnext L n 4=(q:Int):=⟨(tnext L n 4).toNat,by have:=(tnext_in L n 4).1;omega⟩;have e1:textN L n=1+q:=by unfold textN;rw [hq];simp
 have hq4:q<=3:=by have:=HT.out.2;omega
 rw [hq] at HN;clear h;go_enter Tryz.func34,Tryz.ntmps34;go_wp2_with (go_at_call 33;(with_reducible refine HN.out.mono ?_);refine halt_ ?_)
 rintro e w1 ⟨rfl,s1⟩;have HB:=hid (Bytes_x s1 kk (List.getElem?_set_self hkl) (1+q) 2 (by omega) (by omega) (by omega) (by omega));rw [<- e1,List.set_set] at HB;have e2:Hid ((1:Int)+(q:Int)=((textN L n:Nat):Int)):=by rw [Hid,e1];omega
 clear e1 hq;clear s1 HN;go_wp2_with (go_at_call 54;refine halt_ ?_)
 rw [e2.out];refine HB.out.mono ?_;rintro e w2 ⟨d,rfl,s2⟩;have S2:=hid s2;clear s2 HB;go_wp2_with fail
 go_ret;exact ⟨d,rfl,S2.out⟩
def AnyP (b:Nat) (w0:World) (l:List Ob) (kk g:Nat) (A:Option Addr) (c:Nat) (L:List Int) (n:Nat) (e:Ending) (w':World):Prop:=
 ∃ (i:ID) (n':Nat),e= .returned (.agg #[.int .u64 i.1,.int .i64 i.2])/\okID i/\n'<=n+8/\SW b w0 (l.set kk (tpOb g A c L n')) w'
theorem rE_ok {r:R3} {P:List (List UInt8)} (h:RTX r P) {f:RE} (hf:f∈r.E):okID f.id:=by
 obtain ⟨h1,h2⟩:=h.val f hf;rw [<- h1];exact okID_fp _ (by have:=h2.hi;omega)
theorem any44 (h:SW b w0 l w) (kk:Nat) (hk:l[kk]? =some (tpOb g A c L n)) {r:R3} (hm:∀ n',r3Ob r∈l.set kk (tpOb g A c L n')) {P:List (List UInt8)} (hr:RTX r P) (hn:n<=900000):
 Calls Tryz.prog 44 #[vPtr g,.agg #[.slice r.A r.E.length r.c,.slice r.B r.E.length r.k]] w (AnyP b w0 l kk g A c L n):=by
 have hkl:kk<l.length:=(List.getElem?_eq_some_iff.1 hk).1;have S0:=hid ((h.newCell 54 #[.slice r.A r.E.length r.c,.slice r.B r.E.length r.k]).newCellAt 31 #[.int .u64 0,.int .i64 0] (H:=w.heap.size+1) (by simp));have hk2:∀ n',(l.set kk (tpOb g A c L n'))[kk]? =some (tpOb g A c L n'):=fun n'=>List.getElem?_set_self hkl;have HK2:=hid hk2;have HM:=hid hm;have HR:=hid hr
 have hset:l.set kk (tpOb g A c L n)=l:=by
  obtain ⟨h1,h2⟩:=List.getElem?_eq_some_iff.1 hk;rw [<- h2,List.set_getElem_self]
 have HSET:=hid hset; -- the road behind both tests
 have HT:Hid (∀ (m:Nat) (W:World),m<=n+1->SW b w0 (l.set kk (tpOb g A c L m)) W->Calls Tryz.prog 34 #[vPtr g] W (TextP b w0 (l.set kk (tpOb g A c L m)) kk g A c L m)):=fun m W hmn hW=>text34_a hW kk (hk2 m) (by omega);clear h hk hm hr hk2 hset;go_enter Tryz.func44,Tryz.ntmps44;go_upto_region 1 with fail
 generalize (w.alloc _).alloc _=W1 at S0 |-; rw [<- HSET.out] at S0;have c0:=(S0.out.cell 1 rfl).cell 0;have HN1:=hid (Next_x S0.out (kk+2) (HK2.out n) 4 (by omega) (by omega));by_cases hE:0<r.E.length
 · obtain ⟨v,HV⟩:∃ v,Hid (tnext L n 4=v):=⟨_,rfl⟩;rw [HV.out] at HN1;have hgt:(0:Int)<(r.E.length:Int):=by omega
   go_wp2_with (go_at_call 33;(with_reducible refine HN1.out.mono ?_);refine halt_ ?_)
   rintro e w2 ⟨rfl,s2⟩
   have S2:Hid (SW b w0 (cellOb (w.heap.size+1) 31 #[.int .u64 0,.int .i64 0]::cellOb w.heap.size 54 #[.slice r.A r.E.length r.c,.slice r.B r.E.length r.k]::l.set kk (tpOb g A c L (n+1))) w2):=by
    have:=s2;simp only [List.set_cons_succ,List.set_set] at this;exact this
   clear s2 HN1 S0 c0;by_cases hv:0<v
   · obtain ⟨h1,h2⟩:=tnext_in L (n+1) (r.E.length:Int);obtain ⟨q,hq⟩:∃ q:Nat,tnext L (n+1) (r.E.length:Int)=(q:Int):=⟨(tnext L (n+1) (r.E.length:Int)).toNat,by omega⟩
     have hql:q<r.E.length:=by
      by_cases h3:1<(r.E.length:Int)
      · have:=h2 h3;omega
      have:tnext L (n+1) (r.E.length:Int)=0:=by unfold tnext foldI;rw [if_pos (by omega)]
      omega
     obtain ⟨f,hf⟩:∃ f,r.E.getD q re0=f:=⟨_,rfl⟩
     have hfm:f∈r.E:=by
      rw [<- hf,zB,zD hql];exact zE hql
     have HOK:=hid (rE_ok HR.out hfm);have hR3:R3Ok w2 r:=S2.out.1.holds (r3Ob r) (zA _ (zA _ (HM.out _)));obtain ⟨G,hA,hG,_,_,_⟩:=hR3.chunk hql hf
     have HC:Hid (∀ n' w',SW b w0 (cellOb (w.heap.size+1) 31 #[.int .u64 0,.int .i64 0]::cellOb w.heap.size 54 #[.slice r.A r.E.length r.c,.slice r.B r.E.length r.k]::l.set kk (tpOb g A c L n')) w'->w'.cell? ⟨w.heap.size,0,none⟩=some (.slice (some ⟨G,0,none⟩) r.E.length r.c)/\w'.cell? ⟨G,q*3,none⟩=some (.int .u64 f.id.1)/\w'.cell? ⟨G,q*3+1,none⟩=some (.int .i64 f.id.2)):=fun n' w' hw=>by
      have h3:R3Ok w' r:=hw.1.holds (r3Ob r) (zA _ (zA _ (HM.out _)));obtain ⟨G',hA',_,a0,a1,_⟩:=h3.chunk hql hf;rw [hA] at hA';injection hA' with hA';injection hA' with hA';subst hA';exact ⟨by rw [<- hA];exact (hw.cell 1 rfl).cell 0,a0,a1⟩
     have HN2:Hid (∀ W,SW b w0 (cellOb (w.heap.size+1) 31 #[.int .u64 0,.int .i64 0]::cellOb w.heap.size 54 #[.slice r.A r.E.length r.c,.slice r.B r.E.length r.k]::l.set kk (tpOb g A c L (n+1))) W->Calls Tryz.prog 33 #[vPtr g,.int .i64 (r.E.length:Int)] W (fun e w'=>e= .returned (.int .i64 (q:Int))/\SW b w0 (cellOb (w.heap.size+1) 31 #[.int .u64 0,.int .i64 0]::cellOb w.heap.size 54 #[.slice r.A r.E.length r.c,.slice r.B r.E.length r.k]::l.set kk (tpOb g A c L (n+1+1))) w')):=fun W hW=>by
      have h3:=Next_x hW (kk+2) (HK2.out (n+1)) (r.E.length:Int) (by have:=hR3.n;omega) (by omega);rw [hq] at h3;simp only [List.set_cons_succ,List.set_set] at h3;exact h3
     have S2:=S2.out.drew;clear hf hfm h1 h2 hq hR3 hA;go_upto_region 2 with fail
     refine wp_region_tree 10 (.take 0 (.take 1 (.take 2 (.take 3 (.take 4 (.take 5 (.one 6 (.take 7 (.take 8 (.take 9 .nil)))))))))) (fun w'=>w'.cell? ⟨w.heap.size,0,none⟩=some (.slice (some ⟨G,0,none⟩) r.E.length r.c)/\w'.cell? ⟨G,q*3,none⟩=some (.int .u64 f.id.1)/\w'.cell? ⟨G,q*3+1,none⟩=some (.int .i64 f.id.2)) (by kernel_rfl) (fun _ _ d _ _ h=>by cases d<;>exact h) (by kernel_rfl) (HC.out _ _ S2) ?_
     iterate 6
      refine wpTr_takeL rfl ?_ (Or.inl ⟨by rfl,?_⟩) ?_;rotate_left
      · (intro w' hSw;obtain ⟨h1,h2,h3⟩:=hSw;go_simp;try with_reducible rfl)
      try simp only [Act.put,zG,List.set]
     refine wpTr_one ?_;refine wpTr_runL rfl (fun K' hK'=>?_);go_simp;go_at_call 33
     refine (HN2.out _ S2).mono ?_;rintro e wc1 ⟨rfl,sc1⟩;have SC1:SW b w0 (cellOb (w.heap.size+1) 31 #[.int .u64 0,.int .i64 0]::cellOb w.heap.size 54 #[.slice r.A r.E.length r.c,.slice r.B r.E.length r.k]::l.set kk (tpOb g A c L (n+1+1))) wc1:=sc1;clear sc1;go_wp2_with fail
     refine hK'.out _ _ (HC.out _ _ SC1) ?_;clear hK' K';try simp only [Act.put,zG,List.set]
     iterate 3
      refine wpTr_takeL rfl ?_ (Or.inl ⟨by rfl,?_⟩) ?_;rotate_left
      · (intro w' hSw;obtain ⟨h1,h2,h3⟩:=hSw;go_simp;try with_reducible rfl)
      try simp only [Act.put,zG,List.set]
     refine wpTr_nil ?_;simp only [List.drop_succ_cons,List.drop_zero];have z0:=(SW.cell SC1 0 rfl).cell 0;have z1:=(SW.cell SC1 0 rfl).cell 1;have f0:=(SW.cell SC1 0 rfl).frozen 0;have f1:=(SW.cell SC1 0 rfl).frozen 1;have S5:=hid (SW.setAt (SW.setAt SC1 0 rfl 0 (.int .u64 f.id.1)) 0 rfl 1 (.int .i64 f.id.2));have e0:=(S5.out.cell 0 rfl).cell 0;have e1:=(S5.out.cell 0 rfl).cell 1;go_wp2_with fail
     refine bodyPost_ret (v:=.agg #[.int .u64 f.id.1,.int .i64 f.id.2]) ?_ rfl ⟨f.id,n+1+1,rfl,HOK.out,by omega,S5.out.tail.tail⟩;simp [results,Tryz.results44,go_sem,e0,e1]
   have hv2:¬ 0<v:=hv;have HX:=hid (textB_is L (n+1));have HTN:=(textN_in L (n+1)).2;have HT2:=hid (text34_a S2.out (kk+2) (HK2.out (n+1)) (by omega));go_wp2_with (go_at_call 34;(with_reducible refine HT2.out.mono ?_);refine halt_ ?_)
   rintro e w3 ⟨d,rfl,s3⟩;obtain ⟨bs,HBS⟩:∃ bs,Hid (textB L (n+1)=bs):=⟨_,rfl⟩;rw [HBS.out] at s3 HX
   have S3:Hid (SW b w0 (bufOb d bs::cellOb (w.heap.size+1) 31 #[.int .u64 0,.int .i64 0]::cellOb w.heap.size 54 #[.slice r.A r.E.length r.c,.slice r.B r.E.length r.k]::l.set kk (tpOb g A c L (n+1+1+textN L (n+1)))) w3):=by
    have:=s3;simp only [List.set_cons_succ,List.set_set] at this;exact this
   have hrb:RB w3 d bs:=S3.out.get 0 (o:=bufOb d bs) rfl;obtain ⟨dA,dn,dc⟩:=d;have hdn:bs.length=dn:=hrb.1;subst hdn;have hbl:=HX.out.hi;have HOF:=hid (Of_any dA dc bs w3 hrb.rs (by omega));obtain ⟨i,HI⟩:∃ i,Hid (fpOf bs=i):=⟨_,rfl⟩;rw [HI.out] at HOF;have HOK:Hid (okID i):=by rw [Hid, <- HI.out];exact okID_fp bs (by omega)
   clear s3 HT2 S2 hrb;go_wp2_with (go_at_call 31;(with_reducible refine HOF.out.mono ?_);refine halt_ ?_)
   rintro e w4 ⟨rfl,hb4⟩;have S4:=hid (S3.out.on hb4);have z0:=(S4.out.cell 1 rfl).cell 0;have z1:=(S4.out.cell 1 rfl).cell 1;have f0:=(S4.out.cell 1 rfl).frozen 0;have f1:=(S4.out.cell 1 rfl).frozen 1;have S5:=hid ((S4.out.setAt 1 rfl 0 (.int .u64 i.1)).setAt 1 rfl 1 (.int .i64 i.2));have e0:=(S5.out.cell 1 rfl).cell 0;have e1:=(S5.out.cell 1 rfl).cell 1;clear hb4 HOF S3;go_wp2_with fail
   refine bodyPost_ret (v:=.agg #[.int .u64 i.1,.int .i64 i.2]) ?_ rfl ⟨i,n+1+1+textN L (n+1),rfl,HOK.out,by omega,S5.out.tail.tail.tail⟩;simp [results,Tryz.results44,go_sem,e0,e1]
 have hl0:r.E.length=0:=by omega
 rw [hl0] at c0;clear HN1 hl0;have HX:=hid (textB_is L (n));have HTN:=(textN_in L (n)).2;have HT2:=hid (text34_a S0.out (kk+2) (HK2.out (n)) (by omega));go_wp2_with (go_at_call 34;(with_reducible refine HT2.out.mono ?_);refine halt_ ?_)
 rintro e w3 ⟨d,rfl,s3⟩;obtain ⟨bs,HBS⟩:∃ bs,Hid (textB L (n)=bs):=⟨_,rfl⟩;rw [HBS.out] at s3 HX
 have S3:Hid (SW b w0 (bufOb d bs::cellOb (w.heap.size+1) 31 #[.int .u64 0,.int .i64 0]::cellOb w.heap.size 54 #[.slice r.A r.E.length r.c,.slice r.B r.E.length r.k]::l.set kk (tpOb g A c L (n+1+textN L (n)))) w3):=by
  have:=s3;simp only [List.set_cons_succ,List.set_set] at this;exact this
 have hrb:RB w3 d bs:=S3.out.get 0 (o:=bufOb d bs) rfl;obtain ⟨dA,dn,dc⟩:=d;have hdn:bs.length=dn:=hrb.1;subst hdn;have hbl:=HX.out.hi;have HOF:=hid (Of_any dA dc bs w3 hrb.rs (by omega));obtain ⟨i,HI⟩:∃ i,Hid (fpOf bs=i):=⟨_,rfl⟩;rw [HI.out] at HOF;have HOK:Hid (okID i):=by rw [Hid, <- HI.out];exact okID_fp bs (by omega)
 clear s3 HT2 S0 hrb;go_wp2_with (go_at_call 31;(with_reducible refine HOF.out.mono ?_);refine halt_ ?_)
 rintro e w4 ⟨rfl,hb4⟩;have S4:=hid (S3.out.on hb4);have z0:=(S4.out.cell 1 rfl).cell 0;have z1:=(S4.out.cell 1 rfl).cell 1;have f0:=(S4.out.cell 1 rfl).frozen 0;have f1:=(S4.out.cell 1 rfl).frozen 1;have S5:=hid ((S4.out.setAt 1 rfl 0 (.int .u64 i.1)).setAt 1 rfl 1 (.int .i64 i.2));have e0:=(S5.out.cell 1 rfl).cell 0;have e1:=(S5.out.cell 1 rfl).cell 1;clear hb4 HOF S3;go_wp2_with fail
 refine bodyPost_ret (v:=.agg #[.int .u64 i.1,.int .i64 i.2]) ?_ rfl ⟨i,n+1+textN L (n),rfl,HOK.out,by omega,S5.out.tail.tail.tail⟩;simp [results,Tryz.results44,go_sem,e0,e1]
end
end
section
open Go.RowKit Go.MapKept Go.ChangeMaps Go.Shelf Go.Sort
attribute [local go_sem] wext_cell
section
variable {b:Nat} {w0 w:World} {l:List Ob} {g:Nat} {A:Option Addr} {c:Nat} {L:List Int} {n:Nat}
def SomeP (b:Nat) (w0:World) (l:List Ob) (kk g:Nat) (A:Option Addr) (c:Nat) (L:List Int) (n:Nat) (e:Ending) (w':World):Prop:=
 ∃ (A1:Option Addr) (c1:Nat) (ids:List ID) (n':Nat),e= .returned (.slice A1 ids.length c1)/\ids.length<=3/\(∀ i∈ids,okID i)/\n'<=n+25/\SW b w0 (riOb A1 ids::l.set kk (tpOb g A c L n')) w'
theorem some41 (h:SW b w0 l w) (kk:Nat) (hk:l[kk]? =some (tpOb g A c L n)) {r:R3} (hm:∀ n',r3Ob r∈l.set kk (tpOb g A c L n')) {P:List (List UInt8)} (hr:RTX r P) (hn:n<=800000):
 Calls Tryz.prog 41 #[vPtr g,.agg #[.slice r.A r.E.length r.c,.slice r.B r.E.length r.k]] w (SomeP b w0 l kk g A c L n):=by
 have hkl:kk<l.length:=(List.getElem?_eq_some_iff.1 hk).1;have hk2:∀ n',(l.set kk (tpOb g A c L n'))[kk]? =some (tpOb g A c L n'):=fun n'=>List.getElem?_set_self hkl;have HK2:=hid hk2;have HM:=hid hm;have HR:=hid hr
 have hset:l.set kk (tpOb g A c L n)=l:=by
  obtain ⟨h1,h2⟩:=List.getElem?_eq_some_iff.1 hk;rw [<- h2,List.set_getElem_self]
 have S0:Hid (SW b w0 (cellOb w.heap.size 54 #[.slice r.A r.E.length r.c,.slice r.B r.E.length r.k]::l.set kk (tpOb g A c L n)) (w.alloc (.cells #[.slice r.A r.E.length r.c,.slice r.B r.E.length r.k] 54))):=by
  rw [Hid,hset];exact h.newCell 54 _
 clear h hk hm hr hk2 hset;have HN1:=hid (Next_x S0.out (kk+1) (HK2.out n) 4 (by omega) (by omega));obtain ⟨hv0,hv1⟩:=tnext_in L n 4;have hv1:=hv1 (by omega);obtain ⟨K,HKK⟩:∃ K:Nat,Hid (tnext L n 4=(K:Int)):=⟨(tnext L n 4).toNat,by rw [Hid];omega⟩;rw [HKK.out] at HN1 hv0 hv1;go_enter Tryz.func41,Tryz.ntmps41;go_wp2_with (go_at_call 33;(with_reducible refine HN1.out.mono ?_);refine halt_ ?_)
 rintro e w2 ⟨rfl,s2⟩
 have S2:Hid (SW b w0 (rowOb 31 2 (.slice none 0 0) 0 []::cellOb w.heap.size 54 #[.slice r.A r.E.length r.c,.slice r.B r.E.length r.k]::l.set kk (tpOb g A c L (n+1))) w2):=by
  have:=s2;simp only [List.set_cons_succ,List.set_set] at this;exact this.newRow 31 2
 clear s2 HN1 S0;go_wp2_with fail
 go_loopw [5,6] (fun s5 s6 wr=>∃ (m n':Nat) (A1:Option Addr) (c1:Nat) (ids:List ID),s6= .int .i64 (m:Int)/\s5= .slice A1 ids.length c1/\ids.length+m=K/\n'+8*m<=n+1+8*K/\(∀ i∈ids,okID i)/\SW b w0 (rowOb 31 2 (.slice A1 ids.length c1) ids.length (ids.flatMap encID)::cellOb w.heap.size 54 #[.slice r.A r.E.length r.c,.slice r.B r.E.length r.k]::l.set kk (tpOb g A c L n')) wr) (fun _ s6 _=>(intOf s6).toNat)
 case atStart=>exact ⟨K,n+1,none,0,[],rfl,rfl,by simp,by omega,by simp,S2.out⟩
 obtain ⟨m,n',A1,c1,ids,rfl,rfl,hm,hn',hok,hs⟩:=hrel;have S3:=hid hs;have HOK:=hid hok;clear hs hok S2;cases m with
 | zero=>
  go_wp2_with fail
  go_ret;exact ⟨A1,c1,ids,n',rfl,by omega,HOK.out,by omega,(SW.front (pre:=[_,_]) S3.out [1,0] (n:=2) rfl (by decide)).tail.rowRi⟩
 | succ m=>
  have c0:=(S3.out.cell 1 rfl).cell 0;have c1':=(S3.out.cell 1 rfl).cell 1
  have HAN:=hid (any44 S3.out (kk+2) (HK2.out n') (r:=r) (fun q=>by
   simp only [List.set_cons_succ,List.set_set];exact zA _ (zA _ (HM.out q))) HR.out (by omega))
  go_wp2_with (go_at_call 44;(with_reducible refine HAN.out.mono ?_);refine halt_ ?_)
  rintro e w4 ⟨i,n2,rfl,hi,hn2,s4⟩
  have S4:Hid (SW b w0 (rowOb 31 2 (.slice A1 ids.length c1) ids.length (ids.flatMap encID)::cellOb w.heap.size 54 #[.slice r.A r.E.length r.c,.slice r.B r.E.length r.k]::l.set kk (tpOb g A c L n2)) w4):=by
   have:=s4;simp only [List.set_cons_succ,List.set_set] at this;exact this
  have HI:=hid hi;clear s4 HAN S3 c0 c1' hi;obtain ⟨i1,gi,gz0,gz1,gz2⟩:=info_parts info31;go_wp2_with (at_builtin;(refine wpList_rowS (t:=38) (e:=31) (size:=2) (bytes:=16) (i:=i1) (S4.out.alloc _) 0 rfl (by rfl) (.tmp 13) (.tmp 17) (by rfl) Tryz.underlying38 gi gz0 gz1 gz2 rfl (by omega) (by rfl) ⟨w4.heap.size,0,none⟩ 1 [.int .u64 i.1,.int .i64 i.2] (by rfl) rfl (two_new w4 _ _ 31 _ rfl) (encID_one i) (by unfold maxLen;omega) (by omega) ?_);refine halt_ ?_)
  intro v5 w5 s5;obtain ⟨g5,c5,rfl⟩:=own_some (s5.get 0 rfl) (by omega)
  have S5:Hid (SW b w0 (rowOb 31 2 (.slice (some ⟨g5,0,none⟩) (ids++[i]).length c5) (ids++[i]).length ((ids++[i]).flatMap encID)::cellOb w.heap.size 54 #[.slice r.A r.E.length r.c,.slice r.B r.E.length r.k]::l.set kk (tpOb g A c L n2)) w5):=by
   rw [Hid,List.flatMap_append,zC];exact s5
  clear s5 S4;go_wp2_with fail
  go_roundw
  case rel=>
   refine ⟨m,n2,some ⟨g5,0,none⟩,c5,ids++[i],by go_num,by rw [zC];rfl,by rw [zC,List.length_singleton];omega,by omega,fun j hj=>?_,S5.out⟩;rcases List.mem_append.1 hj with hj | hj
   · exact HOK.out j hj
   rw [List.mem_singleton.1 hj];exact HI.out
  simp [intOf]
end
end
section
open Go.RowKit Go.MapKept Go.ChangeMaps Go.Shelf Go.Sort
end
end Go.Proofs.YteabgcollokgjaaGreatDoor
