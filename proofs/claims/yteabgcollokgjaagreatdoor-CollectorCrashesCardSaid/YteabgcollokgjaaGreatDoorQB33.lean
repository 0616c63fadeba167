/- Q -/
import Derived.Test.YteabgcollokgjaaGreatDoorQB31
import Derived.Test.YteabgcollokgjaaGreatDoorQB32
set_option linter.unusedSimpArgs false
set_option linter.unusedVariables false
set_option maxRecDepth 100000
set_option maxHeartbeats 32000000
open Go.Lib (hid)
open List renaming getD_eq_getElem?_getD → zA,length_append → zB,getElem?_eq_getElem → zC,setIfInBounds_toArray → zD
namespace Go.Proofs.YteabgcollokgjaaGreatDoor
section
open Go.RowKit Go.MapKept Go.ChangeMaps Go.Shelf Go.Sort
attribute [local go_sem] wext_cell
theorem rPut_there {w:World} {r:R3} (h:R3Ok w r) (d:BD) (bs:List UInt8) (hb:RB w d bs) (h1:1<=bs.length) (h2:bs.length<=8192) {e:RE} (hat:hasAt r.E (fpOf bs)=true) (he:r.E.getD (atI r.E (fpOf bs)) re0=e) (hk:atI r.E (fpOf bs)<r.E.length) (heb:e.bs=bs):
 Calls Tryz.prog 36 #[.agg #[.slice r.A r.E.length r.c,.slice r.B r.E.length r.k],.slice d.A d.len d.cap] w (fun e w'=>e= .returned (.tuple #[.agg #[.slice r.A r.E.length r.c,.slice r.B r.E.length r.k],.agg #[.int .u64 (fpOf bs).1,.int .i64 (fpOf bs).2],.int .i64 0])/\Below w.heap.size w w'):=by
 have hdl:d.len=bs.length:=hb.1.symm;rw [hdl];have HRB:=hid hb
 have S0:Hid (SW w.heap.size w [rsOb d.A bs,r3Ob r] w):=(SW.startR h).also (o':=rsOb d.A bs) hb.rs (fun _ h=>h) (fun _ h'=>rsOb_lt hb.rs h') (fun i _ y hy=>by
  rcases List.mem_cons.1 hy with rfl | hy
  · exact fun h=>h
  cases hy)
 have S1:=hid (((S0.out.newCell 54 #[.slice r.A r.E.length r.c,.slice r.B r.E.length r.k]).newCellAt 54 #[.slice none 0 0,.slice none 0 0] (H:=w.heap.size+1) (by simp)).newCellAt 31 #[.int .u64 0,.int .i64 0] (H:=w.heap.size+2) (by simp));generalize hN:bs.length=N at h1 h2;have HN:=hid hN;have hd1:decide ((N:Int)<1)=false:=decide_eq_false (by omega);have hd2:decide ((N:Int)>8192)=false:=decide_eq_false (by omega);obtain ⟨W1,HW1⟩:∃ W1,Hid (((w.alloc (.cells #[.slice r.A r.E.length r.c,.slice r.B r.E.length r.k] 54)).alloc (.cells #[.slice none 0 0,.slice none 0 0] 54)).alloc (.cells #[.int .u64 0,.int .i64 0] 31)=W1):=⟨_,rfl⟩;rw [HW1.out] at S1;have HOF:=hid (rOf_any d.A d.cap bs W1 (S1.out.get 3 (o:=rsOb d.A bs) rfl) (by omega));rw [hN] at HOF;obtain ⟨i,HI⟩:∃ i,Hid (fpOf bs=i):=⟨_,rfl⟩;rw [HI.out] at HOF hat he hk;have HAT':=hid hat;have HE:=hid he;have HEB:=hid heb;obtain ⟨K,HK⟩:∃ K,Hid (atI r.E i=K):=⟨_,rfl⟩;rw [HK.out] at hk HE;clear hN h hb hat he heb hdl;rw [HI.out];go_enter Tryz.func36,Tryz.ntmps36;go_upto_region 3 with fail
 rw [HW1.out];go_wp2_with (first | (go_at_call 94;(with_reducible refine HOF.out.mono ?_);refine halt_ ?_) | (at_builtin;refine halt_ ?_))
 rintro e2 w2 ⟨rfl,hb2⟩;have S2:=hid (S1.out.on hb2);clear hb2 HOF S1;have HRB2:=hid (HRB.out.on S2.out.2);go_wp2_with (at_builtin;refine halt_ ?_)
 refine wpList_append_bytes rfl _ _ rfl ⟨none,0,0⟩ [] rfl (rb_nil w2) d.A d.cap bs (by rw [HN.out];rfl) HRB2.out.src (by have:=HN.out;simp only [List.length_nil];omega) ?_;intro d2 w3 hl2 happ;clear hl2;have S3:Hid (SW w.heap.size w [bufOb d2 bs,cellOb (w.heap.size+2) 31 #[.int .u64 0,.int .i64 0],cellOb (w.heap.size+1) 54 #[.slice none 0 0,.slice none 0 0],cellOb w.heap.size 54 #[.slice r.A r.E.length r.c,.slice r.B r.E.length r.k],rsOb d.A bs,r3Ob r] w3):=S2.out.newBuf.appB 0 rfl happ;unfold vB;have S4:=hid (S3.out.newCell 65 #[.int .u64 i.1,.int .i64 i.2,.slice d2.A d2.len d2.cap]);have HAT:=hid (At_any (S4.out.get 6 (o:=r3Ob r) rfl) i);rw [HK.out,HAT'.out] at HAT;have d0:(w3.alloc (.cells #[.int .u64 i.1,.int .i64 i.2,.slice d2.A d2.len d2.cap] 65)).cell? ⟨w3.heap.size,0,none⟩=some (.int .u64 i.1):=(S4.out.cell 0 rfl).cell 0;have d1:(w3.alloc (.cells #[.int .u64 i.1,.int .i64 i.2,.slice d2.A d2.len d2.cap] 65)).cell? ⟨w3.heap.size,1,none⟩=some (.int .i64 i.2):=(S4.out.cell 0 rfl).cell 1;have c0:(w3.alloc (.cells #[.int .u64 i.1,.int .i64 i.2,.slice d2.A d2.len d2.cap] 65)).cell? ⟨w.heap.size,0,none⟩=some (.slice r.A r.E.length r.c):=(S4.out.cell 4 rfl).cell 0;have c1:(w3.alloc (.cells #[.int .u64 i.1,.int .i64 i.2,.slice d2.A d2.len d2.cap] 65)).cell? ⟨w.heap.size,1,none⟩=some (.slice r.B r.E.length r.k):=(S4.out.cell 4 rfl).cell 1;have h3lt:=(S3.out.cell 1 rfl).lt
 clear happ S2 S3;go_wp2_with (go_at_call 95;(with_reducible refine HAT.out.mono ?_);refine halt_ ?_)
 rintro e4 w4 ⟨rfl,hb4⟩;have S5:=hid (S4.out.on hb4);clear hb4 HAT S4 d0 d1 c0 c1;have c0:=(S5.out.cell 4 rfl).cell 0;have c1:=(S5.out.cell 4 rfl).cell 1;have hok:R3Ok w4 r:=S5.out.get 6 (o:=r3Ob r) rfl;obtain ⟨gE,hA,hgl,a0,a1,a2⟩:=hok.chunk hk HE.out
 have hrb1:RB w4 e.d e.bs:=hok.bytes e (by
  rw [<- HE.out,zA,zC hk];exact List.getElem_mem hk)
 have hrb2:RB w4 d bs:=HRB.out.on S5.out.2;have v1:=fun q:Ext w4=>conv_rb (hrb1.on (wext_below q));have v2:=fun q:Ext w4=>conv_rb (hrb2.on (wext_below q));rw [HEB.out] at v1;have hdl:d.len=N:=hrb2.1.symm.trans HN.out;rw [hdl] at v2;rw [hA] at c0;have l0:=(S5.out.cell 4 rfl).lt;clear hok hrb1 hrb2 hdl;go_upto_region 6 with fail
 refine wp_region_ext (by kernel_rfl) (by kernel_rfl) ?_;repeat (go_big_quiet_step (fail))
 refine wpQuiet_nil ?_;intro w5 hb5;have S6:=hid (S5.out.on hb5);clear hb5 v1 v2 a0 a1 a2 c0 c1 S5;have c0:=(S6.out.cell 4 rfl).cell 0;have c1:=(S6.out.cell 4 rfl).cell 1;have d0:=(S6.out.cell 0 rfl).cell 0;have d1:=(S6.out.cell 0 rfl).cell 1;have z0:=(S6.out.cell 3 rfl).cell 0;have z1:=(S6.out.cell 3 rfl).cell 1;have y0:=(S6.out.cell 2 rfl).cell 0;have y1:=(S6.out.cell 2 rfl).cell 1;have f0:=(S6.out.cell 3 rfl).frozen 0;have f1:=(S6.out.cell 3 rfl).frozen 1;have f2:=(S6.out.cell 2 rfl).frozen 0;have f3:=(S6.out.cell 2 rfl).frozen 1;have hn1:w3.heap.size≠w.heap.size+1:=by omega
 have hn2:w3.heap.size≠w.heap.size+2:=by omega
 have hn3:w3.heap.size≠w.heap.size+1+1:=by omega
 go_upto_region 8 with fail
 go_region
 have S7:=hid (((((S6.out.setAt 3 rfl 0 (.slice (some ⟨gE,0,none⟩) r.E.length r.c)).setAt 3 rfl 1 (.slice r.B r.E.length r.k)).setAt 2 rfl 0 (.int .u64 i.1)).setAt 2 rfl 1 (.int .i64 i.2)).drew);have e0:=(S7.out.cell 3 rfl).cell 0;have e1:=(S7.out.cell 3 rfl).cell 1;have e2:=(S7.out.cell 2 rfl).cell 0;have e3:=(S7.out.cell 2 rfl).cell 1;clear c0 c1 d0 d1 z0 z1 y0 y1 f0 f1 f2 f3 S6;generalize World.drew _=W at S7 e0 e1 e2 e3 |-; have hRA:=hA;clear hA;go_wp2_with fail
 refine bodyPost_ret (v:=.tuple #[.agg #[.slice (some ⟨gE,0,none⟩) r.E.length r.c,.slice r.B r.E.length r.k],.agg #[.int .u64 i.1,.int .i64 i.2],.int .i64 0]) ?_ rfl ⟨?_,S7.out.2⟩
 · simp [results,Tryz.results36,go_sem,e0,e1,e2,e3]
 first
  | rfl
  | (rw [hRA])
theorem mk_bools (w:World) (n:Nat) (hn:n<=100000):(Instr.makeSlice 52 (.int .i64 n) (.int .i64 n)).run Tryz.prog w= .ok (.slice (some ⟨w.heap.size,0,none⟩) n n) (w.alloc (.cells (Array.replicate n (.bool false)) 4)):=by
 obtain ⟨i0,hi,hz0,hz1,hz2⟩:=info_parts info4;have:=run_makeSlice (P:=Tryz.prog) w 52 4 i0 _ Tryz.underlying52 hi hz0 .i64 .i64 n n (by omega) (by omega) (by rw [hz1];simp;omega) (by rw [hz2];omega) (by omega);simp only [Int.toNat_natCast] at this;have e:madeCells (Value.bool false).cells n=(Array.replicate n (.bool false)):=Array.ext' (by rw [show (Value.bool false).cells= #[Value.bool false] from rfl,toList_madeCells_one];simp);rw [this,hz1,Nat.mul_one,e]
def R3.still (r:R3) (g:Nat):R3:=⟨r.A,r.c,some ⟨g,0,none⟩,r.E.length,r.E.map fun e=>{ e with pn:=false }⟩
theorem still_len (r:R3) (g:Nat):(r.still g).E.length=r.E.length:=by simp [R3.still]
theorem still_ids (r:R3) (g:Nat):(r.still g).ids=r.ids:=by simp [R3.still,R3.ids]
theorem RTX.still {r:R3} {P:List (List UInt8)} (h:RTX r P) (g:Nat):RTX (r.still g) P:=by
 refine ⟨?_,fun i=>?_,fun e he=>?_⟩
 · exact List.pairwise_map.2 h.sort
 · rw [still_ids];exact h.has i
 obtain ⟨f,hf,rfl⟩:=List.mem_map.1 he;exact h.val f hf
theorem still_ok {w w':World} {r:R3} (h:R3Ok w r) (hb:Below w.heap.size w w') {g:Nat} (hg:IsB w' g 4 (Array.replicate r.E.length (.bool false))):R3Ok w' (r.still g):=by
 have h':=h.on hb
 have e1:(r.still g).E.flatMap encK=r.E.flatMap encK:=by
  show (r.E.map fun e=>{ e with pn:=false }).flatMap encK=_;rw [List.flatMap_map];rfl
 have e2:(r.still g).E.flatMap encP=List.replicate r.E.length (.bool false):=by
  have:∀ l:List RE,(l.map fun e=>{ e with pn:=false }).flatMap encP=List.replicate l.length (Value.bool false):=fun l=>by
   induction l with
   | nil=>rfl
   | cons e l ih=>rw [List.map_cons,List.flatMap_cons,ih];rfl
  exact this r.E
 refine ⟨?_,?_,?_,?_,?_,fun e he=>?_⟩
 · rw [e1,still_len];exact h'.a
 · rw [e2,still_len];refine ⟨by simp,.inr ⟨g,_,rfl,hg,by simp⟩⟩
 · rw [still_len];exact h'.c
 · rw [still_len];exact Nat.le_refl _
 · rw [still_len];exact h'.n
 obtain ⟨f,hf,rfl⟩:=List.mem_map.1 he;exact h'.bytes f hf
theorem still_rd {r:R3} {g i:Nat} (h:(r3Ob (r.still g)).rd i):i=g∨(r3Ob r).rd i:=by
 rcases h with ⟨hn,e | e⟩ | ⟨e,he,ea⟩
 · exact .inr (.inl ⟨by rw [still_len] at hn;exact hn,.inl e⟩)
 · injection e with e;injection e with e;exact .inl e.symm
 obtain ⟨f,hf,rfl⟩:=List.mem_map.1 he;exact .inr (.inr ⟨f,hf,ea⟩)
theorem rFlush_any {w:World} {r:R3} (h:R3Ok w r):Calls Tryz.prog 43 #[.agg #[.slice r.A r.E.length r.c,.slice r.B r.E.length r.k]] w (fun e w'=>∃ g,e= .returned (.agg #[.slice r.A r.E.length r.c,.slice (some ⟨g,0,none⟩) r.E.length r.E.length])/\w.heap.size<=g/\R3Ok w' (r.still g)/\Below w.heap.size w w'):=by
 have S0:Hid (SW w.heap.size w [cellOb (w.heap.size+1) 54 #[.slice none 0 0,.slice none 0 0],cellOb w.heap.size 54 #[.slice r.A r.E.length r.c,.slice r.B r.E.length r.k]] _):=hid (((SW.refl (Sep.nil w (Nat.le_refl _))).newCell 54 #[.slice r.A r.E.length r.c,.slice r.B r.E.length r.k]).newCellAt 54 #[.slice none 0 0,.slice none 0 0] (H:=w.heap.size+1) (by simp));have HO:=hid h;have hn:=h.n;have hmk:=fun W=>mk_bools W r.E.length hn;generalize hN:r.E.length=N at hmk hn S0;have HN:=hid hN;clear h;go_enter Tryz.func43,Tryz.ntmps43;go_upto_region 1 with fail
 clear hN;generalize hW:(w.alloc _).alloc _=W at S0 |-; have c0:=(S0.out.cell 1 rfl).cell 0;have d0:=(S0.out.cell 0 rfl).cell 0;have d1:=(S0.out.cell 0 rfl).cell 1;have f0:=(S0.out.cell 0 rfl).frozen 0;have f1:=(S0.out.cell 0 rfl).frozen 1;have l1:=(S0.out.cell 0 rfl).lt;have l0:w.heap.size<W.heap.size:=by omega
 clear hW;go_region
 have S1:=hid ((((S0.out.setAt 0 rfl 0 (.slice r.A N r.c)).setAt 0 rfl 1 (.slice (some ⟨W.heap.size,0,none⟩) N N)).newCellAt 4 (Array.replicate N (.bool false)) (H:=W.heap.size) (by simp [World.setCell])).drew);have e0:=(S1.out.cell 1 rfl).cell 0;have e1:=(S1.out.cell 1 rfl).cell 1;have hg:=S1.out.cell 0 rfl;clear c0 d0 d1 f0 f1 S0;generalize World.drew _=W1 at S1 e0 e1 hg |-; go_wp2_with fail
 refine bodyPost_ret (v:=.agg #[.slice r.A N r.c,.slice (some ⟨W.heap.size,0,none⟩) N N]) ?_ rfl ⟨W.heap.size,rfl,by omega,still_ok HO.out S1.out.2 (by rw [HN.out];exact hg),S1.out.2⟩;simp [results,Tryz.results43,go_sem,e0,e1]
theorem rNew_any {b:Nat} {w0 w:World} {l:List Ob} {r:R3} (h:SW b w0 l w) (hm:r3Ob r∈l) {A:Option Addr} {live:List ID} (hA:riOb A live∈l) (hl:live.length<=100000) (c:Nat):
 Calls Tryz.prog 110 #[.agg #[.slice r.A r.E.length r.c,.slice r.B r.E.length r.k],.slice A live.length c] w (fun e w'=>∃ CA cc,e= .returned (.agg #[.slice r.A r.E.length r.c,.slice r.B r.E.length r.k,.slice CA (lessR r.ids live).length cc,.slice none 0 0])/\SW b w0 (riOb CA (lessR r.ids live)::l) w'):=by
 have S0:=hid ((h.newCell 54 #[.slice r.A r.E.length r.c,.slice r.B r.E.length r.k]).newCellAt 100 #[.slice none 0 0,.slice none 0 0,.slice none 0 0,.slice none 0 0] (H:=w.heap.size+1) (by simp));have hn:=(h.1.holds _ hm:R3Ok w r).n;have HM:=hid hm;have HA:=hid hA;generalize hN:r.E.length=N at S0;have HN:=hid hN;clear h hm hA;go_enter Tryz.func110,Tryz.ntmps110;go_upto_region 1 with fail
 generalize hW:(w.alloc _).alloc _=W at S0 |-; have c0:=(S0.out.cell 1 rfl).cell 0;have c1:=(S0.out.cell 1 rfl).cell 1;have HI:=hid (rIDs_any (r:=r) S0.out.drew (by simp [HM.out]));rw [HN.out] at HI;clear hW;have HML:=hid hl;have HIL:Hid (r.ids.length<=100000):=by rw [Hid,List.length_map];exact hn
 obtain ⟨ids,HIDS⟩:∃ ids,Hid (r.ids=ids):=⟨_,rfl⟩;rw [HIDS.out] at HI HIL;refine wp_region_held_tail [(0,true),(1,true),(3,true),(2,false),(4,false)] (fun w'=>w'.cell? ⟨w.heap.size,0,none⟩=some (.slice r.A N r.c)/\w'.cell? ⟨w.heap.size,1,none⟩=some (.slice r.B N r.k)) (by kernel_rfl) (fun _ _ d _ _ h=>by cases d<;>exact h) (by kernel_rfl) (⟨c0,c1⟩) ?_;simp only [pk_]
 iterate 3
  (refine wpHeld_take (v:=?_) (Or.inl ⟨by rfl,?_⟩) ?_
   rotate_left
   · (intro w' hSw;obtain ⟨h1,h2⟩:=hSw;go_simp;try with_reducible rfl)
   try simp only [Act.put,zD,List.set])
 refine wpHeld_run (fun K hK=>?_);go_simp;go_at_call 70
 refine HI.out.mono ?_;rintro e w1 ⟨A1,c1,rfl,s1⟩;have S1:=hid s1;clear s1;go_wp2_with fail
 refine hK.out _ _ ⟨(S1.out.cell 2 rfl).cell 0,(S1.out.cell 2 rfl).cell 1⟩ ?_;clear hK K;try simp only [Act.put,zD,List.set]
 refine wpHeld_run (fun K hK=>?_);go_simp;go_at_call 121
 refine (rLess_any S1.out (A1:=A1) (A2:=A) (l1:=ids) (l2:=live) (by simp) (by simp [HA.out]) HIL.out HML.out c1 c).mono ?_;rintro e w2 ⟨CA,cc,rfl,s2⟩;have S2:=hid s2;clear s2;go_wp2_with fail
 refine hK.out _ _ ⟨(S2.out.cell 3 rfl).cell 0,(S2.out.cell 3 rfl).cell 1⟩ ?_;clear hK K;try simp only [Act.put,zD,List.set]
 refine wpHeld_nil ?_;simp only [dz_];have z0:=(S2.out.cell 2 rfl).cell 0;have z1:=(S2.out.cell 2 rfl).cell 1;have z2:=(S2.out.cell 2 rfl).cell 2;have z3:=(S2.out.cell 2 rfl).cell 3;have f0:=(S2.out.cell 2 rfl).frozen 0;have f1:=(S2.out.cell 2 rfl).frozen 1;have f2:=(S2.out.cell 2 rfl).frozen 2;have f3:=(S2.out.cell 2 rfl).frozen 3;have S3:=hid ((((S2.out.setAt 2 rfl 0 (.slice r.A N r.c)).setAt 2 rfl 1 (.slice r.B N r.k)).setAt 2 rfl 2 (.slice CA (lessR ids live).length cc)).setAt 2 rfl 3 (.slice none 0 0));have S4:Hid (SW b w0 (riOb CA (lessR ids live)::l) _):=hid (SW.few (pre:=[_,_,_,_]) S3.out [0] (n:=4) rfl (by decide) (by decide));have e0:_=some (Value.slice r.A N r.c):=(S3.out.cell 2 rfl).cell 0;have e1:_=some (Value.slice r.B N r.k):=(S3.out.cell 2 rfl).cell 1;have e2:_=some (Value.slice CA (lessR ids live).length cc):=(S3.out.cell 2 rfl).cell 2;have e3:_=some (Value.slice none 0 0):=(S3.out.cell 2 rfl).cell 3;clear S2 S3;go_wp2_with fail
 generalize ((((w2.setCell ⟨w.heap.size+1,0,none⟩ (.slice r.A N r.c)).setCell ⟨w.heap.size+1,1,none⟩ (.slice r.B N r.k)).setCell ⟨w.heap.size+1,2,none⟩ (.slice CA (lessR ids live).length cc)).setCell ⟨w.heap.size+1,3,none⟩ (.slice none 0 0))=W at S4 e0 e1 e2 e3 |-; refine bodyPost_ret (v:=.agg #[.slice r.A N r.c,.slice r.B N r.k,.slice CA (lessR ids live).length cc,.slice none 0 0]) ?_ rfl ⟨CA,cc,?_,?_⟩
 · simp [results,Tryz.results110,go_sem,e0,e1,e2,e3]
 · first
    | rfl
    | rw [HIDS.out]
 first
  | exact S4.out
  | (rw [HIDS.out];exact S4.out)
end
section
open Go.RowKit Go.MapKept Go.ChangeMaps Go.Shelf Go.Sort
attribute [local go_sem] wext_cell

end
section
open Go.RowKit Go.MapKept Go.ChangeMaps Go.Shelf Go.Sort
attribute [local go_sem] wext_cell
end
section
open Go.RowKit Go.MapKept Go.ChangeMaps Go.Shelf Go.Sort
attribute [local go_sem] wext_cell
end
section
open Go.RowKit Go.MapKept Go.ChangeMaps Go.Shelf Go.Sort
section
variable {b:Nat} {w0 w:World} {l:List Ob} {c:CR}
theorem run_put31 {w:World} {g m cap H:Nat} {x:ID} (hi:∃ cur,IsB w g 31 cur/\m*2+1<cur.size) (hroom:m+1<=cap) (h0:w.cell? ⟨H,0,none⟩=some (.int .u64 x.1)) (h1:w.cell? ⟨H,1,none⟩=some (.int .i64 x.2)) (ty:TypeId):
 (Builtin.append_ #[38,38] ty #[.slice (some ⟨g,0,none⟩) m cap,.slice (some ⟨H,0,none⟩) 1 1]).run Tryz.prog w= .ok (.slice (some ⟨g,0,none⟩) (m+1) cap) ((w.setCell ⟨g,m*2,none⟩ (.int .u64 x.1)).setCell ⟨g,m*2+1,none⟩ (.int .i64 x.2)):=by
 obtain ⟨cur,hi,hlt⟩:=hi;obtain ⟨i,hinfo,_,hz,_⟩:=info_parts info31;have hz:i.size=2:=hz;have:=run_append_room_cells (P:=Tryz.prog) w 38 ty 31 i Tryz.underlying38 hinfo g 0 m cap ⟨H,0,none⟩ 1 1 [.int .u64 x.1,.int .i64 x.2] (by rw [hz];rfl) (fun j u hu=>?_) (fun u hu=>?_) hroom (fun j hj=>?_) (fun j hj=>?_)
 · rw [this,hz];simp [World.setCells]
 · match j,hu with
   | 0,hu=>
    simp at hu;subst hu;simpa [Addr.add] using h0
   | 1,hu=>
    simp at hu;subst hu;simpa [Addr.add] using h1
   | j+2,hu=>simp at hu
 · simp at hu;rcases hu with rfl | rfl<;>rfl
 · rw [hz,hi.cell];have hj:j<2:=hj;rw [Array.getElem?_eq_getElem (by omega)];rfl
 exact hi.frozen _
theorem wpList_put {w:World} {ops:Array Oper} {rest:List Oper} {o:Oper} {a:Act} {Q:Exit->Act->World->Prop} (hg:o.guard=none) (s y:Operand) (hop:o.op=Op.call { callee:=Callee.builtin Builtin.append,args:= #[s,y],argTypes:= #[38,38] })
 {g m cap H:Nat} {x:ID} (hi:∃ cur,IsB w g 31 cur/\m*2+1<cur.size) (hroom:m+1<=cap) (h0:w.cell? ⟨H,0,none⟩=some (.int .u64 x.1)) (h1:w.cell? ⟨H,1,none⟩=some (.int .i64 x.2))
 (hs:a.eval s= .slice (some ⟨g,0,none⟩) m cap) (hy:a.eval y= .slice (some ⟨H,0,none⟩) 1 1)
 (h:wpList Tryz.prog ops Q rest (a.put o.dst (.slice (some ⟨g,0,none⟩) (m+1) cap)) ((w.setCell ⟨g,m*2,none⟩ (.int .u64 x.1)).setCell ⟨g,m*2+1,none⟩ (.int .i64 x.2))):wpList Tryz.prog ops Q (o::rest) a w:=by
 refine wpList_plain hg fun K hK'=>?_;have hrun:=run_put31 hi hroom h0 h1 o.type;unfold Oper.wp;simp [execOp,hop,resolve,invoke,builtin,hs,hy,hrun,Result.andThen];exact hK' _ _ h
theorem co_row {W:World} {F:List ID} {g:Nat} (h:(coOb (c.mid F)).holds W) (hA:c.A=some ⟨g,0,none⟩) (hF:F.length<c.cand.length):(∃ cur,IsB W g 31 cur/\F.length*2+1<cur.size)/\g<W.heap.size:=by
 obtain ⟨_,_,r3⟩:=h.2.1;obtain ⟨g',e,⟨cur,hi,h2,_⟩,hlt⟩:=r3 _ hA;injection e with e;subst e;refine ⟨⟨cur,hi,?_⟩,hlt⟩;rw [CR.mid_len c (Nat.le_of_lt hF)] at h2;omega
theorem drop_any {gm:Nat} {G:HL} (h:SW b w0 (coOb c::mpOb okID vID vU gm G::l) w) (hok:∀ i∈c.cand,okID i) (hl:c.cand.length<=100000):
 Calls Tryz.prog 112 #[vPtr c.cp,.map (some gm)] w (fun e w'=>e= .returned (.tuple #[])/\SW b w0 (coOb { c with cand:=lessL G c.cand }::mpOb okID vID vU gm G::l) w'):=by
 have HOK:=hid hok;have S0:Hid (SW b w0 (coOb (c.mid [])::mpOb okID vID vU gm G::l) w):=h;obtain ⟨n,Hn⟩:∃ n,Hid (c.cand.length=n):=⟨_,rfl⟩;have hh:(coOb c).holds w:=h.get 0 rfl;have k1:w.cell? ⟨c.cp,1,none⟩=some (.slice c.A n c.cap):=by rw [<- Hn.out];exact CR.cell1 hh
 have hcap:n<=c.cap:=by rw [<- Hn.out];exact hh.2.1.1
 have hcap63:Hid (n<=c.cap):=hcap
 have HA:Hid (∀ ad,c.A=some ad->∃ g,ad=⟨g,0,none⟩):=fun ad e=>by
  obtain ⟨g,e2,_⟩:=hh.2.1.2.2 ad e;exact ⟨g,e2⟩
 have HA0:Hid (c.A=none->n=0):=fun e=>by
  rw [<- Hn.out,hh.2.1.2.1 e];rfl
 have hsl:=fun W=>slice0_38 c.A HA.out n c.cap W;rw [Hn.out] at hl;clear h hok hh;go_enter Tryz.func112,Tryz.ntmps112;go_wp2_with fail
 clear hsl;go_loopw [4,19] (fun s4 s19 wr=>∃ k:Nat,k<=n/\s19= .int .i64 (k:Int)/\s4= .slice c.A (lessL G (c.cand.take k)).length c.cap/\SW b w0 (coOb (c.mid (lessL G (c.cand.take k)))::mpOb okID vID vU gm G::l) wr) (fun s4 s19 _=>n-(intOf s19).toNat)
 case atStart=>exact ⟨0,Nat.zero_le _,rfl,rfl,S0.out⟩
 obtain ⟨k,hk,rfl,rfl,hs⟩:=hrel;have S1:=hid hs;clear hs S0 k1;by_cases hlt:k<n
 · obtain ⟨F,HF⟩:∃ F,Hid (lessL G (c.cand.take k)=F):=⟨_,rfl⟩;rw [HF.out] at S1 |-
   have hFk:F.length<=k:=by
    rw [<- HF.out];refine Nat.le_trans (lessL_le _ _) ?_;rw [List.length_take];omega
   have hltc:k<c.cand.length:=by rw [Hn.out];exact hlt
   obtain ⟨i,hik⟩:∃ i,c.cand.getD k id0=i:=⟨_,rfl⟩
   have hmm:i∈c.cand:=by
    rw [<- hik,zA,zC hltc];exact List.getElem_mem hltc
   have hoki:=HOK.out i hmm
   have hts:c.cand.take (k+1)=c.cand.take k++[i]:=by
    rw [List.take_succ_eq_append_getElem hltc, <- hik,zA,zC hltc];rfl
   have HTS:Hid (lessL G (c.cand.take (k+1))=F++if (asc G i).isSome then [] else [i]):=by rw [Hid,hts,lessL_snoc,HF.out]
   have hhm:(coOb (c.mid F)).holds wr:=S1.out.get 0 rfl;obtain ⟨A0,hA0⟩:∃ A0,c.A=A0:=⟨_,rfl⟩;cases A0 with
   | none=>exact absurd (HA0.out hA0) (by omega)
   | some ad=>
    obtain ⟨g,rfl⟩:=HA.out ad hA0;rw [hA0];obtain ⟨g',e,hrow,hgl⟩:=hhm.2.1.2.2 _ hA0;injection e with e;subst e
    have hmk:(F++c.cand.drop F.length).getD k id0=i:=by
     rw [zA,List.getElem?_append_right hFk,List.getElem?_drop,show F.length+(k-F.length)=k by omega, <- hik,zA]
    have hml:k<(F++c.cand.drop F.length).length:=by rw [zB,List.length_drop];omega
    obtain ⟨a0,a1,_,_⟩:=hrow.cells hml hmk
    have HROW:Hid (∃ cur,IsB wr g 31 cur/\F.length*2+1<cur.size):=by
     obtain ⟨cur,hi,h2,_⟩:=hrow;refine ⟨cur,hi,?_⟩;rw [zB,List.length_drop] at h2;omega
    have HAE:=hid hA0;have S2:=hid (S1.out.newCell 31 #[.int .u64 i.1,.int .i64 i.2]);have hlk:=look_u (S2.out.get 2 (o:=mpOb okID vID vU gm G) rfl) hoki;have c0:(wr.alloc (.cells #[.int .u64 i.1,.int .i64 i.2] 31)).cell? ⟨wr.heap.size,0,none⟩=some (.int .u64 i.1):=(S2.out.cell 0 rfl).cell 0;have c1:(wr.alloc (.cells #[.int .u64 i.1,.int .i64 i.2] 31)).cell? ⟨wr.heap.size,1,none⟩=some (.int .i64 i.2):=(S2.out.cell 0 rfl).cell 1;have HGL:=hid hgl;have hFl:F.length<c.cand.length:=by omega
    have HFL:=hid hFl;have hFc:F.length+1<=c.cap:=by omega
    have HFC:=hid hFc;clear hik hmm hts hhm hrow hmk hml hltc hgl S1 hA0 hoki hFl hFc hFk;cases hgo:(asc G i).isSome with
    | true=>
     rw [hgo] at hlk HTS;have HT2:Hid (lessL G (c.cand.take (k+1))=F):=by rw [Hid,HTS.out];simp
     clear hgo HTS;go_wp2_with fail
     go_roundw
     case rel=>
      refine ⟨k+1,by omega,by go_num,?_,?_⟩
      · rw [HT2.out]
      rw [HT2.out];exact (S2.out.alloc _).tail
     simp [intOf];omega
    | false=>
     rw [hgo] at hlk HTS;have HT2:Hid (lessL G (c.cand.take (k+1))=F++[i]):=by rw [Hid,HTS.out];simp
     clear hgo HTS;go_upto_region 6 with fail
     have S3:Hid (SW b w0 (cellOb wr.heap.size 31 #[.int .u64 i.1,.int .i64 i.2]::coOb (c.mid F)::mpOb okID vID vU gm G::l) ((wr.alloc (.cells #[.int .u64 i.1,.int .i64 i.2] 31)).alloc (.cells #[] 170))):=S2.out.alloc _;generalize (wr.alloc (.cells #[.int .u64 i.1,.int .i64 i.2] 31)).alloc (.cells #[] 170)=W at S3 |-; have d0:=(S3.out.cell 0 rfl).cell 0;have d1:=(S3.out.cell 0 rfl).cell 1;have S5:=hid (S3.out.newCell 31 #[.int .u64 i.1,.int .i64 i.2]);have hrw:=hid (co_row (S5.out.get 2 (o:=coOb (c.mid F)) rfl) HAE.out HFL.out).1;have e0:=hid ((S5.out.cell 0 rfl).cell 0);have e1:=hid ((S5.out.cell 0 rfl).cell 1);go_wp2_with (at_builtin;(refine wpList_put rfl (.tmp 31) (.tmp 33) rfl hrw.out HFC.out e0.out e1.out rfl rfl ?_))
     have S6:=hid (S5.out.tail.tail.coPut HAE.out HFL.out i);go_roundw
     case rel=>
      refine ⟨k+1,by omega,by go_num,?_,?_⟩
      · rw [HT2.out,zB];rfl
      rw [HT2.out];exact S6.out
     simp [intOf];omega
 obtain rfl:k=n:=by omega
 have hF:c.cand.take k=c.cand:=by rw [<- Hn.out,List.take_length]
 rw [hF] at S1 |-; have k1:=CR.cell1 (S1.out.get 0 (o:=coOb (c.mid (lessL G c.cand))) rfl);have k2:wr.frozen? ⟨c.cp,1,none⟩=false:=(S1.out.get 0 (o:=coOb (c.mid (lessL G c.cand))) rfl).1.frozen _;go_wp2_with fail
 go_end0;refine ⟨rfl,?_⟩;have hh:=S1.out.get 0 (o:=coOb (c.mid (lessL G c.cand))) rfl;refine SW.coSet (c:=c.mid (lessL G c.cand)) (c':={ c with cand:=lessL G c.cand }) S1.out 1 _ ?_ rfl ?_ ?_ ?_ ?_ rfl ?_
 · rfl
 · exact hh.2.2.len
 · exact fun s hs m hm=>⟨s,hs,hm,rfl⟩
 · exact hh.2.2.nomap
 · exact hh.2.2.uniq
 rintro ⟨r1,r2,r3⟩
 refine ⟨Nat.le_trans (lessL_le G c.cand) (by rw [Hn.out];exact hcap63.out),fun e=>by
  have:=lessL_le G c.cand;rw [Hn.out,HA0.out e] at this;have h4:lessL G c.cand=[]:=List.eq_nil_of_length_eq_zero (by omega);exact h4,fun ad e=>?_⟩
 obtain ⟨g,e2,hrow,hlt⟩:=r3 ad e;exact ⟨g,e2,hrow.pre,hlt⟩
end
theorem set_same {α:Type}:∀ (L:List α) (i:Nat) (v:α),L[i]? =some v->L.set i v=L
 | [],_,_,h=>by simp at h
 | x::L,0,v,h=>by
  have h:x=v:=by simpa using h
  rw [List.set_cons_zero,h]
 | x::L,i+1,v,h=>by rw [List.set_cons_succ,set_same L i v (by simpa using h)]
abbrev CR.put (c:CR) (f:Nat) (s:Ses):CR:={ c with se:=c.se.set f s }
abbrev CR.ss (c:CR) (f:Nat):Ses:=c.se.getD f ses0
theorem co_cells (c:CR) (f:Nat) (s:Ses) (j:Nat) (u:Value) (hs:(c.se.set f s).flatMap Ses.cs=(c.se.flatMap Ses.cs).set (f*3+j) u):(c.put f s).cells=c.cells.setIfInBounds (2+f*3+j) u:=by
 show (Value.pointer (some ⟨c.ps,0,none⟩):: .slice c.A c.cand.length c.cap::(c.se.set f s).flatMap Ses.cs).toArray=(Value.pointer (some ⟨c.ps,0,none⟩):: .slice c.A c.cand.length c.cap::c.se.flatMap Ses.cs).toArray.setIfInBounds (2+f*3+j) u;rw [hs,zD,show 2+f*3+j=(f*3+j)+1+1 by omega,List.set_cons_succ,List.set_cons_succ]
theorem ses_flat (se:List Ses) (f:Nat) (hf:f<se.length):(se.flatMap Ses.cs)[f*3]? =some (.int .i64 (se.getD f ses0).num)/\(se.flatMap Ses.cs)[f*3+1]? =some (.bool (se.getD f ses0).beg)/\(se.flatMap Ses.cs)[f*3+2]? =some (.map (se.getD f ses0).hm):=
 ⟨(ses_get se f 0 hf (by omega)).trans rfl,(ses_get se f 1 hf (by omega)).trans rfl,(ses_get se f 2 hf (by omega)).trans rfl⟩
theorem flat_num (se:List Ses) (f:Nat) (hf:f<se.length) (n:Int):(se.set f { se.getD f ses0 with num:=n }).flatMap Ses.cs=(se.flatMap Ses.cs).set (f*3+0) (.int .i64 n):=by
 obtain ⟨h0,h1,h2⟩:=ses_flat se f hf;rw [ses_set se f _ hf,Nat.add_zero,set_same ((se.flatMap Ses.cs).set (f*3) (.int .i64 n)) (f*3+1) _ (by rw [List.getElem?_set_ne (by omega)];exact h1),set_same ((se.flatMap Ses.cs).set (f*3) (.int .i64 n)) (f*3+2) _ (by rw [List.getElem?_set_ne (by omega)];exact h2)];rfl
theorem flat_beg (se:List Ses) (f:Nat) (hf:f<se.length) (b:Bool):(se.set f { se.getD f ses0 with beg:=b }).flatMap Ses.cs=(se.flatMap Ses.cs).set (f*3+1) (.bool b):=by
 obtain ⟨h0,h1,h2⟩:=ses_flat se f hf;rw [ses_set se f _ hf,set_same (se.flatMap Ses.cs) (f*3) _ h0,set_same ((se.flatMap Ses.cs).set (f*3+1) (.bool b)) (f*3+2) _ (by rw [List.getElem?_set_ne (by omega)];exact h2)]
theorem flat_hm (se:List Ses) (f:Nat) (hf:f<se.length) (m:Option Nat) (H:HL):(se.set f { se.getD f ses0 with hm:=m,H:=H }).flatMap Ses.cs=(se.flatMap Ses.cs).set (f*3+2) (.map m):=by
 obtain ⟨h0,h1,h2⟩:=ses_flat se f hf;rw [ses_set se f _ hf,set_same (se.flatMap Ses.cs) (f*3) _ h0,set_same (se.flatMap Ses.cs) (f*3+1) _ h1]
theorem flat_H (se:List Ses) (f:Nat) (hf:f<se.length) (H:HL):(se.set f { se.getD f ses0 with H:=H }).flatMap Ses.cs=se.flatMap Ses.cs:=by
 obtain ⟨h0,h1,h2⟩:=ses_flat se f hf;rw [ses_set se f _ hf,set_same (se.flatMap Ses.cs) (f*3) _ h0,set_same (se.flatMap Ses.cs) (f*3+1) _ h1,set_same (se.flatMap Ses.cs) (f*3+2) _ h2]
theorem ses_mem2 {se:List Ses} {f:Nat} {s x:Ses} (h:x∈se.set f s):x=s∨∃ i,i≠f/\i<se.length/\x=se.getD i ses0:=by
 obtain ⟨i,hi,rfl⟩:=List.getElem_of_mem h;rw [List.length_set] at hi;by_cases e:f=i
 · subst e;exact .inl (by rw [List.getElem_set_self])
 exact .inr ⟨i,fun h=>e h.symm,hi,by rw [List.getElem_set_ne e,zA,zC hi];rfl⟩
theorem ses_uniq {m:Nat}:∀ (se:List Ses) (i j:Nat),(se.filterMap Ses.hm).Nodup->i<j->j<se.length->(se.getD i ses0).hm=some m->(se.getD j ses0).hm=some m->False
 | [],_,_,_,_,h,_,_=>by simp at h
 | x::se,0,j+1,hn,_,hj,h1,h2=>by
  have h1:x.hm=some m:=h1;rw [List.filterMap_cons_some h1] at hn;have hj':j<se.length:=by simpa using hj
  exact (List.nodup_cons.1 hn).1 (List.mem_filterMap.2 ⟨_,ses_at hj',by simpa using h2⟩)
 | x::se,i+1,j+1,hn,hij,hj,h1,h2=>by
  refine ses_uniq se i j ?_ (by omega) (by simpa using hj) (by simpa using h1) (by simpa using h2);rw [List.filterMap_cons] at hn;cases hx:x.hm with
  | none=>rw [hx] at hn;exact hn
  | some k=>rw [hx] at hn;exact (List.nodup_cons.1 hn).2
 | _::_,_,0,_,h,_,_,_=>by omega
section
variable {b:Nat} {w0 w w':World} {l:List Ob} {c:CR}
theorem SW.coLen (h:SW b w0 (coOb c::l) w):c.se.length=16:=(h.get 0 (o:=coOb c) rfl).2.2.len
theorem SW.coOk (h:SW b w0 (coOb c::l) w):SesOk w c.se:=(h.get 0 (o:=coOb c) rfl).2.2
theorem SW.coNum (h:SW b w0 (coOb c::l) w) {f:Nat} (hf:f<16) (n:Int):SW b w0 (coOb (c.put f { c.ss f with num:=n })::l) (w.setCell ⟨c.cp,2+f*3,none⟩ (.int .i64 n)):=by
 have hl:=h.coLen;have ho:=h.coOk;have hm:=ses_at (se:=c.se) (f:=f) (by omega);refine h.coSet (2+f*3) (.int .i64 n) (co_cells c f _ 0 _ (flat_num c.se f (by omega) n)) rfl (by simp [hl]) (fun s hs m hm'=>?_) (fun s hs hm'=>?_) ?_ rfl (fun hr=>hr)
 · rcases ses_mem hs with rfl | hs
   · exact ⟨_,hm,hm',rfl⟩
   exact ⟨s,hs,hm',rfl⟩
 · rcases ses_mem hs with rfl | hs
   · exact ho.nomap (c.ss f) hm hm'
   exact ho.nomap s hs hm'
 exact (ses_eq c.se f { c.ss f with num:=n } rfl (by omega)) ▸ ho.uniq
theorem SW.coBeg (h:SW b w0 (coOb c::l) w) {f:Nat} (hf:f<16) (v:Bool):SW b w0 (coOb (c.put f { c.ss f with beg:=v })::l) (w.setCell ⟨c.cp,2+f*3+1,none⟩ (.bool v)):=by
 have hl:=h.coLen;have ho:=h.coOk;have hm:=ses_at (se:=c.se) (f:=f) (by omega);refine h.coSet (2+f*3+1) (.bool v) (co_cells c f _ 1 _ (flat_beg c.se f (by omega) v)) rfl (by simp [hl]) (fun s hs m hm'=>?_) (fun s hs hm'=>?_) ?_ rfl (fun hr=>hr)
 · rcases ses_mem hs with rfl | hs
   · exact ⟨_,hm,hm',rfl⟩
   exact ⟨s,hs,hm',rfl⟩
 · rcases ses_mem hs with rfl | hs
   · exact ho.nomap (c.ss f) hm hm'
   exact ho.nomap s hs hm'
 exact (ses_eq c.se f { c.ss f with beg:=v } rfl (by omega)) ▸ ho.uniq
theorem SW.coNil (h:SW b w0 (coOb c::l) w) {f:Nat} (hf:f<16):SW b w0 (coOb (c.put f { c.ss f with hm:=none,H:=[] })::l) (w.setCell ⟨c.cp,2+f*3+2,none⟩ (.map none)):=by
 have hl:=h.coLen;have ho:=h.coOk;refine h.coSet (2+f*3+2) (.map none) (co_cells c f _ 2 _ (flat_hm c.se f (by omega) none [])) rfl (by simp [hl]) (fun s hs m hm'=>?_) (fun s hs hm'=>?_) ((ses_sub c.se f _ rfl).nodup ho.uniq) rfl (fun hr=>hr)
 · rcases ses_mem hs with rfl | hs
   · cases hm'
   exact ⟨s,hs,hm',rfl⟩
 rcases ses_mem hs with rfl | hs
 · rfl
 exact ho.nomap s hs hm'
theorem SW.coMap {m:Nat} (h:SW b w0 (mpOb okID vID vU m ([]:HL)::coOb c::l) w) {f:Nat} (hf:f<16):SW b w0 (coOb (c.put f { c.ss f with hm:=some m,H:=[] })::l) (w.setCell ⟨c.cp,2+f*3+2,none⟩ (.map (some m))):=by
 have hh:=h.get 1 (o:=coOb c) rfl;have hmp:MapIs okID vID vU w m ([]:HL):=h.get 0 (o:=mpOb okID vID vU m ([]:HL)) rfl;have ho:SesOk w c.se:=hh.2.2;have hl:=ho.len;have hg:w.grownBy (w.setCell ⟨c.cp,2+f*3+2,none⟩ (.map (some m))) (some c.cp):=g_set (p:=⟨c.cp,2+f*3+2,none⟩) (g_refl _ _) (.inl rfl) _;obtain ⟨ha,hp⟩:=List.pairwise_cons.1 h.1.apart;have hap:=ha (coOb c) (List.mem_cons_self ..)
 have hnew:m ∉ c.se.filterMap Ses.hm:=fun hi=>by
  obtain ⟨s,hs,e⟩:=List.mem_filterMap.1 hi;exact (hap.1 m rfl).1 (.inr (.inr ⟨s,hs,e⟩))
 have hsz:(w.setCell ⟨c.cp,2+f*3+2,none⟩ (.map (some m))).heap.size=w.heap.size:=by simp [World.setCell]
 have hhold:(coOb (c.put f { c.ss f with hm:=some m,H:=[] })).holds (w.setCell ⟨c.cp,2+f*3+2,none⟩ (.map (some m))):=by
  refine ⟨?_,?_,by simp [hl],fun s hs k hk=>?_,fun s hs hk=>?_,ses_new c.se f _ m rfl hnew ho.uniq⟩
  · have:=hh.1.set_ (2+f*3+2) (.map (some m));rw [co_cells c f _ 2 _ (flat_hm c.se f (by omega) (some m) [])];exact this
  · obtain ⟨r1,r2,r3⟩:=hh.2.1;refine ⟨r1,r2,fun ad e=>?_⟩;obtain ⟨g,rfl,⟨cur,hi,hrr⟩,hlt⟩:=r3 ad e;refine ⟨g,rfl,⟨cur,hi.grown hg (fun e=>?_),hrr⟩,by rw [hsz];exact hlt⟩;injection e with e;exact is_ne hi (e ▸ hh.1) (by decide)
  · rcases ses_mem hs with rfl | hs
    · injection hk with hk;subst hk;exact hmp.kept hg (fun e=>map_is hmp (by injection e with e;rw [e];exact hh.1))
    exact (ho.map s hs k hk).kept hg (fun e=>map_is (ho.map s hs k hk) (by injection e with e;rw [e];exact hh.1))
  rcases ses_mem hs with rfl | hs
  · rfl
  exact ho.nomap s hs hk
 have hb:Below b w (w.setCell ⟨c.cp,2+f*3+2,none⟩ (.map (some m))):=⟨hg.os,hg.tape,hg.output,hg.size,fun i hi=>hg.block i (by have:=h.1.base;omega) (fun e=>by
  injection e with e;have:=(h.1.own (coOb c) (by simp) c.cp (.inl rfl)).1;omega)⟩
 refine ⟨⟨Nat.le_trans h.1.base hg.size,fun y hy=>?_,fun y hy i hi=>?_,fun y hy i hi=>?_,List.pairwise_cons.2 ⟨fun y hy=>?_,(List.pairwise_cons.1 hp).2⟩⟩,h.2.trans hb⟩
 · rcases List.mem_cons.1 hy with rfl | hy
   · exact hhold
   have h1:=(List.pairwise_cons.1 hp).1 y hy
   exact y.stable w _ (h.1.holds y (by simp [hy])) ⟨hg.os,hg.tape,hg.output,hg.size⟩ (fun i hi=>hg.block i (by
    rcases hi with hi | hi
    · exact (h.1.own y (by simp [hy]) i hi).2
    · exact h.1.rd y (by simp [hy]) i hi) (fun e=>by
    injection e with e;subst e;rcases hi with hi | hi
    · exact (h1.1 _ (.inl rfl)).1 hi
    exact (h1.1 _ (.inl rfl)).2 hi))
 · rw [hsz];rcases List.mem_cons.1 hy with rfl | hy
   · rcases hi with hi | hi | ⟨s,hs,hk⟩
     · exact h.1.own (coOb c) (by simp) i (.inl hi)
     · exact h.1.own (coOb c) (by simp) i (.inr (.inl hi))
     rcases ses_mem hs with rfl | hs
     · injection hk with hk;subst hk;exact h.1.own (mpOb okID vID vU m ([]:HL)) (by simp) m rfl
     exact h.1.own (coOb c) (by simp) i (.inr (.inr ⟨s,hs,hk⟩))
   exact h.1.own y (by simp [hy]) i hi
 · rw [hsz];rcases List.mem_cons.1 hy with rfl | hy
   · exact hi.elim
   exact h.1.rd y (by simp [hy]) i hi
 have h1:=(List.pairwise_cons.1 hp).1 y hy;have h2:=ha y (List.mem_cons_of_mem _ hy);refine ⟨fun i hi=>?_,fun i hi hr=>hr.elim⟩;rcases hi with hi | hi | ⟨s,hs,hk⟩
 · exact h1.1 i (.inl hi)
 · exact h1.1 i (.inr (.inl hi))
 rcases ses_mem hs with rfl | hs
 · injection hk with hk;subst hk;exact h2.1 m rfl
 exact h1.1 i (.inr (.inr ⟨s,hs,hk⟩))
theorem SW.coUpd (h:SW b w0 (coOb c::l) w) {f m:Nat} (hf:f<16) (hm:(c.ss f).hm=some m) {H':HL} (hM:MapIs okID vID vU w' m H') (hg:w.grownBy w' (some m)):SW b w0 (coOb (c.put f { c.ss f with H:=H' })::l) w':=by
 have hh:=h.get 0 (o:=coOb c) rfl;have ho:SesOk w c.se:=hh.2.2;have hl:=ho.len;have hat:=ses_at (se:=c.se) (f:=f) (by omega);have hmp:=ho.map _ hat m hm;have hmo:(coOb c).own m:=.inr (.inr ⟨_,hat,hm⟩)
 have hnew:(coOb (c.put f { c.ss f with H:=H' })).holds w':=by
  refine ⟨?_,?_,by simp [hl],fun s hs k hk=>?_,fun s hs hk=>?_,(ses_eq c.se f { c.ss f with H:=H' } rfl (by omega)) ▸ ho.uniq⟩
  · have:=hh.1.grown hg (fun e=>map_is hmp (by injection e with e;rw [<- e];exact hh.1))
    have e:(c.put f { c.ss f with H:=H' }).cells=c.cells:=by
     show (Value.pointer (some ⟨c.ps,0,none⟩):: .slice c.A c.cand.length c.cap::(c.se.set f { c.ss f with H:=H' }).flatMap Ses.cs).toArray=_;rw [flat_H c.se f (by omega)]
    rw [e];exact this
  · obtain ⟨r1,r2,r3⟩:=hh.2.1;refine ⟨r1,r2,fun ad e=>?_⟩;obtain ⟨g,rfl,⟨cur,hi,hrr⟩,hlt⟩:=r3 ad e;refine ⟨g,rfl,⟨cur,hi.grown hg (fun e=>map_is hmp (by injection e with e;rw [<- e];exact hi)),hrr⟩,Nat.lt_of_lt_of_le hlt hg.size⟩
  · have hs2:=ses_mem2 hs;by_cases hns:s={ c.ss f with H:=H' }
    · subst hns;have hk:(c.ss f).hm=some k:=hk;rw [hm] at hk;injection hk with hk;subst hk;exact hM
    have hs:s∈c.se:=by
     rcases ses_mem hs with e | hs
     · exact absurd e hns
     exact hs
    exact (ho.map s hs k hk).kept hg (fun e2=>by
     injection e2 with e2;subst e2;rcases hs2 with e3 | ⟨i,hi1,hi2,rfl⟩
     · exact hns e3
     rcases Nat.lt_or_gt_of_ne hi1 with hlt | hlt
     · exact ses_uniq c.se i f ho.uniq hlt (by omega) hk hm
     exact ses_uniq c.se f i ho.uniq hlt hi2 hm hk)
  rcases ses_mem hs with rfl | hs
  · have hk:(c.ss f).hm=none:=hk;rw [hm] at hk;cases hk
  exact ho.nomap s hs hk
 have:=h.1.step (o:=coOb c) (o':=coOb (c.put f { c.ss f with H:=H' })) (Fr.grown hg hmo (fun i hi=> .inl (by
  rcases hi with hi | hi | ⟨s,hs,hk⟩
  · exact .inl hi
  · exact .inr (.inl hi)
  · rcases ses_mem hs with rfl | hs
    · exact .inr (.inr ⟨_,hat,hk⟩)
    exact .inr (.inr ⟨s,hs,hk⟩)))) (fun i hi=>hi.elim) hnew (fun i hi=>by
  rcases hi with hi | hi
  · exact coOb_lt hnew hi
  exact hi.elim)
 exact ⟨this.1,h.2.trans this.2⟩
end
section
variable {b:Nat} {w0 w:World} {l:List Ob} {c:CR}
theorem Keep_any (h:SW b w0 (coOb c::l) w) (A:Option Addr) (cap:Nat) (ids:List ID) (hA:riOb A ids∈l) (hi:∀ i∈ids,okID i) (hc:∀ i∈c.cand,okID i) (hl:ids.length<=100000) (hl2:c.cand.length<=100000):
 Calls Tryz.prog 75 #[vPtr c.cp,.slice A ids.length cap] w (fun e w'=>e= .returned (.tuple #[])/\SW b w0 (coOb { c with cand:=lessL (setI ids) c.cand }::l) w'):=by
 have H:=hid h;have HS:=hid (fun cc=>set_any h A cc ids (List.mem_cons_of_mem _ hA) hi hl);have HC:=hid hc;have HL:=hid hl2;clear h hA hi hc hl hl2;go_enter Tryz.func75,Tryz.ntmps75;go_wp2_with (go_at_call 113;(with_reducible refine (HS.out _).mono ?_);rintro e w1 ⟨rfl,s1⟩;have S1:Hid (SW b w0 (coOb c::mpOb okID vID vU w.heap.size (setI ids)::l) w1):=SW.front (pre:=[_,_]) s1 [1,0] (n:=2) rfl (by decide);clear s1)
 go_wp2_with (go_at_call 112;(with_reducible refine (drop_any S1.out HC.out HL.out).mono ?_);rintro e w2 ⟨rfl,s2⟩;have S2:Hid (SW b w0 (coOb { c with cand:=lessL (setI ids) c.cand }::l) w2):=(SW.front (pre:=[_,_]) s2 [1,0] (n:=2) rfl (by decide)).tail;clear s2)
 go_end0;exact ⟨rfl,S2.out⟩
end
section
variable {b:Nat} {w0 w:World} {l:List Ob} {c:CR}
abbrev pNum (N:Int):Ses->Bool:=fun s=>s.beg&&(s.num==N)
abbrev CR.ended (c:CR) (f:Nat):CR:=(c.put f { c.ss f with beg:=false }).put f { (c.put f { c.ss f with beg:=false }).ss f with hm:=none,H:=[] }
theorem End_none (h:SW b w0 (coOb c::l) w) (N:Int) (ho:fiO (pNum N) c.se=none):
 Calls Tryz.prog 67 #[vPtr c.cp,.int .i64 N] w (fun e w'=>e= .returned (.int .i64 401)/\SW b w0 (coOb c::l) w'):=by
 have H:=hid h;have HF:=hid (find_any (h.get 0 (o:=coOb c) rfl) N);have hv:fiV (pNum N) c.se= -1:=by unfold fiV;rw [ho]
 rw [hv] at HF;clear h ho hv;go_enter Tryz.func67,Tryz.ntmps67;go_wp2_with (go_at_call 119;(with_reducible refine HF.out.mono ?_);rintro e w1 ⟨rfl,hb1⟩;have S1:=hid (H.out.on hb1);clear hb1)
 go_ret;exact ⟨rfl,S1.out⟩
theorem End_some (h:SW b w0 (coOb c::l) w) (N:Int) (f:Nat) (ho:fiO (pNum N) c.se=some f):
 Calls Tryz.prog 67 #[vPtr c.cp,.int .i64 N] w (fun e w'=>e= .returned (.int .i64 0)/\SW b w0 (coOb (c.ended f)::l) w'):=by
 have H:=hid h;have HF:=hid (find_any (h.get 0 (o:=coOb c) rfl) N);have hv:fiV (pNum N) c.se=(f:Int):=by unfold fiV;rw [ho]
 have hf:f<16:=by rw [<- h.coLen];exact (fiO_lt ho).1
 rw [hv] at HF;clear h ho hv;go_enter Tryz.func67,Tryz.ntmps67;go_wp2_with (go_at_call 119;(with_reducible refine HF.out.mono ?_);rintro e w1 ⟨rfl,hb1⟩;have S1:=hid (H.out.on hb1);clear hb1)
 have hh:=S1.out.get 0 (o:=coOb c) rfl;obtain ⟨a0,a1,a2⟩:=CR.ses hh hf;have z1:w1.frozen? ⟨c.cp,2+f*3+1,none⟩=false:=hh.1.frozen _;have z2:w1.frozen? ⟨c.cp,2+f*3+2,none⟩=false:=hh.1.frozen _;clear hh;go_region
 go_wp2_with fail
 go_ret;exact ⟨rfl,((S1.out.coBeg hf false).coNil hf).drew⟩
end
end
end Go.Proofs.YteabgcollokgjaaGreatDoor
