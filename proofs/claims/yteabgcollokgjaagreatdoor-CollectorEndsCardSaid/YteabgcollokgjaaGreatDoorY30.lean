/- Q -/
import Derived.Test.YteabgcollokgjaaGreatDoorY28
import Derived.Test.YteabgcollokgjaaGreatDoorY29
set_option linter.unusedSimpArgs false
set_option linter.unusedVariables false
set_option maxRecDepth 100000
set_option maxHeartbeats 32000000
open Go.Lib (hid)
open List renaming getD_eq_getElem?_getD → zA,length_append → zB,getElem?_eq_getElem → zC,take_succ_eq_append_getElem → zD,length_nil → zE,getElem_mem → zF,setIfInBounds_toArray → zG
namespace Go.Proofs.YteabgcollokgjaaGreatDoor
section
open Go.RowKit Go.MapKept Go.ChangeMaps Go.Shelf Go.Sort
attribute [local go_sem] wext_cell
theorem rPut_there {w:World} {r:R3} (h:R3Ok w r) (d:BD) (bs:List UInt8) (hb:RB w d bs) (h1:1<=bs.length) (h2:bs.length<=8192) {e:RE} (hat:hasAt r.E (fpOf bs)=true) (he:r.E.getD (atI r.E (fpOf bs)) re0=e) (hk:atI r.E (fpOf bs)<r.E.length) (heb:e.bs=bs):
 Calls Tryz.prog 36 #[.agg #[.slice r.A r.E.length r.c,.slice r.B r.E.length r.k],.slice d.A d.len d.cap] w (fun e w'=>e= .returned (.tuple #[.agg #[.slice r.A r.E.length r.c,.slice r.B r.E.length r.k],.agg #[.int .u64 (fpOf bs).1,.int .i64 (fpOf bs).2],.int .i64 0])/\Below w.heap.size w w'):=by
 have hdl:d.len=bs.length:=hb.1.symm;rw [hdl];have HRB:=hid hb
 have S0:Hid (SW w.heap.size w [rsOb d.A bs,r3Ob r] w):=(SW.startR h).also (o':=rsOb d.A bs) hb.rs (fun _ h=>h) (fun _ h'=>rsOb_lt hb.rs h') (fun i _ y hy=>by
  rcases List.mem_cons.1 hy with rfl | hy
  · exact fun h=>h
  cases hy)
 have S1:=hid (((S0.out.newCell 54 #[.slice r.A r.E.length r.c,.slice r.B r.E.length r.k]).newCellAt 54 #[.slice none 0 0,.slice none 0 0] (H:=w.heap.size+1) (by simp)).newCellAt 31 #[.int .u64 0,.int .i64 0] (H:=w.heap.size+2) (by simp));generalize hN:bs.length=N at h1 h2;have HN:=hid hN;have hd1:decide ((N:Int)<1)=false:=decide_eq_false (by omega);have hd2:decide ((N:Int)>8192)=false:=decide_eq_false (by omega);obtain ⟨W1,HW1⟩:∃ W1,Hid (((w.alloc (.cells #[.slice r.A r.E.length r.c,.slice r.B r.E.length r.k] 54)).alloc (.cells #[.slice none 0 0,.slice none 0 0] 54)).alloc (.cells #[.int .u64 0,.int .i64 0] 31)=W1):=⟨_,rfl⟩;rw [HW1.out] at S1;have HOF:=hid (rOf_any d.A d.cap bs W1 (S1.out.get 3 (o:=rsOb d.A bs) rfl) (by omega));rw [hN] at HOF;obtain ⟨i,HI⟩:∃ i,Hid (fpOf bs=i):=⟨_,rfl⟩;rw [HI.out] at HOF hat he hk;have HAT':=hid hat;have HE:=hid he;have HEB:=hid heb;obtain ⟨K,HK⟩:∃ K,Hid (atI r.E i=K):=⟨_,rfl⟩;rw [HK.out] at hk HE;clear hN h hb hat he heb hdl;rw [HI.out];go_enter Tryz.func36,Tryz.ntmps36;go_upto_region 3 with fail
 rw [HW1.out];go_wp2_with (first | (go_at_call 94;(with_reducible refine HOF.out.mono ?_);refine halt_ ?_) | (at_builtin;refine halt_ ?_))
 rintro e2 w2 ⟨rfl,hb2⟩;have S2:=hid (S1.out.on hb2);clear hb2 HOF S1;have HRB2:=hid (HRB.out.on S2.out.2);go_wp2_with (at_builtin;refine halt_ ?_)
 refine wpList_append_bytes rfl _ _ rfl ⟨none,0,0⟩ [] rfl (rb_nil w2) d.A d.cap bs (by rw [HN.out];rfl) HRB2.out.src (by have:=HN.out;simp only [zE];omega) ?_;intro d2 w3 hl2 happ;clear hl2;have S3:Hid (SW w.heap.size w [bufOb d2 bs,cellOb (w.heap.size+2) 31 #[.int .u64 0,.int .i64 0],cellOb (w.heap.size+1) 54 #[.slice none 0 0,.slice none 0 0],cellOb w.heap.size 54 #[.slice r.A r.E.length r.c,.slice r.B r.E.length r.k],rsOb d.A bs,r3Ob r] w3):=S2.out.newBuf.appB 0 rfl happ;unfold vB;have S4:=hid (S3.out.newCell 65 #[.int .u64 i.1,.int .i64 i.2,.slice d2.A d2.len d2.cap]);have HAT:=hid (At_any (S4.out.get 6 (o:=r3Ob r) rfl) i);rw [HK.out,HAT'.out] at HAT;have d0:(w3.alloc (.cells #[.int .u64 i.1,.int .i64 i.2,.slice d2.A d2.len d2.cap] 65)).cell? ⟨w3.heap.size,0,none⟩=some (.int .u64 i.1):=(S4.out.cell 0 rfl).cell 0;have d1:(w3.alloc (.cells #[.int .u64 i.1,.int .i64 i.2,.slice d2.A d2.len d2.cap] 65)).cell? ⟨w3.heap.size,1,none⟩=some (.int .i64 i.2):=(S4.out.cell 0 rfl).cell 1;have c0:(w3.alloc (.cells #[.int .u64 i.1,.int .i64 i.2,.slice d2.A d2.len d2.cap] 65)).cell? ⟨w.heap.size,0,none⟩=some (.slice r.A r.E.length r.c):=(S4.out.cell 4 rfl).cell 0;have c1:(w3.alloc (.cells #[.int .u64 i.1,.int .i64 i.2,.slice d2.A d2.len d2.cap] 65)).cell? ⟨w.heap.size,1,none⟩=some (.slice r.B r.E.length r.k):=(S4.out.cell 4 rfl).cell 1;have h3lt:=(S3.out.cell 1 rfl).lt
 clear happ S2 S3;go_wp2_with (go_at_call 95;(with_reducible refine HAT.out.mono ?_);refine halt_ ?_)
 rintro e4 w4 ⟨rfl,hb4⟩;have S5:=hid (S4.out.on hb4);clear hb4 HAT S4 d0 d1 c0 c1;have c0:=(S5.out.cell 4 rfl).cell 0;have c1:=(S5.out.cell 4 rfl).cell 1;have hok:R3Ok w4 r:=S5.out.get 6 (o:=r3Ob r) rfl;obtain ⟨gE,hA,hgl,a0,a1,a2⟩:=hok.chunk hk HE.out
 have hrb1:RB w4 e.d e.bs:=hok.bytes e (by
  rw [<- HE.out,zA,zC hk];exact zF hk)
 have hrb2:RB w4 d bs:=HRB.out.on S5.out.2;have v1:=fun q:Ext w4=>conv_rb (hrb1.on (wext_below q));have v2:=fun q:Ext w4=>conv_rb (hrb2.on (wext_below q));rw [HEB.out] at v1;have hdl:d.len=N:=hrb2.1.symm.trans HN.out;rw [hdl] at v2;rw [hA] at c0;have l0:=(S5.out.cell 4 rfl).lt;clear hok hrb1 hrb2 hdl;go_upto_region 6 with fail
 refine wp_region_ext (by kernel_rfl) (by kernel_rfl) ?_;repeat (go_big_quiet_step (fail))
 refine wpQuiet_nil ?_;intro w5 hb5;have S6:=hid (S5.out.on hb5);clear hb5 v1 v2 a0 a1 a2 c0 c1 S5;have c0:=(S6.out.cell 4 rfl).cell 0;have c1:=(S6.out.cell 4 rfl).cell 1;have d0:=(S6.out.cell 0 rfl).cell 0;have d1:=(S6.out.cell 0 rfl).cell 1;have z0:=(S6.out.cell 3 rfl).cell 0;have z1:=(S6.out.cell 3 rfl).cell 1;have y0:=(S6.out.cell 2 rfl).cell 0;have y1:=(S6.out.cell 2 rfl).cell 1;have f0:=(S6.out.cell 3 rfl).frozen 0;have f1:=(S6.out.cell 3 rfl).frozen 1;have f2:=(S6.out.cell 2 rfl).frozen 0;have f3:=(S6.out.cell 2 rfl).frozen 1;have hn1:w3.heap.size≠w.heap.size+1:=by omega
 have hn2:w3.heap.size≠w.heap.size+2:=by omega
 have hn3:w3.heap.size≠w.heap.size+1+1:=by omega
 go_upto_region 8 with fail
 go_region
 have S7:=hid (((((S6.out.setAt 3 rfl 0 (.slice (some ⟨gE,0,none⟩) r.E.length r.c)).setAt 3 rfl 1 (.slice r.B r.E.length r.k)).setAt 2 rfl 0 (.int .u64 i.1)).setAt 2 rfl 1 (.int .i64 i.2)).drew);have e0:=(S7.out.cell 3 rfl).cell 0;have e1:=(S7.out.cell 3 rfl).cell 1;have e2:=(S7.out.cell 2 rfl).cell 0;have e3:=(S7.out.cell 2 rfl).cell 1;clear c0 c1 d0 d1 z0 z1 y0 y1 f0 f1 f2 f3 S6;generalize World.drew _=W at S7 e0 e1 e2 e3 |-; have hRA:=hA;clear hA;go_wp2_with fail
 refine bodyPost_ret (v:=.tuple #[.agg #[.slice (some ⟨gE,0,none⟩) r.E.length r.c,.slice r.B r.E.length r.k],.agg #[.int .u64 i.1,.int .i64 i.2],.int .i64 0]) ?_ rfl ⟨?_,S7.out.2⟩
 · simp [results,Tryz.results36,go_sem,e0,e1,e2,e3]
 first
  | rfl
  | (rw [hRA])
theorem mk_bools (w:World) (n:Nat) (hn:n<=100000):(Instr.makeSlice 52 (.int .i64 n) (.int .i64 n)).run Tryz.prog w= .ok (.slice (some ⟨w.heap.size,0,none⟩) n n) (w.alloc (.cells (Array.replicate n (.bool false)) 4)):=by
 obtain ⟨i0,hi,hz0,hz1,hz2⟩:=info_parts info4;have:=run_makeSlice (P:=Tryz.prog) w 52 4 i0 _ Tryz.underlying52 hi hz0 .i64 .i64 n n (by omega) (by omega) (by rw [hz1];simp;omega) (by rw [hz2];omega) (by omega);simp only [Int.toNat_natCast] at this;have e:madeCells (Value.bool false).cells n=(Array.replicate n (.bool false)):=Array.ext' (by rw [show (Value.bool false).cells= #[Value.bool false] from rfl,toList_madeCells_one];simp);rw [this,hz1,Nat.mul_one,e]
def R3.still (r:R3) (g:Nat):R3:=⟨r.A,r.c,some ⟨g,0,none⟩,r.E.length,r.E.map fun e=>{ e with pn:=false }⟩
theorem still_len (r:R3) (g:Nat):(r.still g).E.length=r.E.length:=by simp [R3.still]
theorem still_ids (r:R3) (g:Nat):(r.still g).ids=r.ids:=by simp [R3.still,R3.ids]
theorem RTX.still {r:R3} {P:List (List UInt8)} (h:RTX r P) (g:Nat):RTX (r.still g) P:=by
 refine ⟨?_,fun i=>?_,fun e he=>?_⟩
 · exact List.pairwise_map.2 h.sort
 · rw [still_ids];exact h.has i
 obtain ⟨f,hf,rfl⟩:=List.mem_map.1 he;exact h.val f hf
theorem still_ok {w w':World} {r:R3} (h:R3Ok w r) (hb:Below w.heap.size w w') {g:Nat} (hg:IsB w' g 4 (Array.replicate r.E.length (.bool false))):R3Ok w' (r.still g):=by
 have h':=h.on hb
 have e1:(r.still g).E.flatMap encK=r.E.flatMap encK:=by
  show (r.E.map fun e=>{ e with pn:=false }).flatMap encK=_;rw [List.flatMap_map];rfl
 have e2:(r.still g).E.flatMap encP=List.replicate r.E.length (.bool false):=by
  have:∀ l:List RE,(l.map fun e=>{ e with pn:=false }).flatMap encP=List.replicate l.length (Value.bool false):=fun l=>by
   induction l with
   | nil=>rfl
   | cons e l ih=>rw [List.map_cons,List.flatMap_cons,ih];rfl
  exact this r.E
 refine ⟨?_,?_,?_,?_,?_,fun e he=>?_⟩
 · rw [e1,still_len];exact h'.a
 · rw [e2,still_len];refine ⟨by simp,.inr ⟨g,_,rfl,hg,by simp⟩⟩
 · rw [still_len];exact h'.c
 · rw [still_len];exact Nat.le_refl _
 · rw [still_len];exact h'.n
 obtain ⟨f,hf,rfl⟩:=List.mem_map.1 he;exact h'.bytes f hf
theorem still_rd {r:R3} {g i:Nat} (h:(r3Ob (r.still g)).rd i):i=g∨(r3Ob r).rd i:=by
 rcases h with ⟨hn,e | e⟩ | ⟨e,he,ea⟩
 · exact .inr (.inl ⟨by rw [still_len] at hn;exact hn,.inl e⟩)
 · injection e with e;injection e with e;exact .inl e.symm
 obtain ⟨f,hf,rfl⟩:=List.mem_map.1 he;exact .inr (.inr ⟨f,hf,ea⟩)
theorem rFlush_any {w:World} {r:R3} (h:R3Ok w r):Calls Tryz.prog 43 #[.agg #[.slice r.A r.E.length r.c,.slice r.B r.E.length r.k]] w (fun e w'=>∃ g,e= .returned (.agg #[.slice r.A r.E.length r.c,.slice (some ⟨g,0,none⟩) r.E.length r.E.length])/\w.heap.size<=g/\R3Ok w' (r.still g)/\Below w.heap.size w w'):=by
 have S0:Hid (SW w.heap.size w [cellOb (w.heap.size+1) 54 #[.slice none 0 0,.slice none 0 0],cellOb w.heap.size 54 #[.slice r.A r.E.length r.c,.slice r.B r.E.length r.k]] _):=hid (((SW.refl (Sep.nil w (Nat.le_refl _))).newCell 54 #[.slice r.A r.E.length r.c,.slice r.B r.E.length r.k]).newCellAt 54 #[.slice none 0 0,.slice none 0 0] (H:=w.heap.size+1) (by simp));have HO:=hid h;have hn:=h.n;have hmk:=fun W=>mk_bools W r.E.length hn;generalize hN:r.E.length=N at hmk hn S0;have HN:=hid hN;clear h;go_enter Tryz.func43,Tryz.ntmps43;go_upto_region 1 with fail
 clear hN;generalize hW:(w.alloc _).alloc _=W at S0 |-; have c0:=(S0.out.cell 1 rfl).cell 0;have d0:=(S0.out.cell 0 rfl).cell 0;have d1:=(S0.out.cell 0 rfl).cell 1;have f0:=(S0.out.cell 0 rfl).frozen 0;have f1:=(S0.out.cell 0 rfl).frozen 1;have l1:=(S0.out.cell 0 rfl).lt;have l0:w.heap.size<W.heap.size:=by omega
 clear hW;go_region
 have S1:=hid ((((S0.out.setAt 0 rfl 0 (.slice r.A N r.c)).setAt 0 rfl 1 (.slice (some ⟨W.heap.size,0,none⟩) N N)).newCellAt 4 (Array.replicate N (.bool false)) (H:=W.heap.size) (by simp [World.setCell])).drew);have e0:=(S1.out.cell 1 rfl).cell 0;have e1:=(S1.out.cell 1 rfl).cell 1;have hg:=S1.out.cell 0 rfl;clear c0 d0 d1 f0 f1 S0;generalize World.drew _=W1 at S1 e0 e1 hg |-; go_wp2_with fail
 refine bodyPost_ret (v:=.agg #[.slice r.A N r.c,.slice (some ⟨W.heap.size,0,none⟩) N N]) ?_ rfl ⟨W.heap.size,rfl,by omega,still_ok HO.out S1.out.2 (by rw [HN.out];exact hg),S1.out.2⟩;simp [results,Tryz.results43,go_sem,e0,e1]
theorem rNew_any {b:Nat} {w0 w:World} {l:List Ob} {r:R3} (h:SW b w0 l w) (hm:r3Ob r∈l) {A:Option Addr} {live:List ID} (hA:riOb A live∈l) (hl:live.length<=100000) (c:Nat):
 Calls Tryz.prog 110 #[.agg #[.slice r.A r.E.length r.c,.slice r.B r.E.length r.k],.slice A live.length c] w (fun e w'=>∃ CA cc,e= .returned (.agg #[.slice r.A r.E.length r.c,.slice r.B r.E.length r.k,.slice CA (lessR r.ids live).length cc,.slice none 0 0])/\SW b w0 (riOb CA (lessR r.ids live)::l) w'):=by
 have S0:=hid ((h.newCell 54 #[.slice r.A r.E.length r.c,.slice r.B r.E.length r.k]).newCellAt 100 #[.slice none 0 0,.slice none 0 0,.slice none 0 0,.slice none 0 0] (H:=w.heap.size+1) (by simp));have hn:=(h.1.holds _ hm:R3Ok w r).n;have HM:=hid hm;have HA:=hid hA;generalize hN:r.E.length=N at S0;have HN:=hid hN;clear h hm hA;go_enter Tryz.func110,Tryz.ntmps110;go_upto_region 1 with fail
 generalize hW:(w.alloc _).alloc _=W at S0 |-; have c0:=(S0.out.cell 1 rfl).cell 0;have c1:=(S0.out.cell 1 rfl).cell 1;have HI:=hid (rIDs_any (r:=r) S0.out.drew (by simp [HM.out]));rw [HN.out] at HI;clear hW;have HML:=hid hl;have HIL:Hid (r.ids.length<=100000):=by rw [Hid,List.length_map];exact hn
 obtain ⟨ids,HIDS⟩:∃ ids,Hid (r.ids=ids):=⟨_,rfl⟩;rw [HIDS.out] at HI HIL;refine wp_region_held_tail [(0,true),(1,true),(3,true),(2,false),(4,false)] (fun w'=>w'.cell? ⟨w.heap.size,0,none⟩=some (.slice r.A N r.c)/\w'.cell? ⟨w.heap.size,1,none⟩=some (.slice r.B N r.k)) (by kernel_rfl) (fun _ _ d _ _ h=>by cases d<;>exact h) (by kernel_rfl) (⟨c0,c1⟩) ?_;simp only [pk_]
 iterate 3
  (refine wpHeld_take (v:=?_) (Or.inl ⟨by rfl,?_⟩) ?_
   rotate_left
   · (intro w' hSw;obtain ⟨h1,h2⟩:=hSw;go_simp;try with_reducible rfl)
   try simp only [Act.put,zG,List.set])
 refine wpHeld_run (fun K hK=>?_);go_simp;go_at_call 70
 refine HI.out.mono ?_;rintro e w1 ⟨A1,c1,rfl,s1⟩;have S1:=hid s1;clear s1;go_wp2_with fail
 refine hK.out _ _ ⟨(S1.out.cell 2 rfl).cell 0,(S1.out.cell 2 rfl).cell 1⟩ ?_;clear hK K;try simp only [Act.put,zG,List.set]
 refine wpHeld_run (fun K hK=>?_);go_simp;go_at_call 121
 refine (rLess_any S1.out (A1:=A1) (A2:=A) (l1:=ids) (l2:=live) (by simp) (by simp [HA.out]) HIL.out HML.out c1 c).mono ?_;rintro e w2 ⟨CA,cc,rfl,s2⟩;have S2:=hid s2;clear s2;go_wp2_with fail
 refine hK.out _ _ ⟨(S2.out.cell 3 rfl).cell 0,(S2.out.cell 3 rfl).cell 1⟩ ?_;clear hK K;try simp only [Act.put,zG,List.set]
 refine wpHeld_nil ?_;simp only [dz_];have z0:=(S2.out.cell 2 rfl).cell 0;have z1:=(S2.out.cell 2 rfl).cell 1;have z2:=(S2.out.cell 2 rfl).cell 2;have z3:=(S2.out.cell 2 rfl).cell 3;have f0:=(S2.out.cell 2 rfl).frozen 0;have f1:=(S2.out.cell 2 rfl).frozen 1;have f2:=(S2.out.cell 2 rfl).frozen 2;have f3:=(S2.out.cell 2 rfl).frozen 3;have S3:=hid ((((S2.out.setAt 2 rfl 0 (.slice r.A N r.c)).setAt 2 rfl 1 (.slice r.B N r.k)).setAt 2 rfl 2 (.slice CA (lessR ids live).length cc)).setAt 2 rfl 3 (.slice none 0 0));have S4:Hid (SW b w0 (riOb CA (lessR ids live)::l) _):=hid (SW.few (pre:=[_,_,_,_]) S3.out [0] (n:=4) rfl (by decide) (by decide));have e0:_=some (Value.slice r.A N r.c):=(S3.out.cell 2 rfl).cell 0;have e1:_=some (Value.slice r.B N r.k):=(S3.out.cell 2 rfl).cell 1;have e2:_=some (Value.slice CA (lessR ids live).length cc):=(S3.out.cell 2 rfl).cell 2;have e3:_=some (Value.slice none 0 0):=(S3.out.cell 2 rfl).cell 3;clear S2 S3;go_wp2_with fail
 generalize ((((w2.setCell ⟨w.heap.size+1,0,none⟩ (.slice r.A N r.c)).setCell ⟨w.heap.size+1,1,none⟩ (.slice r.B N r.k)).setCell ⟨w.heap.size+1,2,none⟩ (.slice CA (lessR ids live).length cc)).setCell ⟨w.heap.size+1,3,none⟩ (.slice none 0 0))=W at S4 e0 e1 e2 e3 |-; refine bodyPost_ret (v:=.agg #[.slice r.A N r.c,.slice r.B N r.k,.slice CA (lessR ids live).length cc,.slice none 0 0]) ?_ rfl ⟨CA,cc,?_,?_⟩
 · simp [results,Tryz.results110,go_sem,e0,e1,e2,e3]
 · first
    | rfl
    | rw [HIDS.out]
 first
  | exact S4.out
  | (rw [HIDS.out];exact S4.out)
end
section
open Go.RowKit Go.MapKept Go.ChangeMaps Go.Shelf Go.Sort
attribute [local go_sem] wext_cell
abbrev Hold:=Int×ID
def hd0:Hold:=(0,id0)
def encH (h:Hold):List Value:=[.int .i64 h.1,.int .u64 h.2.1,.int .i64 h.2.2]
theorem encH_len (h:Hold):(encH h).length=3:=rfl
theorem encH_one (h:Hold):∀ u∈encH h,u.oneCell'=true:=by
 intro u hu;simp [encH] at hu;rcases hu with rfl | rfl | rfl<;>rfl
theorem encH_all (hs:List Hold):∀ u∈hs.flatMap encH,u.oneCell'=true:=by
 intro u hu;obtain ⟨h,_,h2⟩:=List.mem_flatMap.1 hu;exact encH_one h u h2
def hdOb (A:Option Addr) (hs:List Hold):Ob where
 own:=fun _=>False
 rd:=fun i=>0<hs.length/\A=some ⟨i,0,none⟩
 holds:=fun w=>RowV w 195 3 A hs.length (hs.flatMap encH)/\hs.length<=100000
 stable:=fun _ _ h _ hk=>⟨h.1.same (fun i hn e=>hk i (.inr ⟨hn,e⟩)),h.2⟩
theorem hd_at {w:World} {A:Option Addr} {hs:List Hold} (h:(hdOb A hs).holds w) {j:Nat} (hj:j<hs.length) {e:Hold} (he:hs.getD j hd0=e):∃ g,A=some ⟨g,0,none⟩/\g<w.heap.size/\w.cell? ⟨g,j*3,none⟩=some (.int .i64 e.1)/\w.cell? ⟨g,j*3+1,none⟩=some (.int .u64 e.2.1)/\w.cell? ⟨g,j*3+2,none⟩=some (.int .i64 e.2.2):=by
 obtain ⟨g,e1,hlt,hc⟩:=h.1.at (by omega)
 have hf:∀ i,i<3->w.cell? ⟨g,j*3+i,none⟩=(encH e)[i]? :=fun i hi=>by
  rw [hc _ (by omega),flat_at encH_len hd0 hs j i hj hi,he]
 exact ⟨g,e1,hlt,hf 0 (by omega),hf 1 (by omega),hf 2 (by omega)⟩
theorem hd_src {w:World} {A:Option Addr} {hs:List Hold} (h:(hdOb A hs).holds w) (hp:0<hs.length):∃ ad,A=some ad/\∀ j u,(hs.flatMap encH)[j]? =some u->w.cell? (ad.add j)=some u:=by
 obtain ⟨g,e,_,hc⟩:=h.1.at hp;refine ⟨_,e,fun j u hu=>?_⟩;have hj:=(List.getElem?_eq_some_iff.1 hu).1;rw [flat_len encH_len] at hj;rw [lit_add,Nat.zero_add,hc j hj,hu]
structure RC where
 r:R3
 CA:Option Addr
 cc:Nat
 cd:List ID
 HA:Option Addr
 hc:Nat
 hs:List Hold
abbrev RC.val (c:RC):Value:=.agg #[.slice c.r.A c.r.E.length c.r.c,.slice c.r.B c.r.E.length c.r.k,.slice c.CA c.cd.length c.cc,.slice c.HA c.hs.length c.hc]
def begH (hs:List Hold) (N:Int):Bool:=hs.any fun h=>h.1==N
def zerosH (hs:List Hold):Nat:=(hs.filter fun h=>decide (h.2=id0)).length
theorem take_snocD {α:Type} {l:List α} {k:Nat} (d:α) (hk:k<l.length) {e:α} (he:l.getD k d=e):l.take (k+1)=l.take k++[e]:=by
 rw [zD hk, <- he,zA,zC hk];rfl
section
variable {b:Nat} {w0 w:World} {l:List Ob}
theorem rBegun_S (h:SW b w0 l w) (c:RC) (hm:hdOb c.HA c.hs∈l) (N:Int):Calls Tryz.prog 120 #[.agg #[.slice c.r.A c.r.E.length c.r.c,.slice c.r.B c.r.E.length c.r.k,.slice c.CA c.cd.length c.cc,.slice c.HA c.hs.length c.hc],.int .i64 N] w (fun e w'=>e= .returned (.bool (begH c.hs N))/\SW b w0 l w'):=by
 obtain ⟨r,CA,cc,cd,HA,hc,hs⟩:=c;simp only at hm |-; have S0:=hid (h.newCell 100 #[.slice r.A r.E.length r.c,.slice r.B r.E.length r.k,.slice CA cd.length cc,.slice HA hs.length hc]);have HM:Hid (hdOb HA hs∈cellOb w.heap.size 100 #[.slice r.A r.E.length r.c,.slice r.B r.E.length r.k,.slice CA cd.length cc,.slice HA hs.length hc]::l):=List.mem_cons_of_mem _ hm;have hn:=(h.1.holds _ hm:(hdOb HA hs).holds w).2;clear h hm;go_enter Tryz.func120,Tryz.ntmps120;go_wp2_with fail
 go_loopw [5] (fun s5 wr=>∃ k:Nat,k<=hs.length/\s5= .int .i64 (k:Int)/\begH (hs.take k) N=false/\SW b w0 (cellOb w.heap.size 100 #[.slice r.A r.E.length r.c,.slice r.B r.E.length r.k,.slice CA cd.length cc,.slice HA hs.length hc]::l) wr) (fun s5 _=>hs.length-(intOf s5).toNat)
 case atStart=>exact ⟨0,Nat.zero_le _,rfl,rfl,S0.out⟩
 obtain ⟨k,hk,rfl,hb,hs1⟩:=hrel;have HB:=hid hb;have S1:=hid hs1;clear hb hs1 S0;have c3:=(S1.out.cell 0 rfl).cell 3;by_cases hlt:k<hs.length
 · obtain ⟨e,he⟩:∃ e,hs.getD k hd0=e:=⟨_,rfl⟩;obtain ⟨g,hA,hgl,a0,_,_⟩:=hd_at (S1.out.1.holds (hdOb HA hs) HM.out) hlt he
   have HS:Hid (begH (hs.take (k+1)) N=(begH (hs.take k) N||e.1==N)):=by
    rw [Hid,take_snocD hd0 hlt he,begH,begH,List.any_append];simp
   have HI:Hid (e∈hs):=by
    rw [Hid, <- he,zA,zC hlt];exact zF hlt
   rw [hA] at c3;clear he hA;by_cases hv:e.1=N
   · have hvb:(e.1==N)=true:=by simp [hv]
     have HT:Hid (begH hs N=true):=by
      rw [Hid,begH,List.any_eq_true];exact ⟨e,HI.out,hvb⟩
     clear hv;go_wp2_with fail
     go_ret;exact ⟨HT.out ▸ rfl,S1.out.tail⟩
   have hvb:(e.1==N)=false:=by simp [hv]
   clear hv;go_wp2_with fail
   go_roundw
   case rel=>exact ⟨k+1,by omega,by go_num,by rw [HS.out,HB.out,hvb];rfl,S1.out⟩
   simp [intOf];omega
 obtain rfl:k=hs.length:=by omega
 rw [List.take_length] at HB;go_wp2_with fail
 go_ret;exact ⟨HB.out ▸ rfl,S1.out.tail⟩
end
end
section
open Go.RowKit Go.MapKept Go.ChangeMaps Go.Shelf Go.Sort
structure BSt where
 n:Nat
 P:List (List UInt8)
 live:List ID
def bgStep (L:List Int) (s:BSt):BSt:=⟨s.n+1+textN L s.n+1,s.P++[textB L s.n],s.live++if tnext L (s.n+1+textN L s.n) 3=0 then [fpOf (textB L s.n)] else []⟩
def bgS (L:List Int):Nat->BSt
 | 0=>⟨1,[],[]⟩
 | k+1=>bgStep L (bgS L k)
def bgK (L:List Int):Nat:=(tnext L 0 12).toNat
theorem bgK_le (L:List Int):((bgK L:Nat):Int)=tnext L 0 12/\bgK L<=11:=by
 obtain ⟨h0,h1⟩:=tnext_in L 0 12;have h1:=h1 (by omega);unfold bgK;omega
theorem bgS_len (L:List Int):∀ k,(bgS L k).P.length=k
 | 0=>rfl
 | k+1=>by
  show ((bgS L k).P++[_]).length=_;rw [zB,bgS_len L k];rfl
theorem bgS_n (L:List Int):∀ k,(bgS L k).n<=1+6*k
 | 0=>Nat.le_refl _
 | k+1=>by
  have h:=bgS_n L k;have h2:=(textN_in L (bgS L k).n).2;show (bgS L k).n+1+textN L (bgS L k).n+1<=_;omega
theorem bgS_live (L:List Int):∀ k,(bgS L k).live.length<=k/\∀ i∈(bgS L k).live,i∈(bgS L k).P.map fpOf
 | 0=>⟨Nat.le_refl _,fun i hi=>by cases hi⟩
 | k+1=>by
  obtain ⟨h1,h2⟩:=bgS_live L k;refine ⟨?_,fun i hi=>?_⟩
  · show ((bgS L k).live++_).length<=_;rw [zB];split
    · simp only [List.length_cons,zE];omega
    simp only [zE];omega
  show i∈((bgS L k).P++[_]).map fpOf;rw [List.map_append];have hi:i∈(bgS L k).live++if tnext L ((bgS L k).n+1+textN L (bgS L k).n) 3=0 then [fpOf (textB L (bgS L k).n)] else []:=hi
  rcases List.mem_append.1 hi with hi | hi
  · exact List.mem_append_left _ (h2 i hi)
  split at hi
  · rw [List.mem_singleton.1 hi];simp
  cases hi
theorem RTX.len {r:R3} {P:List (List UInt8)} (h:RTX r P):r.E.length<=P.length:=by
 have hn:r.ids.Nodup:=List.pairwise_map.2 (h.sort.imp (fun hlt e=>by rw [e,ltI_irr] at hlt;cases hlt));have:=len_le_sub r.ids (P.map fpOf) hn (fun i hi=>(h.has i).1 hi);simpa [R3.ids] using this
theorem IsText.ok {bs:List UInt8} (h:IsText bs):okID (fpOf bs):=okID_fp bs (by have:=h.hi;omega)
section
variable {b:Nat} {w0 w:World} {l:List Ob} {c:CR}
theorem run_put31 {w:World} {g m cap H:Nat} {x:ID} (hi:∃ cur,IsB w g 31 cur/\m*2+1<cur.size) (hroom:m+1<=cap) (h0:w.cell? ⟨H,0,none⟩=some (.int .u64 x.1)) (h1:w.cell? ⟨H,1,none⟩=some (.int .i64 x.2)) (ty:TypeId):
 (Builtin.append_ #[38,38] ty #[.slice (some ⟨g,0,none⟩) m cap,.slice (some ⟨H,0,none⟩) 1 1]).run Tryz.prog w= .ok (.slice (some ⟨g,0,none⟩) (m+1) cap) ((w.setCell ⟨g,m*2,none⟩ (.int .u64 x.1)).setCell ⟨g,m*2+1,none⟩ (.int .i64 x.2)):=by
 obtain ⟨cur,hi,hlt⟩:=hi;obtain ⟨i,hinfo,_,hz,_⟩:=info_parts info31;have hz:i.size=2:=hz;have:=run_append_room_cells (P:=Tryz.prog) w 38 ty 31 i Tryz.underlying38 hinfo g 0 m cap ⟨H,0,none⟩ 1 1 [.int .u64 x.1,.int .i64 x.2] (by rw [hz];rfl) (fun j u hu=>?_) (fun u hu=>?_) hroom (fun j hj=>?_) (fun j hj=>?_)
 · rw [this,hz];simp [World.setCells]
 · match j,hu with
   | 0,hu=>
    simp at hu;subst hu;simpa [Addr.add] using h0
   | 1,hu=>
    simp at hu;subst hu;simpa [Addr.add] using h1
   | j+2,hu=>simp at hu
 · simp at hu;rcases hu with rfl | rfl<;>rfl
 · rw [hz,hi.cell];have hj:j<2:=hj;rw [Array.getElem?_eq_getElem (by omega)];rfl
 exact hi.frozen _
theorem wpList_put {w:World} {ops:Array Oper} {rest:List Oper} {o:Oper} {a:Act} {Q:Exit->Act->World->Prop} (hg:o.guard=none) (s y:Operand) (hop:o.op=Op.call { callee:=Callee.builtin Builtin.append,args:= #[s,y],argTypes:= #[38,38] })
 {g m cap H:Nat} {x:ID} (hi:∃ cur,IsB w g 31 cur/\m*2+1<cur.size) (hroom:m+1<=cap) (h0:w.cell? ⟨H,0,none⟩=some (.int .u64 x.1)) (h1:w.cell? ⟨H,1,none⟩=some (.int .i64 x.2))
 (hs:a.eval s= .slice (some ⟨g,0,none⟩) m cap) (hy:a.eval y= .slice (some ⟨H,0,none⟩) 1 1)
 (h:wpList Tryz.prog ops Q rest (a.put o.dst (.slice (some ⟨g,0,none⟩) (m+1) cap)) ((w.setCell ⟨g,m*2,none⟩ (.int .u64 x.1)).setCell ⟨g,m*2+1,none⟩ (.int .i64 x.2))):wpList Tryz.prog ops Q (o::rest) a w:=by
 refine wpList_plain hg fun K hK'=>?_;have hrun:=run_put31 hi hroom h0 h1 o.type;unfold Oper.wp;simp [execOp,hop,resolve,invoke,builtin,hs,hy,hrun,Result.andThen];exact hK' _ _ h
theorem co_row {W:World} {F:List ID} {g:Nat} (h:(coOb (c.mid F)).holds W) (hA:c.A=some ⟨g,0,none⟩) (hF:F.length<c.cand.length):(∃ cur,IsB W g 31 cur/\F.length*2+1<cur.size)/\g<W.heap.size:=by
 obtain ⟨_,_,r3⟩:=h.2.1;obtain ⟨g',e,⟨cur,hi,h2,_⟩,hlt⟩:=r3 _ hA;injection e with e;subst e;refine ⟨⟨cur,hi,?_⟩,hlt⟩;rw [CR.mid_len c (Nat.le_of_lt hF)] at h2;omega
theorem drop_any {gm:Nat} {G:HL} (h:SW b w0 (coOb c::mpOb okID vID vU gm G::l) w) (hok:∀ i∈c.cand,okID i) (hl:c.cand.length<=100000):
 Calls Tryz.prog 112 #[vPtr c.cp,.map (some gm)] w (fun e w'=>e= .returned (.tuple #[])/\SW b w0 (coOb { c with cand:=lessL G c.cand }::mpOb okID vID vU gm G::l) w'):=by
 have HOK:=hid hok;have S0:Hid (SW b w0 (coOb (c.mid [])::mpOb okID vID vU gm G::l) w):=h;obtain ⟨n,Hn⟩:∃ n,Hid (c.cand.length=n):=⟨_,rfl⟩;have hh:(coOb c).holds w:=h.get 0 rfl;have k1:w.cell? ⟨c.cp,1,none⟩=some (.slice c.A n c.cap):=by rw [<- Hn.out];exact CR.cell1 hh
 have hcap:n<=c.cap:=by rw [<- Hn.out];exact hh.2.1.1
 have hcap63:Hid (n<=c.cap):=hcap
 have HA:Hid (∀ ad,c.A=some ad->∃ g,ad=⟨g,0,none⟩):=fun ad e=>by
  obtain ⟨g,e2,_⟩:=hh.2.1.2.2 ad e;exact ⟨g,e2⟩
 have HA0:Hid (c.A=none->n=0):=fun e=>by
  rw [<- Hn.out,hh.2.1.2.1 e];rfl
 have hsl:=fun W=>slice0_38 c.A HA.out n c.cap W;rw [Hn.out] at hl;clear h hok hh;go_enter Tryz.func112,Tryz.ntmps112;go_wp2_with fail
 clear hsl;go_loopw [4,19] (fun s4 s19 wr=>∃ k:Nat,k<=n/\s19= .int .i64 (k:Int)/\s4= .slice c.A (lessL G (c.cand.take k)).length c.cap/\SW b w0 (coOb (c.mid (lessL G (c.cand.take k)))::mpOb okID vID vU gm G::l) wr) (fun s4 s19 _=>n-(intOf s19).toNat)
 case atStart=>exact ⟨0,Nat.zero_le _,rfl,rfl,S0.out⟩
 obtain ⟨k,hk,rfl,rfl,hs⟩:=hrel;have S1:=hid hs;clear hs S0 k1;by_cases hlt:k<n
 · obtain ⟨F,HF⟩:∃ F,Hid (lessL G (c.cand.take k)=F):=⟨_,rfl⟩;rw [HF.out] at S1 |-
   have hFk:F.length<=k:=by
    rw [<- HF.out];refine Nat.le_trans (lessL_le _ _) ?_;rw [List.length_take];omega
   have hltc:k<c.cand.length:=by rw [Hn.out];exact hlt
   obtain ⟨i,hik⟩:∃ i,c.cand.getD k id0=i:=⟨_,rfl⟩
   have hmm:i∈c.cand:=by
    rw [<- hik,zA,zC hltc];exact zF hltc
   have hoki:=HOK.out i hmm
   have hts:c.cand.take (k+1)=c.cand.take k++[i]:=by
    rw [zD hltc, <- hik,zA,zC hltc];rfl
   have HTS:Hid (lessL G (c.cand.take (k+1))=F++if (asc G i).isSome then [] else [i]):=by rw [Hid,hts,lessL_snoc,HF.out]
   have hhm:(coOb (c.mid F)).holds wr:=S1.out.get 0 rfl;obtain ⟨A0,hA0⟩:∃ A0,c.A=A0:=⟨_,rfl⟩;cases A0 with
   | none=>exact absurd (HA0.out hA0) (by omega)
   | some ad=>
    obtain ⟨g,rfl⟩:=HA.out ad hA0;rw [hA0];obtain ⟨g',e,hrow,hgl⟩:=hhm.2.1.2.2 _ hA0;injection e with e;subst e
    have hmk:(F++c.cand.drop F.length).getD k id0=i:=by
     rw [zA,List.getElem?_append_right hFk,List.getElem?_drop,show F.length+(k-F.length)=k by omega, <- hik,zA]
    have hml:k<(F++c.cand.drop F.length).length:=by rw [zB,List.length_drop];omega
    obtain ⟨a0,a1,_,_⟩:=hrow.cells hml hmk
    have HROW:Hid (∃ cur,IsB wr g 31 cur/\F.length*2+1<cur.size):=by
     obtain ⟨cur,hi,h2,_⟩:=hrow;refine ⟨cur,hi,?_⟩;rw [zB,List.length_drop] at h2;omega
    have HAE:=hid hA0;have S2:=hid (S1.out.newCell 31 #[.int .u64 i.1,.int .i64 i.2]);have hlk:=look_u (S2.out.get 2 (o:=mpOb okID vID vU gm G) rfl) hoki;have c0:(wr.alloc (.cells #[.int .u64 i.1,.int .i64 i.2] 31)).cell? ⟨wr.heap.size,0,none⟩=some (.int .u64 i.1):=(S2.out.cell 0 rfl).cell 0;have c1:(wr.alloc (.cells #[.int .u64 i.1,.int .i64 i.2] 31)).cell? ⟨wr.heap.size,1,none⟩=some (.int .i64 i.2):=(S2.out.cell 0 rfl).cell 1;have HGL:=hid hgl;have hFl:F.length<c.cand.length:=by omega
    have HFL:=hid hFl;have hFc:F.length+1<=c.cap:=by omega
    have HFC:=hid hFc;clear hik hmm hts hhm hrow hmk hml hltc hgl S1 hA0 hoki hFl hFc hFk;cases hgo:(asc G i).isSome with
    | true=>
     rw [hgo] at hlk HTS;have HT2:Hid (lessL G (c.cand.take (k+1))=F):=by rw [Hid,HTS.out];simp
     clear hgo HTS;go_wp2_with fail
     go_roundw
     case rel=>
      refine ⟨k+1,by omega,by go_num,?_,?_⟩
      · rw [HT2.out]
      rw [HT2.out];exact (S2.out.alloc _).tail
     simp [intOf];omega
    | false=>
     rw [hgo] at hlk HTS;have HT2:Hid (lessL G (c.cand.take (k+1))=F++[i]):=by rw [Hid,HTS.out];simp
     clear hgo HTS;go_upto_region 6 with fail
     have S3:Hid (SW b w0 (cellOb wr.heap.size 31 #[.int .u64 i.1,.int .i64 i.2]::coOb (c.mid F)::mpOb okID vID vU gm G::l) ((wr.alloc (.cells #[.int .u64 i.1,.int .i64 i.2] 31)).alloc (.cells #[] 170))):=S2.out.alloc _;generalize (wr.alloc (.cells #[.int .u64 i.1,.int .i64 i.2] 31)).alloc (.cells #[] 170)=W at S3 |-; have d0:=(S3.out.cell 0 rfl).cell 0;have d1:=(S3.out.cell 0 rfl).cell 1;have S5:=hid (S3.out.newCell 31 #[.int .u64 i.1,.int .i64 i.2]);have hrw:=hid (co_row (S5.out.get 2 (o:=coOb (c.mid F)) rfl) HAE.out HFL.out).1;have e0:=hid ((S5.out.cell 0 rfl).cell 0);have e1:=hid ((S5.out.cell 0 rfl).cell 1);go_wp2_with (at_builtin;(refine wpList_put rfl (.tmp 31) (.tmp 33) rfl hrw.out HFC.out e0.out e1.out rfl rfl ?_))
     have S6:=hid (S5.out.tail.tail.coPut HAE.out HFL.out i);go_roundw
     case rel=>
      refine ⟨k+1,by omega,by go_num,?_,?_⟩
      · rw [HT2.out,zB];rfl
      rw [HT2.out];exact S6.out
     simp [intOf];omega
 obtain rfl:k=n:=by omega
 have hF:c.cand.take k=c.cand:=by rw [<- Hn.out,List.take_length]
 rw [hF] at S1 |-; have k1:=CR.cell1 (S1.out.get 0 (o:=coOb (c.mid (lessL G c.cand))) rfl);have k2:wr.frozen? ⟨c.cp,1,none⟩=false:=(S1.out.get 0 (o:=coOb (c.mid (lessL G c.cand))) rfl).1.frozen _;go_wp2_with fail
 go_end0;refine ⟨rfl,?_⟩;have hh:=S1.out.get 0 (o:=coOb (c.mid (lessL G c.cand))) rfl;refine SW.coSet (c:=c.mid (lessL G c.cand)) (c':={ c with cand:=lessL G c.cand }) S1.out 1 _ ?_ rfl ?_ ?_ ?_ ?_ rfl ?_
 · rfl
 · exact hh.2.2.len
 · exact fun s hs m hm=>⟨s,hs,hm,rfl⟩
 · exact hh.2.2.nomap
 · exact hh.2.2.uniq
 rintro ⟨r1,r2,r3⟩
 refine ⟨Nat.le_trans (lessL_le G c.cand) (by rw [Hn.out];exact hcap63.out),fun e=>by
  have:=lessL_le G c.cand;rw [Hn.out,HA0.out e] at this;have h4:lessL G c.cand=[]:=List.eq_nil_of_length_eq_zero (by omega);exact h4,fun ad e=>?_⟩
 obtain ⟨g,e2,hrow,hlt⟩:=r3 ad e;exact ⟨g,e2,hrow.pre,hlt⟩
end
end
end Go.Proofs.YteabgcollokgjaaGreatDoor
