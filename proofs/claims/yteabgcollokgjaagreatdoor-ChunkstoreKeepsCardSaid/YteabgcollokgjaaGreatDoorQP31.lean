/- Q -/
import Derived.Laws.Cells
import Derived.RegionTactic
import Derived.ChangeAlike
import Derived.Test.YteabgcollokgjaaGreatDoorQP30
import Derived.Deep.RegionWith
set_option linter.unusedSimpArgs false
set_option linter.unusedVariables false
set_option maxRecDepth 100000
set_option maxHeartbeats 32000000
open Go.Lib (hid)
open List renaming mem_cons_of_mem → zA,getD_eq_getElem?_getD → zB,length_append → zC,getElem?_eq_getElem → zD,setIfInBounds_toArray → zE
namespace Go.Proofs.YteabgcollokgjaaGreatDoor
section
open Go.RowKit Go.MapKept Go.ChangeMaps Go.Shelf Go.Sort
section
variable {b:Nat} {w0 w:World} {l:List Ob}
theorem SW.rowCell {A:Option Addr} {ids:List ID} (h:SW b w0 l w) (hA:riOb A ids∈l) {k:Nat} (hk:k<ids.length) {i:ID} (hi:ids.getD k id0=i):∃ g,A=some ⟨g,0,none⟩/\w.cell? ⟨g,k*2,none⟩=some (.int .u64 i.1)/\w.cell? ⟨g,k*2+1,none⟩=some (.int .i64 i.2):=by
 have hri:=h.1.holds (riOb A ids) hA;cases A with
 | none=>
  have h0:=hri.1 rfl;rw [h0] at hk;simp at hk
 | some ad=>
  obtain ⟨g,rfl,hr,_⟩:=hri.2 ad rfl;obtain ⟨a0,a1,_,_⟩:=hr.cells hk hi;exact ⟨g,rfl,a0,a1⟩
end
end
section
open Go.RowKit
attribute [local go_sem] wext_cell

end
section
open Go.RowKit Go.MapKept Go.ChangeMaps
attribute [local go_sem] wext_cell

end
section
open Go.RowKit Go.MapKept Go.ChangeMaps Go.Shelf Go.Sort
attribute [local go_sem] wext_cell

end
section
open Go.RowKit
attribute [local go_sem] wext_cell

end
section
open Go.RowKit
attribute [local go_sem] wext_cell

end
section
open Go.RowKit Go.MapKept Go.ChangeMaps Go.Shelf Go.Sort
end
section
open Go.RowKit Go.MapKept Go.ChangeMaps Go.Shelf Go.Sort
attribute [local go_sem] wext_cell
theorem rPut_there {w:World} {r:R3} (h:R3Ok w r) (d:BD) (bs:List UInt8) (hb:RB w d bs) (h1:1<=bs.length) (h2:bs.length<=8192) {e:RE} (hat:hasAt r.E (fpOf bs)=true) (he:r.E.getD (atI r.E (fpOf bs)) re0=e) (hk:atI r.E (fpOf bs)<r.E.length) (heb:e.bs=bs):
 Calls Tryz.prog 36 #[.agg #[.slice r.A r.E.length r.c,.slice r.B r.E.length r.k],.slice d.A d.len d.cap] w (fun e w'=>e= .returned (.tuple #[.agg #[.slice r.A r.E.length r.c,.slice r.B r.E.length r.k],.agg #[.int .u64 (fpOf bs).1,.int .i64 (fpOf bs).2],.int .i64 0])/\Below w.heap.size w w'):=by
 have hdl:d.len=bs.length:=hb.1.symm;rw [hdl];have HRB:=hid hb
 have S0:Hid (SW w.heap.size w [rsOb d.A bs,r3Ob r] w):=(SW.startR h).also (o':=rsOb d.A bs) hb.rs (fun _ h=>h) (fun _ h'=>rsOb_lt hb.rs h') (fun i _ y hy=>by
  rcases List.mem_cons.1 hy with rfl | hy
  · exact fun h=>h
  cases hy)
 have S1:=hid (((S0.out.newCell 54 #[.slice r.A r.E.length r.c,.slice r.B r.E.length r.k]).newCellAt 54 #[.slice none 0 0,.slice none 0 0] (H:=w.heap.size+1) (by simp)).newCellAt 31 #[.int .u64 0,.int .i64 0] (H:=w.heap.size+2) (by simp));generalize hN:bs.length=N at h1 h2;have HN:=hid hN;have hd1:decide ((N:Int)<1)=false:=decide_eq_false (by omega);have hd2:decide ((N:Int)>8192)=false:=decide_eq_false (by omega);obtain ⟨W1,HW1⟩:∃ W1,Hid (((w.alloc (.cells #[.slice r.A r.E.length r.c,.slice r.B r.E.length r.k] 54)).alloc (.cells #[.slice none 0 0,.slice none 0 0] 54)).alloc (.cells #[.int .u64 0,.int .i64 0] 31)=W1):=⟨_,rfl⟩;rw [HW1.out] at S1;have HOF:=hid (rOf_any d.A d.cap bs W1 (S1.out.get 3 (o:=rsOb d.A bs) rfl) (by omega));rw [hN] at HOF;obtain ⟨i,HI⟩:∃ i,Hid (fpOf bs=i):=⟨_,rfl⟩;rw [HI.out] at HOF hat he hk;have HAT':=hid hat;have HE:=hid he;have HEB:=hid heb;obtain ⟨K,HK⟩:∃ K,Hid (atI r.E i=K):=⟨_,rfl⟩;rw [HK.out] at hk HE;clear hN h hb hat he heb hdl;rw [HI.out];go_enter Tryz.func36,Tryz.ntmps36;go_upto_region 3 with fail
 rw [HW1.out];go_wp2_with (first | (go_at_call 94;(with_reducible refine HOF.out.mono ?_);refine halt_ ?_) | (at_builtin;refine halt_ ?_))
 rintro e2 w2 ⟨rfl,hb2⟩;have S2:=hid (S1.out.on hb2);clear hb2 HOF S1;have HRB2:=hid (HRB.out.on S2.out.2);go_wp2_with (at_builtin;refine halt_ ?_)
 refine wpList_append_bytes rfl _ _ rfl ⟨none,0,0⟩ [] rfl (rb_nil w2) d.A d.cap bs (by rw [HN.out];rfl) HRB2.out.src (by have:=HN.out;simp only [List.length_nil];omega) ?_;intro d2 w3 hl2 happ;clear hl2;have S3:Hid (SW w.heap.size w [bufOb d2 bs,cellOb (w.heap.size+2) 31 #[.int .u64 0,.int .i64 0],cellOb (w.heap.size+1) 54 #[.slice none 0 0,.slice none 0 0],cellOb w.heap.size 54 #[.slice r.A r.E.length r.c,.slice r.B r.E.length r.k],rsOb d.A bs,r3Ob r] w3):=S2.out.newBuf.appB 0 rfl happ;unfold vB;have S4:=hid (S3.out.newCell 65 #[.int .u64 i.1,.int .i64 i.2,.slice d2.A d2.len d2.cap]);have HAT:=hid (At_any (S4.out.get 6 (o:=r3Ob r) rfl) i);rw [HK.out,HAT'.out] at HAT;have d0:(w3.alloc (.cells #[.int .u64 i.1,.int .i64 i.2,.slice d2.A d2.len d2.cap] 65)).cell? ⟨w3.heap.size,0,none⟩=some (.int .u64 i.1):=(S4.out.cell 0 rfl).cell 0;have d1:(w3.alloc (.cells #[.int .u64 i.1,.int .i64 i.2,.slice d2.A d2.len d2.cap] 65)).cell? ⟨w3.heap.size,1,none⟩=some (.int .i64 i.2):=(S4.out.cell 0 rfl).cell 1;have c0:(w3.alloc (.cells #[.int .u64 i.1,.int .i64 i.2,.slice d2.A d2.len d2.cap] 65)).cell? ⟨w.heap.size,0,none⟩=some (.slice r.A r.E.length r.c):=(S4.out.cell 4 rfl).cell 0;have c1:(w3.alloc (.cells #[.int .u64 i.1,.int .i64 i.2,.slice d2.A d2.len d2.cap] 65)).cell? ⟨w.heap.size,1,none⟩=some (.slice r.B r.E.length r.k):=(S4.out.cell 4 rfl).cell 1;have h3lt:=(S3.out.cell 1 rfl).lt
 clear happ S2 S3;go_wp2_with (go_at_call 95;(with_reducible refine HAT.out.mono ?_);refine halt_ ?_)
 rintro e4 w4 ⟨rfl,hb4⟩;have S5:=hid (S4.out.on hb4);clear hb4 HAT S4 d0 d1 c0 c1;have c0:=(S5.out.cell 4 rfl).cell 0;have c1:=(S5.out.cell 4 rfl).cell 1;have hok:R3Ok w4 r:=S5.out.get 6 (o:=r3Ob r) rfl;obtain ⟨gE,hA,hgl,a0,a1,a2⟩:=hok.chunk hk HE.out
 have hrb1:RB w4 e.d e.bs:=hok.bytes e (by
  rw [<- HE.out,zB,zD hk];exact List.getElem_mem hk)
 have hrb2:RB w4 d bs:=HRB.out.on S5.out.2;have v1:=fun q:Ext w4=>conv_rb (hrb1.on (wext_below q));have v2:=fun q:Ext w4=>conv_rb (hrb2.on (wext_below q));rw [HEB.out] at v1;have hdl:d.len=N:=hrb2.1.symm.trans HN.out;rw [hdl] at v2;rw [hA] at c0;have l0:=(S5.out.cell 4 rfl).lt;clear hok hrb1 hrb2 hdl;go_upto_region 6 with fail
 refine wp_region_ext (by kernel_rfl) (by kernel_rfl) ?_;repeat (go_big_quiet_step (fail))
 refine wpQuiet_nil ?_;intro w5 hb5;have S6:=hid (S5.out.on hb5);clear hb5 v1 v2 a0 a1 a2 c0 c1 S5;have c0:=(S6.out.cell 4 rfl).cell 0;have c1:=(S6.out.cell 4 rfl).cell 1;have d0:=(S6.out.cell 0 rfl).cell 0;have d1:=(S6.out.cell 0 rfl).cell 1;have z0:=(S6.out.cell 3 rfl).cell 0;have z1:=(S6.out.cell 3 rfl).cell 1;have y0:=(S6.out.cell 2 rfl).cell 0;have y1:=(S6.out.cell 2 rfl).cell 1;have f0:=(S6.out.cell 3 rfl).frozen 0;have f1:=(S6.out.cell 3 rfl).frozen 1;have f2:=(S6.out.cell 2 rfl).frozen 0;have f3:=(S6.out.cell 2 rfl).frozen 1;have hn1:w3.heap.size≠w.heap.size+1:=by omega
 have hn2:w3.heap.size≠w.heap.size+2:=by omega
 have hn3:w3.heap.size≠w.heap.size+1+1:=by omega
 go_upto_region 8 with fail
 go_region
 have S7:=hid (((((S6.out.setAt 3 rfl 0 (.slice (some ⟨gE,0,none⟩) r.E.length r.c)).setAt 3 rfl 1 (.slice r.B r.E.length r.k)).setAt 2 rfl 0 (.int .u64 i.1)).setAt 2 rfl 1 (.int .i64 i.2)).drew);have e0:=(S7.out.cell 3 rfl).cell 0;have e1:=(S7.out.cell 3 rfl).cell 1;have e2:=(S7.out.cell 2 rfl).cell 0;have e3:=(S7.out.cell 2 rfl).cell 1;clear c0 c1 d0 d1 z0 z1 y0 y1 f0 f1 f2 f3 S6;generalize World.drew _=W at S7 e0 e1 e2 e3 |-; have hRA:=hA;clear hA;go_wp2_with fail
 refine bodyPost_ret (v:=.tuple #[.agg #[.slice (some ⟨gE,0,none⟩) r.E.length r.c,.slice r.B r.E.length r.k],.agg #[.int .u64 i.1,.int .i64 i.2],.int .i64 0]) ?_ rfl ⟨?_,S7.out.2⟩
 · simp [results,Tryz.results36,go_sem,e0,e1,e2,e3]
 first
  | rfl
  | (rw [hRA])
end
section
open Go.RowKit Go.MapKept Go.ChangeMaps Go.Shelf Go.Sort
attribute [local go_sem] wext_cell
def rGetV (r:R3) (i:ID):Value:=if hasAt r.E i=true then .tuple #[.slice (r.E.getD (atI r.E i) re0).d.A (r.E.getD (atI r.E i) re0).d.len (r.E.getD (atI r.E i) re0).d.cap,.int .i64 0] else .tuple #[.slice none 0 0,.int .i64 333]
theorem rGet_any {w:World} {r:R3} (h:R3Ok w r) (i:ID):Calls Tryz.prog 45 #[.agg #[.slice r.A r.E.length r.c,.slice r.B r.E.length r.k],.agg #[.int .u64 i.1,.int .i64 i.2]] w (fun e w'=>e= .returned (rGetV r i)/\Below w.heap.size w w'):=by
 have S0:=hid (((SW.startR h).newCell 54 #[.slice r.A r.E.length r.c,.slice r.B r.E.length r.k]).newCellAt 31 #[.int .u64 i.1,.int .i64 i.2] (H:=w.heap.size+1) (by simp));have HAT:=hid (fun (W:World) (h:R3Ok W r)=>At_any h i);clear h;cases hh:hasAt r.E i with
 | false=>
  have hv:rGetV r i= .tuple #[.slice none 0 0,.int .i64 333]:=by unfold rGetV;rw [hh];rfl
  rw [hv];rw [hh] at HAT;clear hv hh;go_enter Tryz.func45,Tryz.ntmps45;go_upto_region 1 with fail
  generalize (w.alloc _).alloc _=W1 at S0 |-; have c0:=(S0.out.cell 1 rfl).cell 0;have c1:=(S0.out.cell 1 rfl).cell 1;have d0:=(S0.out.cell 0 rfl).cell 0;have d1:=(S0.out.cell 0 rfl).cell 1;have HA2:=hid (HAT.out W1 (S0.out.get 2 (o:=r3Ob r) rfl));go_wp2_with (go_at_call 95;(with_reducible refine HA2.out.mono ?_);refine halt_ ?_)
  rintro e w2 ⟨rfl,hb2⟩;have S2:=hid (S0.out.on hb2);clear hb2 HAT HA2 S0 c0 c1 d0 d1;go_wp2_with fail
  all_goals (
   go_ret2;exact ⟨rfl,S2.out.2⟩)
 | true=>
  have hlt:atI r.E i<r.E.length:=by
   unfold hasAt at hh;split at hh
   · rename_i e he
     exact (List.getElem?_eq_some_iff.1 he).1
   cases hh
  obtain ⟨f,hf⟩:∃ f,r.E.getD (atI r.E i) re0=f:=⟨_,rfl⟩;have hv:rGetV r i= .tuple #[.slice f.d.A f.d.len f.d.cap,.int .i64 0]:=by unfold rGetV;rw [if_pos hh,hf]
  rw [hv];rw [hh] at HAT;obtain ⟨K,HK⟩:∃ K,Hid (atI r.E i=K):=⟨_,rfl⟩;rw [HK.out] at HAT hlt hf;clear hv hh HK;go_enter Tryz.func45,Tryz.ntmps45;go_upto_region 1 with fail
  generalize (w.alloc _).alloc _=W1 at S0 |-; have c0:=(S0.out.cell 1 rfl).cell 0;have c1:=(S0.out.cell 1 rfl).cell 1;have d0:=(S0.out.cell 0 rfl).cell 0;have d1:=(S0.out.cell 0 rfl).cell 1;have HA2:=hid (HAT.out W1 (S0.out.get 2 (o:=r3Ob r) rfl));go_wp2_with (go_at_call 95;(with_reducible refine HA2.out.mono ?_);refine halt_ ?_)
  rintro e w2 ⟨rfl,hb2⟩;have S2:=hid (S0.out.on hb2);clear hb2 HAT HA2 S0 c0 c1 d0 d1;obtain ⟨g,hA,hg,_,_,a2⟩:=R3Ok.chunk (S2.out.get 2 (o:=r3Ob r) rfl) hlt hf;have c0:=(S2.out.cell 1 rfl).cell 0;rw [hA] at c0;clear hf hA;go_wp2_with fail
  all_goals (
   go_ret2;exact ⟨rfl,S2.out.2⟩)
end
section
open Go.RowKit Go.MapKept Go.ChangeMaps Go.Shelf Go.Sort
attribute [local go_sem] wext_cell
section
variable {b:Nat} {w0 w:World} {l:List Ob} {g:Nat} {A:Option Addr} {c:Nat} {L:List Int} {n:Nat}
theorem text34_a (h:SW b w0 l w) (kk:Nat) (hk:l[kk]? =some (tpOb g A c L n)) (hn:n<=999000):Calls Tryz.prog 34 #[vPtr g] w (TextP b w0 l kk g A c L n):=by
 have hkl:kk<l.length:=(List.getElem?_eq_some_iff.1 hk).1;have HN:=hid (Next_x h kk hk 4 (by omega) (by omega));have HT:=hid (textN_in L n);obtain ⟨q,hq⟩:∃ q:Nat,tnext L n 4=(q:Int):=⟨(tnext L n 4).toNat,by have:=(tnext_in L n 4).1;omega⟩;have e1:textN L n=1+q:=by unfold textN;rw [hq];simp
 have hq4:q<=3:=by have:=HT.out.2;omega
 rw [hq] at HN;clear h;go_enter Tryz.func34,Tryz.ntmps34;go_wp2_with (go_at_call 33;(with_reducible refine HN.out.mono ?_);refine halt_ ?_)
 rintro e w1 ⟨rfl,s1⟩;have HB:=hid (Bytes_x s1 kk (List.getElem?_set_self hkl) (1+q) 2 (by omega) (by omega) (by omega) (by omega));rw [<- e1,List.set_set] at HB;have e2:Hid ((1:Int)+(q:Int)=((textN L n:Nat):Int)):=by rw [Hid,e1];omega
 clear e1 hq;clear s1 HN;go_wp2_with (go_at_call 54;refine halt_ ?_)
 rw [e2.out];refine HB.out.mono ?_;rintro e w2 ⟨d,rfl,s2⟩;have S2:=hid s2;clear s2 HB;go_wp2_with fail
 go_ret;exact ⟨d,rfl,S2.out⟩
def AnyP (b:Nat) (w0:World) (l:List Ob) (kk g:Nat) (A:Option Addr) (c:Nat) (L:List Int) (n:Nat) (e:Ending) (w':World):Prop:=
 ∃ (i:ID) (n':Nat),e= .returned (.agg #[.int .u64 i.1,.int .i64 i.2])/\okID i/\n'<=n+8/\SW b w0 (l.set kk (tpOb g A c L n')) w'
theorem rE_ok {r:R3} {P:List (List UInt8)} (h:RTX r P) {f:RE} (hf:f∈r.E):okID f.id:=by
 obtain ⟨h1,h2⟩:=h.val f hf;rw [<- h1];exact okID_fp _ (by have:=h2.hi;omega)
theorem any44 (h:SW b w0 l w) (kk:Nat) (hk:l[kk]? =some (tpOb g A c L n)) {r:R3} (hm:∀ n',r3Ob r∈l.set kk (tpOb g A c L n')) {P:List (List UInt8)} (hr:RTX r P) (hn:n<=900000):
 Calls Tryz.prog 44 #[vPtr g,.agg #[.slice r.A r.E.length r.c,.slice r.B r.E.length r.k]] w (AnyP b w0 l kk g A c L n):=by
 have hkl:kk<l.length:=(List.getElem?_eq_some_iff.1 hk).1;have S0:=hid ((h.newCell 54 #[.slice r.A r.E.length r.c,.slice r.B r.E.length r.k]).newCellAt 31 #[.int .u64 0,.int .i64 0] (H:=w.heap.size+1) (by simp));have hk2:∀ n',(l.set kk (tpOb g A c L n'))[kk]? =some (tpOb g A c L n'):=fun n'=>List.getElem?_set_self hkl;have HK2:=hid hk2;have HM:=hid hm;have HR:=hid hr
 have hset:l.set kk (tpOb g A c L n)=l:=by
  obtain ⟨h1,h2⟩:=List.getElem?_eq_some_iff.1 hk;rw [<- h2,List.set_getElem_self]
 have HSET:=hid hset; -- the road behind both tests
 have HT:Hid (∀ (m:Nat) (W:World),m<=n+1->SW b w0 (l.set kk (tpOb g A c L m)) W->Calls Tryz.prog 34 #[vPtr g] W (TextP b w0 (l.set kk (tpOb g A c L m)) kk g A c L m)):=fun m W hmn hW=>text34_a hW kk (hk2 m) (by omega);clear h hk hm hr hk2 hset;go_enter Tryz.func44,Tryz.ntmps44;go_upto_region 1 with fail
 generalize (w.alloc _).alloc _=W1 at S0 |-; rw [<- HSET.out] at S0;have c0:=(S0.out.cell 1 rfl).cell 0;have HN1:=hid (Next_x S0.out (kk+2) (HK2.out n) 4 (by omega) (by omega));by_cases hE:0<r.E.length
 · obtain ⟨v,HV⟩:∃ v,Hid (tnext L n 4=v):=⟨_,rfl⟩;rw [HV.out] at HN1;have hgt:(0:Int)<(r.E.length:Int):=by omega
   go_wp2_with (go_at_call 33;(with_reducible refine HN1.out.mono ?_);refine halt_ ?_)
   rintro e w2 ⟨rfl,s2⟩
   have S2:Hid (SW b w0 (cellOb (w.heap.size+1) 31 #[.int .u64 0,.int .i64 0]::cellOb w.heap.size 54 #[.slice r.A r.E.length r.c,.slice r.B r.E.length r.k]::l.set kk (tpOb g A c L (n+1))) w2):=by
    have:=s2;simp only [List.set_cons_succ,List.set_set] at this;exact this
   clear s2 HN1 S0 c0;by_cases hv:0<v
   · obtain ⟨h1,h2⟩:=tnext_in L (n+1) (r.E.length:Int);obtain ⟨q,hq⟩:∃ q:Nat,tnext L (n+1) (r.E.length:Int)=(q:Int):=⟨(tnext L (n+1) (r.E.length:Int)).toNat,by omega⟩
     have hql:q<r.E.length:=by
      by_cases h3:1<(r.E.length:Int)
      · have:=h2 h3;omega
      have:tnext L (n+1) (r.E.length:Int)=0:=by unfold tnext foldI;rw [if_pos (by omega)]
      omega
     obtain ⟨f,hf⟩:∃ f,r.E.getD q re0=f:=⟨_,rfl⟩
     have hfm:f∈r.E:=by
      rw [<- hf,zB,zD hql];exact List.getElem_mem hql
     have HOK:=hid (rE_ok HR.out hfm);have hR3:R3Ok w2 r:=S2.out.1.holds (r3Ob r) (zA _ (zA _ (HM.out _)));obtain ⟨G,hA,hG,_,_,_⟩:=hR3.chunk hql hf
     have HC:Hid (∀ n' w',SW b w0 (cellOb (w.heap.size+1) 31 #[.int .u64 0,.int .i64 0]::cellOb w.heap.size 54 #[.slice r.A r.E.length r.c,.slice r.B r.E.length r.k]::l.set kk (tpOb g A c L n')) w'->w'.cell? ⟨w.heap.size,0,none⟩=some (.slice (some ⟨G,0,none⟩) r.E.length r.c)/\w'.cell? ⟨G,q*3,none⟩=some (.int .u64 f.id.1)/\w'.cell? ⟨G,q*3+1,none⟩=some (.int .i64 f.id.2)):=fun n' w' hw=>by
      have h3:R3Ok w' r:=hw.1.holds (r3Ob r) (zA _ (zA _ (HM.out _)));obtain ⟨G',hA',_,a0,a1,_⟩:=h3.chunk hql hf;rw [hA] at hA';injection hA' with hA';injection hA' with hA';subst hA';exact ⟨by rw [<- hA];exact (hw.cell 1 rfl).cell 0,a0,a1⟩
     have HN2:Hid (∀ W,SW b w0 (cellOb (w.heap.size+1) 31 #[.int .u64 0,.int .i64 0]::cellOb w.heap.size 54 #[.slice r.A r.E.length r.c,.slice r.B r.E.length r.k]::l.set kk (tpOb g A c L (n+1))) W->Calls Tryz.prog 33 #[vPtr g,.int .i64 (r.E.length:Int)] W (fun e w'=>e= .returned (.int .i64 (q:Int))/\SW b w0 (cellOb (w.heap.size+1) 31 #[.int .u64 0,.int .i64 0]::cellOb w.heap.size 54 #[.slice r.A r.E.length r.c,.slice r.B r.E.length r.k]::l.set kk (tpOb g A c L (n+1+1))) w')):=fun W hW=>by
      have h3:=Next_x hW (kk+2) (HK2.out (n+1)) (r.E.length:Int) (by have:=hR3.n;omega) (by omega);rw [hq] at h3;simp only [List.set_cons_succ,List.set_set] at h3;exact h3
     have S2:=S2.out.drew;clear hf hfm h1 h2 hq hR3 hA;go_upto_region 2 with fail
     refine wp_region_tree 10 (.take 0 (.take 1 (.take 2 (.take 3 (.take 4 (.take 5 (.one 6 (.take 7 (.take 8 (.take 9 .nil)))))))))) (fun w'=>w'.cell? ⟨w.heap.size,0,none⟩=some (.slice (some ⟨G,0,none⟩) r.E.length r.c)/\w'.cell? ⟨G,q*3,none⟩=some (.int .u64 f.id.1)/\w'.cell? ⟨G,q*3+1,none⟩=some (.int .i64 f.id.2)) (by kernel_rfl) (fun _ _ d _ _ h=>by cases d<;>exact h) (by kernel_rfl) (HC.out _ _ S2) ?_
     iterate 6
      refine wpTr_takeL rfl ?_ (Or.inl ⟨by rfl,?_⟩) ?_;rotate_left
      · (intro w' hSw;obtain ⟨h1,h2,h3⟩:=hSw;go_simp;try with_reducible rfl)
      try simp only [Act.put,zE,List.set]
     refine wpTr_one ?_;refine wpTr_runL rfl (fun K' hK'=>?_);go_simp;go_at_call 33
     refine (HN2.out _ S2).mono ?_;rintro e wc1 ⟨rfl,sc1⟩;have SC1:SW b w0 (cellOb (w.heap.size+1) 31 #[.int .u64 0,.int .i64 0]::cellOb w.heap.size 54 #[.slice r.A r.E.length r.c,.slice r.B r.E.length r.k]::l.set kk (tpOb g A c L (n+1+1))) wc1:=sc1;clear sc1;go_wp2_with fail
     refine hK'.out _ _ (HC.out _ _ SC1) ?_;clear hK' K';try simp only [Act.put,zE,List.set]
     iterate 3
      refine wpTr_takeL rfl ?_ (Or.inl ⟨by rfl,?_⟩) ?_;rotate_left
      · (intro w' hSw;obtain ⟨h1,h2,h3⟩:=hSw;go_simp;try with_reducible rfl)
      try simp only [Act.put,zE,List.set]
     refine wpTr_nil ?_;simp only [List.drop_succ_cons,List.drop_zero];have z0:=(SW.cell SC1 0 rfl).cell 0;have z1:=(SW.cell SC1 0 rfl).cell 1;have f0:=(SW.cell SC1 0 rfl).frozen 0;have f1:=(SW.cell SC1 0 rfl).frozen 1;have S5:=hid (SW.setAt (SW.setAt SC1 0 rfl 0 (.int .u64 f.id.1)) 0 rfl 1 (.int .i64 f.id.2));have e0:=(S5.out.cell 0 rfl).cell 0;have e1:=(S5.out.cell 0 rfl).cell 1;go_wp2_with fail
     refine bodyPost_ret (v:=.agg #[.int .u64 f.id.1,.int .i64 f.id.2]) ?_ rfl ⟨f.id,n+1+1,rfl,HOK.out,by omega,S5.out.tail.tail⟩;simp [results,Tryz.results44,go_sem,e0,e1]
   have hv2:¬ 0<v:=hv;have HX:=hid (textB_is L (n+1));have HTN:=(textN_in L (n+1)).2;have HT2:=hid (text34_a S2.out (kk+2) (HK2.out (n+1)) (by omega));go_wp2_with (go_at_call 34;(with_reducible refine HT2.out.mono ?_);refine halt_ ?_)
   rintro e w3 ⟨d,rfl,s3⟩;obtain ⟨bs,HBS⟩:∃ bs,Hid (textB L (n+1)=bs):=⟨_,rfl⟩;rw [HBS.out] at s3 HX
   have S3:Hid (SW b w0 (bufOb d bs::cellOb (w.heap.size+1) 31 #[.int .u64 0,.int .i64 0]::cellOb w.heap.size 54 #[.slice r.A r.E.length r.c,.slice r.B r.E.length r.k]::l.set kk (tpOb g A c L (n+1+1+textN L (n+1)))) w3):=by
    have:=s3;simp only [List.set_cons_succ,List.set_set] at this;exact this
   have hrb:RB w3 d bs:=S3.out.get 0 (o:=bufOb d bs) rfl;obtain ⟨dA,dn,dc⟩:=d;have hdn:bs.length=dn:=hrb.1;subst hdn;have hbl:=HX.out.hi;have HOF:=hid (Of_any dA dc bs w3 hrb.rs (by omega));obtain ⟨i,HI⟩:∃ i,Hid (fpOf bs=i):=⟨_,rfl⟩;rw [HI.out] at HOF;have HOK:Hid (okID i):=by rw [Hid, <- HI.out];exact okID_fp bs (by omega)
   clear s3 HT2 S2 hrb;go_wp2_with (go_at_call 31;(with_reducible refine HOF.out.mono ?_);refine halt_ ?_)
   rintro e w4 ⟨rfl,hb4⟩;have S4:=hid (S3.out.on hb4);have z0:=(S4.out.cell 1 rfl).cell 0;have z1:=(S4.out.cell 1 rfl).cell 1;have f0:=(S4.out.cell 1 rfl).frozen 0;have f1:=(S4.out.cell 1 rfl).frozen 1;have S5:=hid ((S4.out.setAt 1 rfl 0 (.int .u64 i.1)).setAt 1 rfl 1 (.int .i64 i.2));have e0:=(S5.out.cell 1 rfl).cell 0;have e1:=(S5.out.cell 1 rfl).cell 1;clear hb4 HOF S3;go_wp2_with fail
   refine bodyPost_ret (v:=.agg #[.int .u64 i.1,.int .i64 i.2]) ?_ rfl ⟨i,n+1+1+textN L (n+1),rfl,HOK.out,by omega,S5.out.tail.tail.tail⟩;simp [results,Tryz.results44,go_sem,e0,e1]
 have hl0:r.E.length=0:=by omega
 rw [hl0] at c0;clear HN1 hl0;have HX:=hid (textB_is L (n));have HTN:=(textN_in L (n)).2;have HT2:=hid (text34_a S0.out (kk+2) (HK2.out (n)) (by omega));go_wp2_with (go_at_call 34;(with_reducible refine HT2.out.mono ?_);refine halt_ ?_)
 rintro e w3 ⟨d,rfl,s3⟩;obtain ⟨bs,HBS⟩:∃ bs,Hid (textB L (n)=bs):=⟨_,rfl⟩;rw [HBS.out] at s3 HX
 have S3:Hid (SW b w0 (bufOb d bs::cellOb (w.heap.size+1) 31 #[.int .u64 0,.int .i64 0]::cellOb w.heap.size 54 #[.slice r.A r.E.length r.c,.slice r.B r.E.length r.k]::l.set kk (tpOb g A c L (n+1+textN L (n)))) w3):=by
  have:=s3;simp only [List.set_cons_succ,List.set_set] at this;exact this
 have hrb:RB w3 d bs:=S3.out.get 0 (o:=bufOb d bs) rfl;obtain ⟨dA,dn,dc⟩:=d;have hdn:bs.length=dn:=hrb.1;subst hdn;have hbl:=HX.out.hi;have HOF:=hid (Of_any dA dc bs w3 hrb.rs (by omega));obtain ⟨i,HI⟩:∃ i,Hid (fpOf bs=i):=⟨_,rfl⟩;rw [HI.out] at HOF;have HOK:Hid (okID i):=by rw [Hid, <- HI.out];exact okID_fp bs (by omega)
 clear s3 HT2 S0 hrb;go_wp2_with (go_at_call 31;(with_reducible refine HOF.out.mono ?_);refine halt_ ?_)
 rintro e w4 ⟨rfl,hb4⟩;have S4:=hid (S3.out.on hb4);have z0:=(S4.out.cell 1 rfl).cell 0;have z1:=(S4.out.cell 1 rfl).cell 1;have f0:=(S4.out.cell 1 rfl).frozen 0;have f1:=(S4.out.cell 1 rfl).frozen 1;have S5:=hid ((S4.out.setAt 1 rfl 0 (.int .u64 i.1)).setAt 1 rfl 1 (.int .i64 i.2));have e0:=(S5.out.cell 1 rfl).cell 0;have e1:=(S5.out.cell 1 rfl).cell 1;clear hb4 HOF S3;go_wp2_with fail
 refine bodyPost_ret (v:=.agg #[.int .u64 i.1,.int .i64 i.2]) ?_ rfl ⟨i,n+1+textN L (n),rfl,HOK.out,by omega,S5.out.tail.tail.tail⟩;simp [results,Tryz.results44,go_sem,e0,e1]
end
end
section
open Go.RowKit Go.MapKept Go.ChangeMaps Go.Shelf Go.Sort
attribute [local go_sem] wext_cell
section
variable {b:Nat} {w0 w:World} {l:List Ob} {g:Nat} {A:Option Addr} {c:Nat} {L:List Int} {n:Nat}
def SomeP (b:Nat) (w0:World) (l:List Ob) (kk g:Nat) (A:Option Addr) (c:Nat) (L:List Int) (n:Nat) (e:Ending) (w':World):Prop:=
 ∃ (A1:Option Addr) (c1:Nat) (ids:List ID) (n':Nat),e= .returned (.slice A1 ids.length c1)/\ids.length<=3/\(∀ i∈ids,okID i)/\n'<=n+25/\SW b w0 (riOb A1 ids::l.set kk (tpOb g A c L n')) w'
theorem some41 (h:SW b w0 l w) (kk:Nat) (hk:l[kk]? =some (tpOb g A c L n)) {r:R3} (hm:∀ n',r3Ob r∈l.set kk (tpOb g A c L n')) {P:List (List UInt8)} (hr:RTX r P) (hn:n<=800000):
 Calls Tryz.prog 41 #[vPtr g,.agg #[.slice r.A r.E.length r.c,.slice r.B r.E.length r.k]] w (SomeP b w0 l kk g A c L n):=by
 have hkl:kk<l.length:=(List.getElem?_eq_some_iff.1 hk).1;have hk2:∀ n',(l.set kk (tpOb g A c L n'))[kk]? =some (tpOb g A c L n'):=fun n'=>List.getElem?_set_self hkl;have HK2:=hid hk2;have HM:=hid hm;have HR:=hid hr
 have hset:l.set kk (tpOb g A c L n)=l:=by
  obtain ⟨h1,h2⟩:=List.getElem?_eq_some_iff.1 hk;rw [<- h2,List.set_getElem_self]
 have S0:Hid (SW b w0 (cellOb w.heap.size 54 #[.slice r.A r.E.length r.c,.slice r.B r.E.length r.k]::l.set kk (tpOb g A c L n)) (w.alloc (.cells #[.slice r.A r.E.length r.c,.slice r.B r.E.length r.k] 54))):=by
  rw [Hid,hset];exact h.newCell 54 _
 clear h hk hm hr hk2 hset;have HN1:=hid (Next_x S0.out (kk+1) (HK2.out n) 4 (by omega) (by omega));obtain ⟨hv0,hv1⟩:=tnext_in L n 4;have hv1:=hv1 (by omega);obtain ⟨K,HKK⟩:∃ K:Nat,Hid (tnext L n 4=(K:Int)):=⟨(tnext L n 4).toNat,by rw [Hid];omega⟩;rw [HKK.out] at HN1 hv0 hv1;go_enter Tryz.func41,Tryz.ntmps41;go_wp2_with (go_at_call 33;(with_reducible refine HN1.out.mono ?_);refine halt_ ?_)
 rintro e w2 ⟨rfl,s2⟩
 have S2:Hid (SW b w0 (rowOb 31 2 (.slice none 0 0) 0 []::cellOb w.heap.size 54 #[.slice r.A r.E.length r.c,.slice r.B r.E.length r.k]::l.set kk (tpOb g A c L (n+1))) w2):=by
  have:=s2;simp only [List.set_cons_succ,List.set_set] at this;exact this.newRow 31 2
 clear s2 HN1 S0;go_wp2_with fail
 go_loopw [5,6] (fun s5 s6 wr=>∃ (m n':Nat) (A1:Option Addr) (c1:Nat) (ids:List ID),s6= .int .i64 (m:Int)/\s5= .slice A1 ids.length c1/\ids.length+m=K/\n'+8*m<=n+1+8*K/\(∀ i∈ids,okID i)/\SW b w0 (rowOb 31 2 (.slice A1 ids.length c1) ids.length (ids.flatMap encID)::cellOb w.heap.size 54 #[.slice r.A r.E.length r.c,.slice r.B r.E.length r.k]::l.set kk (tpOb g A c L n')) wr) (fun _ s6 _=>(intOf s6).toNat)
 case atStart=>exact ⟨K,n+1,none,0,[],rfl,rfl,by simp,by omega,by simp,S2.out⟩
 obtain ⟨m,n',A1,c1,ids,rfl,rfl,hm,hn',hok,hs⟩:=hrel;have S3:=hid hs;have HOK:=hid hok;clear hs hok S2;cases m with
 | zero=>
  go_wp2_with fail
  go_ret;exact ⟨A1,c1,ids,n',rfl,by omega,HOK.out,by omega,(SW.front (pre:=[_,_]) S3.out [1,0] (n:=2) rfl (by decide)).tail.rowRi⟩
 | succ m=>
  have c0:=(S3.out.cell 1 rfl).cell 0;have c1':=(S3.out.cell 1 rfl).cell 1
  have HAN:=hid (any44 S3.out (kk+2) (HK2.out n') (r:=r) (fun q=>by
   simp only [List.set_cons_succ,List.set_set];exact zA _ (zA _ (HM.out q))) HR.out (by omega))
  go_wp2_with (go_at_call 44;(with_reducible refine HAN.out.mono ?_);refine halt_ ?_)
  rintro e w4 ⟨i,n2,rfl,hi,hn2,s4⟩
  have S4:Hid (SW b w0 (rowOb 31 2 (.slice A1 ids.length c1) ids.length (ids.flatMap encID)::cellOb w.heap.size 54 #[.slice r.A r.E.length r.c,.slice r.B r.E.length r.k]::l.set kk (tpOb g A c L n2)) w4):=by
   have:=s4;simp only [List.set_cons_succ,List.set_set] at this;exact this
  have HI:=hid hi;clear s4 HAN S3 c0 c1' hi;obtain ⟨i1,gi,gz0,gz1,gz2⟩:=info_parts info31;go_wp2_with (at_builtin;(refine wpList_rowS (t:=38) (e:=31) (size:=2) (bytes:=16) (i:=i1) (S4.out.alloc _) 0 rfl (by rfl) (.tmp 13) (.tmp 17) (by rfl) Tryz.underlying38 gi gz0 gz1 gz2 rfl (by omega) (by rfl) ⟨w4.heap.size,0,none⟩ 1 [.int .u64 i.1,.int .i64 i.2] (by rfl) rfl (two_new w4 _ _ 31 _ rfl) (encID_one i) (by unfold maxLen;omega) (by omega) ?_);refine halt_ ?_)
  intro v5 w5 s5;obtain ⟨g5,c5,rfl⟩:=own_some (s5.get 0 rfl) (by omega)
  have S5:Hid (SW b w0 (rowOb 31 2 (.slice (some ⟨g5,0,none⟩) (ids++[i]).length c5) (ids++[i]).length ((ids++[i]).flatMap encID)::cellOb w.heap.size 54 #[.slice r.A r.E.length r.c,.slice r.B r.E.length r.k]::l.set kk (tpOb g A c L n2)) w5):=by
   rw [Hid,List.flatMap_append,zC];exact s5
  clear s5 S4;go_wp2_with fail
  go_roundw
  case rel=>
   refine ⟨m,n2,some ⟨g5,0,none⟩,c5,ids++[i],by go_num,by rw [zC];rfl,by rw [zC,List.length_singleton];omega,by omega,fun j hj=>?_,S5.out⟩;rcases List.mem_append.1 hj with hj | hj
   · exact HOK.out j hj
   rw [List.mem_singleton.1 hj];exact HI.out
  simp [intOf]
end
end
section
open Go.RowKit Go.MapKept Go.ChangeMaps Go.Shelf Go.Sort
abbrev nmS:ByteArray:=⟨#[115]⟩
theorem nmS_ok:nameV nmS=true:=by decide+kernel
abbrev bAB:List UInt8:=[97,98]
def iAB:ID:=fpOf bAB
theorem iAB_ne:iAB≠(1,1):=by decide+kernel
theorem iAB_ok:okID iAB:=okID_fp bAB (by decide)
theorem rs_const (w:World) (g:Nat) (hg:g=w.heap.size) (bs:List UInt8) (fr:Nat×Nat):RS (w.alloc (.cells (bs.map encU).toArray 5 fr)) (some ⟨g,0,none⟩) bs:=by
 subst hg;refine ⟨(fun e=>by cases e),fun ad e=>?_⟩;injection e with e;subst e;refine ⟨_,0,rfl,fun j hj=>?_⟩;have:(w.alloc (.cells (bs.map encU).toArray 5 fr)).heap[w.heap.size]? =some (.cells (bs.map encU).toArray 5 fr):=heap_alloc_new w _;rw [Nat.zero_add,cell_of_row _ _ j _ _ _ this,List.getElem?_toArray,List.getElem?_map,zD hj,zB,zD hj];rfl
theorem known33_any (w:World):Calls Tryz.prog 22 #[] w (fun e w'=>e= .returned (.bool true)/\Below w.heap.size w w'):=by
 have kc:=fun (w:World) (C:Array Value) (n c:Nat)=>Lib.run_convert_bytes_const (P:=Tryz.prog) w 34 5 C n c Tryz.underlying34 Tryz.underlying5
 have kc1:=fun (w:World) (o:Obj) (C:Array Value) (n c:Nat)=>(show Sem.run Tryz.prog (convert 34 34 (.slice (some ⟨w.heap.size+1,0,none⟩) n c)) ((w.alloc o).alloc (.cells C 5))= .ok (.slice (some ⟨w.heap.size+1,0,none⟩) n c) ((w.alloc o).alloc (.cells C 5 (C.size,C.size+1))) from by
  have:=kc (w.alloc o) C n c;simpa using this)
 go_enter Tryz.func22,Tryz.ntmps22;go_wp2_with fail
 refine (New_L _).mono ?_;rintro e w1 ⟨r,rfl,hs⟩;have S1:=hid hs;clear hs;go_wp2_with fail
 refine (Open_L (ns:=[fileN nmS]) S1.out nmS nmS_ok rfl rfl (fun _=>rfl) (by decide) (by simp) (by simp)).mono ?_;rintro e w2 ⟨x0,rfl,hs,hc,hC,hF,hnm,_,hw,hby⟩;have S2:=hid hs;have C2:=hid hc;have HC:=hid hC;have HF:=hid hF;have HN:=hid hnm;have HW:=hid hw;clear hs hc hC hF hnm hw hby S1;go_wp2_with fail
 have S2b:Hid (SW w.heap.size w (x0.obs []) (w2.alloc (Obj.cells #[Value.int .u8 97,Value.int .u8 98] 5 (2,3)))):=S2.out.alloc _;refine (PutN_L S2b.out C2.out _ 2 bAB (rs_const w2 _ rfl bAB (2,3)) (by decide) (by decide) (by rw [HC.out];rfl) (by rw [HC.out];decide)).mono ?_;rintro e w3 ⟨rfl,d,hs,hc⟩;have S3:=hid hs;have C3:=hid hc;clear hs hc S2b S2 C2;rw [show fpOf bAB=iAB from rfl] at *; obtain ⟨x1,HX⟩:∃ x1,Hid (putS x0 iAB d bAB=x1):=⟨_,rfl⟩;rw [HX.out] at S3 C3;have hps:x0.ps=x1.ps:=by rw [<- HX.out];rfl
 rw [hps];clear hps;go_wp2_with fail
 have S3b:=hid (((S3.out.newCell 31 #[.int .u64 iAB.1,.int .i64 iAB.2]).behind).alloc (Obj.cells #[Value.int .u8 97,Value.int .u8 98] 5 (2,3)));have hv1:valC x1 iAB=some bAB:=by rw [<- HX.out];exact (put_val x0 bAB d iAB).trans (if_pos rfl)
 refine (PutS_L S3b.out C3.out _ 2 bAB (rs_const (w3.alloc (Obj.cells #[.int .u64 iAB.1,.int .i64 iAB.2] 31)) _ (by simp) bAB (2,3)) (by decide) (by decide) hv1).mono ?_;rintro e w4 ⟨rfl,hs⟩;rw [show fpOf bAB=iAB from rfl];have S4:=hid (hs.alloc (Obj.cells #[.int .u64 iAB.1,.int .i64 iAB.2] 31));have HV1:=hid hv1;have hw1:x1.wait=1:=by rw [<- HX.out];simp [putS,HW.out]
 have hC1:x1.C=[(iAB,.pend d bAB)]:=by rw [<- HX.out];simp [putS,HC.out,setL]
 have hF1:x1.F=none:=by rw [<- HX.out];exact HF.out
 have hdA:=(C3.out.pA iAB d bAB (by rw [hC1];simp)).1;have hpn:pends x1.C=[iAB]:=by rw [hC1];simp [pends,Pl.A,hdA]
 clear hs S3b hv1;have HP:=hid (Pending_L S4.out 1 hw1);have HFL:=hid (Flush_L S4.out C3.out (by rw [hpn];simp) (by rw [hpn,hF1];simp [flen,frSum];decide));have HW1:=hid hw1;have HC1:=hid hC1;have HF1:=hid hF1;clear hw1 hC1 hF1 hdA hpn;go_wp2_with (first | (go_at_call 29;(with_reducible refine HP.out.mono ?_);rintro e w5 ⟨rfl,rfl⟩) | (go_at_call 35;(with_reducible refine HFL.out.mono ?_);refine halt_ ?_))
 rintro e w5 ⟨rfl,x2,hs,hc,hfl⟩;rw [<- hfl.ps];have S5:=hid hs;have C5:=hid hc;have hv2:valC x2 iAB=some bAB:=(hfl.val iAB).trans HV1.out;have HV2:=hid hv2;have HP2:=hid (Pending_L S5.out 0 hfl.wait);have HFL2:=hid hfl;have HG:=hid (Get_L S5.out C5.out iAB iAB_ok bAB hv2);have k0:w5.cell? ⟨w3.heap.size,0,none⟩=some (.int .u64 iAB.1):=(S5.out.cell 4 rfl).cell 0;have k1:w5.cell? ⟨w3.heap.size,1,none⟩=some (.int .i64 iAB.2):=(S5.out.cell 4 rfl).cell 1;clear hs hc hfl hv2 HP HFL;go_wp2_with (first | (go_at_call 29;(with_reducible refine HP2.out.mono ?_);rintro e w6 ⟨rfl,rfl⟩) | (go_at_call 30;(with_reducible refine HG.out.mono ?_);refine halt_ ?_))
 rintro e w6 ⟨d1,rfl,hs⟩;have S6:=hid hs;have k0:w6.cell? ⟨w3.heap.size,0,none⟩=some (.int .u64 iAB.1):=(S6.out.cell 5 rfl).cell 0;have k1:w6.cell? ⟨w3.heap.size,1,none⟩=some (.int .i64 iAB.2):=(S6.out.cell 5 rfl).cell 1;clear hs HP2 HG;go_wp2_with fail
 have S7:=hid ((S6.out.newIds2 iAB (1,1)).behind)
 have has2:∀ i,(asc x2.C i).isSome=decide (iAB=i):=fun i=>by
  rw [HFL2.out.has i,HC1.out];simp only [asc];by_cases e:iAB=i<;>simp [e]
 have hone:goneL x2.C [iAB,(1,1)]=[(iAB,true)]:=by
  have h1:=has2 iAB;have h2:=has2 (1,1);rw [decide_eq_true rfl] at h1;rw [decide_eq_false iAB_ne] at h2;simp [goneL,gstep,h1,h2,setL]
 refine (Rem_L S7.out C5.out _ 2 [iAB,(1,1)] (by simp) (fun i hi=>?_) (by simp)).mono ?_
 · simp only [List.mem_cons,List.not_mem_nil,or_false] at hi;rcases hi with rfl | rfl
   · exact iAB_ok
   exact okID_of (by decide) (by decide) (by decide) (by decide)
 rintro e w7 ⟨he,x3,hs,hc,hgn⟩;rw [hone] at he;subst he;rw [<- hgn.ps];have S8:=hid hs;have C8:=hid hc
 have hno:asc x3.C iAB=none:=by
  have:=hgn.has iAB;cases hx:asc x3.C iAB with
  | none=>rfl
  | some v=>rw [hx] at this;simp at this
 have k0:w7.cell? ⟨w3.heap.size,0,none⟩=some (.int .u64 iAB.1):=(S8.out.cell 6 rfl).cell 0;have k1:w7.cell? ⟨w3.heap.size,1,none⟩=some (.int .i64 iAB.2):=(S8.out.cell 6 rfl).cell 1;have HG:=hid (GetN_L S8.out C8.out iAB iAB_ok hno);clear hs hc hgn hno hone has2;go_wp2_with (go_at_call 30;(with_reducible refine HG.out.mono ?_);refine halt_ ?_)
 rintro e w8 ⟨d2,rfl,hs⟩;have S9:=hid hs;have v1:=conv_rb (S9.out.get 6 (o:=bufOb d1 bAB) rfl);clear hs HG k0 k1;go_wp2_with fail
 go_ret;exact ⟨rfl,S9.out.2⟩
section
variable {ns:List ByteArray} {b:Nat} {w0 w w':World} {l:List Ob} {x:SR}
theorem New_S (h:SW b w0 l w):Calls Tryz.prog 21 #[] w (fun e w'=>∃ r,e= .returned (vPtr (w.heap.size+2))/\SW b w0 (devOb (w.heap.size+2) r St.new::l) w'):=by
 refine (New_any w).mono ?_;rintro e w' ⟨rfl,hd,hb⟩;refine ⟨_,rfl,h.addN hb hd (fun i hi=>⟨?_,hd.own_lt hi⟩) (fun i hi=>⟨?_,hd.reads_lt hi⟩)⟩
 · rcases hi with hi | ⟨q,hq,rfl⟩
   · rcases hi with rfl | rfl | rfl | hi
     · omega
     · exact Nat.le_refl _
     · exact Nat.le_succ _
     cases hi
   cases hq
 obtain ⟨d,hd,_⟩:=hi;rcases hd with ⟨_,he,_⟩ | ⟨_,he,_⟩ | ⟨_,he,_⟩<;>cases he
theorem IDs_S (h:SW b w0 (x.obs l) w) (hn:x.C.length<=49):Calls Tryz.prog 28 #[vPtr x.ps] w (fun e w'=>∃ A c ys,e= .returned (.slice A ys.length c)/\ys.Perm (x.C.map (·.1))/\SortedI ys/\SW b w0 (riOb A ys::x.obs l) w'):=by
 refine (IDs_anyC h.1 hn).mono ?_;rintro e w' ⟨A,c,ys,rfl,hp,hs,hr,hb,hc⟩;have e:x.C.filter (fun c=>(fun _=>true) c.2)=x.C:=List.filter_eq_self.2 (fun _ _=>rfl);rw [e] at hp;refine ⟨A,c,ys,rfl,hp,hs,h.addN hb ⟨hr.1,fun ad e=>?_⟩ (fun i hi=>hi.elim) (fun i hi=>?_)⟩
 · obtain ⟨g,e1,h1,h2,h3⟩:=hr.2 ad e;exact ⟨g,e1,h1,h3⟩
 obtain ⟨g,e1,h1,h2,h3⟩:=hr.2 _ hi;injection e1 with e1;rw [e1];exact ⟨h2,h3⟩
end
end
end Go.Proofs.YteabgcollokgjaaGreatDoor
