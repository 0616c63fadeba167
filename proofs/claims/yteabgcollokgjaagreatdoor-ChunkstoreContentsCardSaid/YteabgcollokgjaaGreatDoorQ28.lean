/- Q -/
import Derived.Test.YteabgcollokgjaaGreatDoorQ27
import Derived.Sort.OwnSortedInts
import Derived.Laws.Cells
set_option linter.unusedSimpArgs false
set_option linter.unusedVariables false
set_option maxRecDepth 100000
set_option maxHeartbeats 32000000
open Go.Lib renaming hid → kh
open List renaming mem_cons_of_mem → zA,length_append → zB,map_cons → zC,length_cons → zD,append_assoc → zE
open Nat renaming le_refl → zF
namespace Go.Proofs.YteabgcollokgjaaGreatDoor
section
open Go.RowKit Go.MapKept Go.ChangeMaps Go.Shelf Go.Sort
theorem set_self {α:Type}:∀ (L:List α) (i:Nat) (v:α),L[i]? =some v->L.set i v=L
 | [],_,_,h=>by simp at h
 | x::L,0,v,h=>by
  have h:x=v:=by simpa using h
  rw [List.set_cons_zero,h]
 | x::L,i+1,v,h=>by rw [List.set_cons_succ,set_self L i v (by simpa using h)]
section
variable {b:Nat} {w0 w w':World} {l t:List Ob} {o o':Ob}
theorem pair_all {l:List Ob} (h:l.Pairwise Apart) {x y:Ob} (hx:x∈l) (hy:y∈l) (hne:x≠y):Apart x y:=by
 induction l with
 | nil=>cases hx
 | cons z l ih=>
  obtain ⟨h1,h2⟩:=List.pairwise_cons.1 h;rcases List.mem_cons.1 hx with rfl | hx
  · rcases List.mem_cons.1 hy with rfl | hy
    · exact absurd rfl hne
    exact h1 y hy
  rcases List.mem_cons.1 hy with rfl | hy
  · exact (h1 x (by assumption)).symm
  exact ih h2 (by assumption) (by assumption)
theorem SW.asRead (h:SW b w0 (o::t) w) (hh:o'.holds w) (ho:∀ i,¬ o'.own i) (hr:∀ i,o'.rd i->o.own i):SW b w0 (o'::t) w:=by
 have ha:=List.pairwise_cons.1 h.1.apart;refine ⟨⟨h.1.base,fun y hy=>?_,fun y hy i hi=>?_,fun y hy i hi=>?_,List.pairwise_cons.2 ⟨fun y hy=>⟨fun i hi=>absurd hi (ho i),fun i hi hr'=>?_⟩,ha.2⟩⟩,h.2⟩
 · rcases List.mem_cons.1 hy with rfl | hy
   · exact hh
   exact h.1.holds y (zA _ hy)
 · rcases List.mem_cons.1 hy with rfl | hy
   · exact absurd hi (ho i)
   exact h.1.own y (zA _ hy) i hi
 · rcases List.mem_cons.1 hy with rfl | hy
   · exact (h.1.own _ (List.mem_cons_self ..) i (hr i hi)).2
   exact h.1.rd y (zA _ hy) i hi
 exact ((ha.1 y hy).1 i (hr i hr')).1 hi
theorem SW.also (h:SW b w0 l w) (hh:o'.holds w) (ho:∀ i,¬ o'.own i) (hlt:∀ i,o'.rd i->i<w.heap.size) (hr:∀ i,o'.rd i->∀ y∈l,¬ y.own i):SW b w0 (o'::l) w:=by
 refine ⟨⟨h.1.base,fun y hy=>?_,fun y hy i hi=>?_,fun y hy i hi=>?_,List.pairwise_cons.2 ⟨fun y hy=>⟨fun i hi=>absurd hi (ho i),fun i hi hr'=>hr i hr' y hy hi⟩,h.1.apart⟩⟩,h.2⟩
 · rcases List.mem_cons.1 hy with rfl | hy
   · exact hh
   exact h.1.holds y hy
 · rcases List.mem_cons.1 hy with rfl | hy
   · exact absurd hi (ho i)
   exact h.1.own y hy i hi
 rcases List.mem_cons.1 hy with rfl | hy
 · exact hlt i hi
 exact h.1.rd y hy i hi
theorem SW.noOwn (h:SW b w0 l w) (ho:o∈l) (hn:∀ i,¬ o.own i) {i:Nat} (hi:o.rd i):∀ y∈l,¬ y.own i:=fun y hy hw=>by
 by_cases e:y=o
 · subst e;exact hn i hw
 exact ((pair_all h.1.apart hy ho e).1 i hw).2 hi
theorem few_rest (idx:List Nat) (n:Nat) (hd:idx.Nodup) (hl:∀ i∈idx,i<n):∃ rest:List Nat,(idx++rest).Perm (List.range n):=by
 refine ⟨(List.range n).filter (fun i=> !idx.contains i),?_⟩;refine (List.perm_ext_iff_of_nodup ?_ List.nodup_range).2 (fun i=>?_)
 · refine List.nodup_append.2 ⟨hd,List.nodup_range.filter _,fun a ha c hc e=>?_⟩;subst e;have:=(List.mem_filter.1 hc).2;simp [ha] at this
 simp only [List.mem_append,List.mem_filter,List.mem_range];constructor
 · rintro (h1 | h1)
   · exact hl i h1
   exact h1.1
 intro h1;by_cases e:i∈idx
 · exact .inl e
 exact .inr ⟨h1,by simp [e]⟩
theorem SW.few {pre t:List Ob} (h:SW b w0 (pre++t) w) (idx:List Nat) {n:Nat} (hn:pre.length=n) (hd:idx.Nodup) (hl:∀ i∈idx,i<n):SW b w0 (idx.filterMap (fun i=>pre[i]?)++t) w:=by
 obtain ⟨rest,hp⟩:=few_rest idx n hd hl;have h1:=h.front (idx++rest) hn hp;rw [List.filterMap_append,zE] at h1;refine h1.sub ?_;exact (List.Sublist.refl _).append (List.sublist_append_right _ _)
end
section
variable {b:Nat} {w0 w w':World} {l t:List Ob}
theorem SW.rowRi {A:Option Addr} {cap:Nat} {F:List ID} (h:SW b w0 (rowOb 31 2 (.slice A F.length cap) F.length (F.flatMap encID)::t) w):SW b w0 (riOb A F::t) w:=by
 have hh:w.ownsRow 0 31 2 (.slice A F.length cap) F.length (F.flatMap encID):=h.get 0 (o:=rowOb 31 2 (.slice A F.length cap) F.length (F.flatMap encID)) rfl;refine h.asRead (o':=riOb A F) ?_ (fun i hi=>hi) (fun i hi=>?_)
 · by_cases hF:F.length=0
   · have hF':F=[]:=List.eq_nil_of_length_eq_zero hF;subst hF';refine ⟨fun _=>rfl,fun ad e=>?_⟩;rcases hh.2 with ⟨hv,_⟩ | ⟨g,cap',cur,hv,_⟩
     · injection hv with hv;rw [e] at hv;cases hv
     subst e;injection hv with h1;injection h1 with h1;subst h1;obtain ⟨_,h2,h3,_⟩:=own_rowI hh;exact ⟨g,rfl,h2,h3⟩
   obtain ⟨g,c',e⟩:=own_some hh hF;injection e with e1 e2 e3;subst e1;obtain ⟨_,h2,h3,_⟩:=own_rowI hh;exact ⟨(fun e=>by cases e),fun ad e=>by injection e with e;exact ⟨g,e.symm,h2,h3⟩⟩
 have hi:A=some ⟨i,0,none⟩:=hi;show (Value.slice A F.length cap).ownBlock=some i;rw [hi];rfl
end
end
section
open Go.RowKit
theorem rplus_any (a b:Nat) (w:World) (ha:a<=2305843009213693951) (hb:b<=2305843009213693951):Calls Tryz.prog 186 #[.int .u64 (a:Int),.int .u64 (b:Int)] w fun e w'=>e= .returned (.int .u64 (((a+b) % pP:Nat):Int))/\w=w':=by
 by_cases h:a+b<2305843009213693951
 · have e1:Hid ((a+b) % pP=a+b):=Nat.mod_eq_of_lt h;have h':¬ (2305843009213693951<=(a:Int)+b):=by omega
   go_enter Tryz.func186,Tryz.ntmps186;go_wp2
   go_ret;exact rint_u (q:=a+b) e1.out rfl
 have h':2305843009213693951<=(a:Int)+b:=by omega
 by_cases h2:a+b-2305843009213693951<2305843009213693951
 · have e1:Hid ((a+b) % pP=a+b-2305843009213693951):=by
    rw [Hid,Nat.mod_eq_sub_mod (by unfold pP;omega)];exact Nat.mod_eq_of_lt (by unfold pP;omega)
   have h2':¬ (2305843009213693951<=(a:Int)+b-2305843009213693951):=by omega
   obtain ⟨r,hr⟩:∃ r,r=(a+b) % pP:=⟨_,rfl⟩;rw [<- hr];have E2:Hid (((r:Nat):Int)=(a:Int)+b-2305843009213693951):=by rw [Hid,hr,e1.out];omega
   clear hr e1;go_enter Tryz.func186,Tryz.ntmps186;go_wp2
   go_ret;rw [E2.out];exact ⟨rfl,rfl⟩
 obtain rfl:a=2305843009213693951:=by omega
 obtain rfl:b=2305843009213693951:=by omega
 obtain ⟨r,hr⟩:∃ r,r=(2305843009213693951+2305843009213693951) % pP:=⟨_,rfl⟩
 have hr0:r=0:=by
  rw [hr];unfold pP;omega
 rw [<- hr,hr0];clear hr hr0;go_enter Tryz.func186,Tryz.ntmps186;go_wp2
 go_ret;exact ⟨rfl,rfl⟩
theorem rmul_lo (m:Nat):bits .and .u64 ((m:Int) % 18446744073709551616) 2305843009213693951=((m % 18446744073709551616 % 2305843009213693952:Nat):Int):=by
 have e:(m:Int) % 18446744073709551616=((m % 18446744073709551616:Nat):Int):=by omega
 rw [e,mask61 _ (Nat.mod_lt _ (by omega))]
theorem rmul_any (a b:Nat) (w:World) (ha:a<2305843009213693951) (hb:b<2305843009213693951):Calls Tryz.prog 187 #[.int .u64 (a:Int),.int .u64 (b:Int)] w fun e w'=>e= .returned (.int .u64 (((a*b) % pP:Nat):Int))/\w=w':=by
 have HP:=kh (prod_lt ha hb);go_enter Tryz.func187,Tryz.ntmps187;go_wp2_with (first | (go_at_call 185;refine (Tryz.bits_Mul64 a b (by omega) (by omega) _).mono ?_;rintro e w' ⟨rfl,hw⟩;rw [hw]) | (go_at_call 186;refine halt_q ?_))
 have e1:=rmul_lo (a*b);have e2:=mul_hi (a*b) HP.out;rw [Int.natCast_mul] at e1 e2;rw [e2,e1];have hh:=mul_high _ HP.out;refine (rplus_any (a*b % 18446744073709551616 % 2305843009213693952) (a*b / 18446744073709551616*8+a*b % 18446744073709551616 / 2305843009213693952) w (by omega) (by omega)).mono ?_;rintro e w' ⟨rfl,rfl⟩;rw [mul_words _ HP.out];clear e1 e2 hh;go_wp2_with fail
 go_ret;exact ⟨rfl,rfl⟩
theorem rSum_any (A:Option Addr) (c:Nat) (bs:List UInt8) (w:World) (h:RS w A bs) (hn:bs.length<=1099511627776):Calls Tryz.prog 148 #[.slice A bs.length c] w fun e w'=>e= .returned (.int .u64 ((fpSum bs:Nat):Int))/\Below w.heap.size w w':=by
 have H:=kh h;clear h;go_enter Tryz.func148,Tryz.ntmps148;go_wp2_with fail
 go_loopw [3,4] (fun v i wr=>∃ (k:Nat),k<=bs.length/\i= .int .i64 k/\v= .int .u64 ((fpSum (bs.take k):Nat):Int)/\Below w.heap.size w wr) (fun _ i _=>bs.length-(intOf i).toNat)
 case atStart=>exact ⟨0,Nat.zero_le _,rfl,by rw [List.take_zero,fpSum_nil];rfl,Below.refl _ _⟩
 obtain ⟨k,hk,rfl,rfl,hbl⟩:=hrel;have HB:=kh hbl;have HR:=kh (H.out.on hbl);clear hbl;by_cases hlt:k<bs.length
 · cases A with
   | none=>exact absurd (H.out.1 rfl) (by omega)
   | some ad=>
    obtain ⟨g,o,rfl,hc⟩:=HR.out.2 ad rfl;have hcl:wr.cell? ⟨g,o+k,none⟩=some (.int .u8 (((bs.getD k 0).toNat:Nat):Int)):=hc k hlt;have HT:Hid ((fpSum (bs.take k)*747382712868975713 % pP+((bs.getD k 0).toNat+1)) % pP=fpSum (bs.take (k+1))):=by rw [Hid,take_snocU bs k hlt, <- fp_byte]
    have hf:=fpSum_lt (bs.take k);have HF:Hid (fpSum (bs.take k)<pP):=hf;clear hc hf;generalize hx:bs.getD k 0=x at *; have hx2:=x.toNat_lt;have HX:=kh hx;clear hx;generalize fpSum (bs.take k)=sm at *; generalize hs':fpSum (bs.take (k+1))=sm' at *; have HS:=kh hs';clear hs';have hm:=fun w=>rmul_any sm 747382712868975713 w HF.out (by omega);have hmt:sm*747382712868975713 % pP<pP:=Nat.mod_lt _ pP_pos;generalize sm*747382712868975713 % pP=t at *; have ha:=fun w=>rplus_any t (x.toNat+1) w (by unfold pP at hmt;omega) (by omega);rw [HT.out] at ha;simp only [Int.natCast_add,Int.natCast_one] at ha;have HM:Hid (∀ w,Calls Tryz.prog 187 #[.int .u64 ((sm:Nat):Int),.int .u64 747382712868975713] w fun e w'=>e= .returned (.int .u64 ((t:Nat):Int))/\w'=w):=fun w=>(hm w).mono fun _ _ h=>⟨h.1,h.2.symm⟩;have HA:Hid (∀ w,Calls Tryz.prog 186 #[.int .u64 ((t:Nat):Int),.int .u64 (((x.toNat:Nat):Int)+1)] w fun e w'=>e= .returned (.int .u64 ((sm':Nat):Int))/\w'=w):=fun w=>(ha w).mono fun _ _ h=>⟨h.1,h.2.symm⟩;clear hm ha hmt;go_wp2_with fail
    go_quiet ((first | (go_at_call 187;exact Calls.quiet_of_same (HM.out _)) | (go_at_call 186;exact Calls.quiet_of_same (HA.out _))))
    go_wp2_with fail
    go_roundw
    case rel=>exact ⟨k+1,by omega,by go_num,by rw [HS.out],bdrewN HB.out _⟩
    simp [intOf];omega
 obtain rfl:k=bs.length:=by omega
 rw [List.take_length];go_wp2_with fail
 go_ret;exact ⟨rfl,HB.out⟩
theorem rOf_any (A:Option Addr) (c:Nat) (bs:List UInt8) (w:World) (h:RS w A bs) (hn:bs.length<=1099511627776):Calls Tryz.prog 94 #[.slice A bs.length c] w fun e w'=>e= .returned (.agg #[.int .u64 (fpOf bs).1,.int .i64 (fpOf bs).2])/\Below w.heap.size w w':=by
 have H:=kh (fun W (hW:RS W A bs)=>rSum_any A c bs W hW hn);have H1:=kh (h.on ((Below.refl _ w).alloc (zF _) (.cells #[.int .u64 0,.int .i64 0] 31)));have B1:Hid (IsB (w.alloc (.cells #[.int .u64 0,.int .i64 0] 31)) w.heap.size 31 #[.int .u64 0,.int .i64 0]):=IsB.new _ _ _;clear h;simp only [fpOf];generalize fpSum bs=sm at *; go_enter Tryz.func94,Tryz.ntmps94;go_wp2_with (go_at_call 148;refine (H.out _ H1.out).mono ?_;rintro e w' ⟨rfl,hb⟩;have HB:=kh hb;have hc0:=(B1.out.on hb).cell 0;have hc1:=(B1.out.on hb).cell 1;have hf0:=(B1.out.on hb).frozen 0;have hf1:=(B1.out.on hb).frozen 1;clear hb)
 refine bodyPost_ret (v:=.agg #[.int .u64 ((sm:Nat):Int),.int .i64 ((bs.length:Nat):Int)]) ?_ rfl ⟨rfl,?_⟩
 · simp [results,Tryz.results94,go_sem,hc0,hc1]
 exact ((((Below.refl _ w).alloc (zF _) _).trans (HB.out.mono (by simp))).setCell (p:=⟨w.heap.size,0,none⟩) (zF _) _).setCell (p:=⟨w.heap.size,1,none⟩) (zF _) _
end
section
open Go.RowKit Go.MapKept Go.ChangeMaps Go.Shelf Go.Sort
attribute [local go_sem] wext_cell
def RowV (w:World) (t:TypeId) (sz:Nat) (A:Option Addr) (n:Nat) (xs:List Value):Prop:=
 xs.length=n*sz/\(n=0∨∃ g cur,A=some ⟨g,0,none⟩/\IsB w g t cur/\cur.toList.take (n*sz)=xs)
section
variable {w w':World} {t:TypeId} {sz:Nat} {A:Option Addr} {n:Nat} {xs:List Value}
theorem RowV.same (h:RowV w t sz A n xs) (hk:∀ i,0<n->A=some ⟨i,0,none⟩->w'.heap[i]? =w.heap[i]?):RowV w' t sz A n xs:=by
 refine ⟨h.1,?_⟩;rcases h.2 with h2 | ⟨g,cur,e,hi,hx⟩
 · exact .inl h2
 by_cases hn:n=0
 · exact .inl hn
 exact .inr ⟨g,cur,e,(hk g (by omega) e).trans hi,hx⟩
theorem RowV.lt (h:RowV w t sz A n xs) {i:Nat} (hn:0<n) (e:A=some ⟨i,0,none⟩):i<w.heap.size:=by
 rcases h.2 with h2 | ⟨g,cur,e2,hi,_⟩
 · omega
 rw [e] at e2;injection e2 with e2;injection e2 with e2;rw [e2];exact hi.lt
theorem RowV.at (h:RowV w t sz A n xs) (hn:0<n):∃ g,A=some ⟨g,0,none⟩/\g<w.heap.size/\∀ j,j<n*sz->w.cell? ⟨g,j,none⟩=xs[j]? :=by
 rcases h.2 with h2 | ⟨g,cur,e2,hi,hx⟩
 · omega
 refine ⟨g,e2,hi.lt,fun j hj=>?_⟩;rw [hi.cell, <- hx,List.getElem?_take_of_lt hj,Array.getElem?_toList]
theorem RowV.of_own {c:Nat} (h:w.ownsRow 0 t sz (.slice A n c) n xs):RowV w t sz A n xs/\n<=c:=by
 refine ⟨⟨h.1,?_⟩,?_⟩
 · rcases h.2 with ⟨hv,h2⟩ | ⟨g,cap,cur,hv,_,hh,hc1,hcs,hcs2,htk⟩
   · exact .inl h2
   injection hv with e1 e2 e3;exact .inr ⟨g,cur,e1,hh,htk⟩
 rcases h.2 with ⟨hv,h2⟩ | ⟨g,cap,cur,hv,_,hh,hc1,hcs,hcs2,htk⟩
 · omega
 injection hv with e1 e2 e3;omega
end
theorem SW.start {w:World} {o:Ob} (h:o.holds w) (ho:∀ i,¬ o.own i) (hr:∀ i,o.rd i->i<w.heap.size):SW w.heap.size w [o] w:=
 (SW.refl (Sep.nil w (zF _))).also h ho hr (fun _ _ y hy=>by cases hy)
theorem SW.fuse {b:Nat} {w0 w:World} {pre t:List Ob} {o':Ob} (h:SW b w0 (pre++t) w) (hh:o'.holds w) (ho:∀ i,¬ o'.own i) (hr:∀ i,o'.rd i->∃ o∈pre,o.own i∨o.rd i):SW b w0 (o'::t) w:=by
 obtain ⟨_,hpt,hap⟩:=List.pairwise_append.1 h.1.apart;refine ⟨⟨h.1.base,fun y hy=>?_,fun y hy i hi=>?_,fun y hy i hi=>?_,List.pairwise_cons.2 ⟨fun y hy=>⟨fun i hi=>absurd hi (ho i),fun i hi hr'=>?_⟩,hpt⟩⟩,h.2⟩
 · rcases List.mem_cons.1 hy with rfl | hy
   · exact hh
   exact h.1.holds y (List.mem_append_right _ hy)
 · rcases List.mem_cons.1 hy with rfl | hy
   · exact absurd hi (ho i)
   exact h.1.own y (List.mem_append_right _ hy) i hi
 · rcases List.mem_cons.1 hy with rfl | hy
   · obtain ⟨o,hm,h1 | h1⟩:=hr i hi
     · exact (h.1.own o (List.mem_append_left _ hm) i h1).2
     exact h.1.rd o (List.mem_append_left _ hm) i h1
   exact h.1.rd y (List.mem_append_right _ hy) i hi
 obtain ⟨o,hm,h1 | h1⟩:=hr i hr'
 · exact ((hap o hm y hy).1 i h1).1 hi
 exact (hap o hm y hy).2 i hi h1
end
section
open Go.RowKit Go.MapKept Go.ChangeMaps Go.Shelf Go.Sort
theorem append_zero_run (w:World) (t ty e:TypeId) (i:TypeInfo) (size:Nat) (ht:Tryz.prog.underlying t=some (.slice e)) (hi:Tryz.prog.info? e=some i)
 (v:Value) (n:Nat) (xs:List Value) (hown:w.ownsRow 0 e size v n xs) (A:Option Addr) (c:Nat):(Builtin.append_ #[t,t] ty #[v,.slice A 0 c]).run Tryz.prog w= .ok v w:=by
 rcases hown.2 with ⟨rfl,rfl⟩ | ⟨g,cap,cur,rfl,_,_,hnc,_⟩
 · cases A with
   | none=>simp [Builtin.append_,run_underlying ht,sizeOf,typeInfo,hi,Builtin.lenOf,Builtin.firstCells]
   | some ad=>
    have h0:=run_loadCells_list (P:=Tryz.prog) w ad [] (fun j v hj=>by simp at hj);simp only [List.length_nil] at h0;simp [Builtin.append_,run_underlying ht,sizeOf,typeInfo,hi,Builtin.lenOf,Builtin.firstCells,h0]
 cases A with
 | none=>simp [Builtin.append_,run_underlying ht,sizeOf,typeInfo,hi,Builtin.lenOf,Builtin.firstCells,hnc,storeCells]
 | some ad=>
  have h0:=run_loadCells_list (P:=Tryz.prog) w ad [] (fun j v hj=>by simp at hj);simp only [List.length_nil] at h0;simp [Builtin.append_,run_underlying ht,sizeOf,typeInfo,hi,Builtin.lenOf,Builtin.firstCells,hnc,h0,storeCells]
section
variable {b:Nat} {w0 w w':World} {l:List Ob}
theorem step_rowM {ops:Array Oper} {o:Oper} {a:Act} {K:Act->World->Prop} {Q:Exit->Act->World->Prop} {E:Prop} {t e:TypeId} {i:TypeInfo} {z:Value} {size bytes:Nat} (hS:SW b w0 l w) (k:Nat) {v:Value} {n:Nat} {xs:List Value} (hk:l[k]? =some (rowOb e size v n xs))
 (hgd:o.guard=none) (s x:Operand) (ho:o.op= .call { callee:=.builtin .append,args:= #[s,x],argTypes:= #[t,t] })
 (ht:Tryz.prog.underlying t=some (.slice e)) (hi:Tryz.prog.info? e=some i) (hz:i.zero=some z) (hsize:i.size=size) (hby:i.bytes=bytes) (hzs:z.cells.size=size) (hsz:0<size)
 (hs:a.eval s=v) (A:Option Addr) (m c:Nat) (news:List Value) (hx:a.eval x= .slice A m c) (hl:news.length=m*size) (hA:0<m->∃ ad,A=some ad/\∀ j u,news[j]? =some u->w.cell? (ad.add j)=some u) (h1:∀ u∈news,u.oneCell'=true)
 (h63:n+m<=maxLen) (hbytes:(n+m)*bytes<=140737488355328)
 (h:∀ v' w',SW b w0 (l.set k (rowOb e size v' (n+m) (xs++news))) w'->K (a.put o.dst v') w'):
 if Region.wanted o (yielded ops a.tmps)=true then Oper.wp Tryz.prog o a w K Q else E:=by
 rcases Nat.eq_zero_or_pos m with rfl | hm
 · have hw:Region.wanted o (yielded ops a.tmps)=true:=by simp [Region.wanted,hgd]
   rw [if_pos hw];have hn:news=[]:=List.eq_nil_of_length_eq_zero (by simpa using hl);subst hn;have hrun:=append_zero_run w t o.type e i size ht hi v n xs (hS.get k hk) A c;unfold Oper.wp execOp;simp only [ho,resolve,invoke,builtin,Sem.run_bind,Sem.run_pure,Result.andThen_ok,List.map_toArray,zC,List.map_nil,hs,hx,hrun];refine h v w ?_
   have e:l.set k (rowOb e size v (n+0) (xs++[]))=l:=by
    rw [List.append_nil];exact set_self l k _ hk
   rw [e];exact hS
 obtain ⟨ad,rfl,hnews⟩:=hA hm;exact step_append_row hgd s x t ho e i z size bytes ht hi hz hsize hby hzs hsz v n xs hs (hS.get k hk) ad m c news hx hl hnews h1 hm h63 hbytes (fun v' w' h2 hg hv=>h v' w' (hS.row k hk h2 hg hv))
end
section
variable {w:World} (t e:TypeId) (sz:Nat) (A:Option Addr) (n c i:Nat)
theorem elem_of (ht:Tryz.prog.underlying t=some (.slice e)):Tryz.prog.elem t=e:=by
 simp [Program.elem,ht]
end
end
section
open Go.RowKit Go.MapKept Go.ChangeMaps Go.Shelf Go.Sort
attribute [local go_sem] wext_cell
theorem atoi49:Lib.atoi [49]=some 1:=by kernel_rfl
theorem atoi1 (w:World):Calls Tryz.prog 132 #[.string ⟨#[49]⟩] w (fun e w'=>e= .returned (.tuple #[.int .i64 1,.nilIface])/\Below w.heap.size w w'):=
 (Any.strconv_Atoi Tryz.atoiC.toM.ton172 ⟨#[49]⟩ 1 (by show 1<=18;omega) atoi49 w).mono (by
   rintro e w' ⟨rfl,t,rfl⟩;exact ⟨rfl,Lib.bytesWorld_below _ _ _⟩)
theorem cutPre (nm:ByteArray) (w:World):Calls Tryz.prog 131 #[.string (fileN nm),.string (nm++⟨#[46]⟩)] w (fun e w'=>e= .returned (.tuple #[.string ⟨#[49]⟩,.bool true])/\w=w'):=by
 have hf:(fileN nm).data.toList=(nm++⟨#[46]⟩:ByteArray).data.toList++[49]:=by
  unfold fileN;rw [ByteArray.data_append,Array.toList_append]
 have h1:Lib.hasPrefix (fileN nm).data.toList (nm++⟨#[46]⟩:ByteArray).data.toList=true:=by
  unfold Lib.hasPrefix;rw [hf];exact List.isPrefixOf_iff_prefix.2 (List.prefix_append _ _)
 have h2:Lib.trimPrefix (fileN nm).data.toList (nm++⟨#[46]⟩:ByteArray).data.toList=[49]:=by
  unfold Lib.trimPrefix;rw [if_pos h1,hf,List.drop_left]
 have h:=Tryz.strings_CutPrefix (fileN nm) (nm++⟨#[46]⟩) w;rw [h1,h2] at h;exact h.mono (fun e w' h=>⟨h.1,h.2.symm⟩)
theorem after_drew0 {W w5:World} {q:Nat} (h:w5=W.drewN q):Below W.heap.size W w5:=by
 subst h;exact bdrewN (Below.refl W.heap.size W) q
theorem cell_new (w:World) (t:TypeId) (v:Value):(w.alloc (.cells #[v] t)).cell? ⟨w.heap.size,0,none⟩=some v:=(IsB.new w t #[v]).cell 0
theorem one_at {w:World} {g:Nat} {v:Value} (h:w.cell? ⟨g,0,none⟩=some v):∀ j u,[v][j]? =some u->w.cell? ((⟨g,0,none⟩:Addr).add j)=some u:=fun j u hu=>by
 match j,hu with
 | 0,hu=>
  rw [lit_add,h];exact hu
theorem info3:(Tryz.prog.info? 3).map (fun i=>(i.zero,i.size,i.bytes))=some (some (.int .i64 0),1,8):=by kernel_rfl
section
variable {b:Nat} {w0 w:World} {l:List Ob} {x:SR}
theorem sort1 (h:SW b w0 l w) (k:Nat) {g c:Nat} {z:Int} (hk:l[k]? =some (rowOb 3 1 (.slice (some ⟨g,0,none⟩) 1 c) 1 [.int .i64 z])):Calls Tryz.prog 133 #[.slice (some ⟨g,0,none⟩) 1 c] w (fun e w'=>e= .returned (.tuple #[])/\SW b w0 l w'):=by
 have ho:w.ownsRow 0 3 1 (.slice (some ⟨g,0,none⟩) 1 c) 1 [.int .i64 z]:=h.get k hk;have hlt:=ho.lt g rfl;rcases ho.2 with ⟨h0,_⟩ | ⟨g',cap,cur,hv,hg0,hh,hc1,hcs,hcs2,htk⟩
 · cases h0
 injection hv with e1 e2 e3;injection e1 with e1;injection e1 with e1;subst e1;subst e3;have hH:Holds (Value.int .i64) w g 0 [z].toArray:=holds_of_blockI (ss:=[z]) hh (by simpa using htk);refine (Tryz.slices_Sort_int g 0 c [z] w hH hlt.2 (by simp)).mono ?_;rintro e w' ⟨rfl,n,os,rfl⟩;refine ⟨rfl,?_⟩;rw [List.mergeSort_singleton];have:=h.row k hk (ownsRow_sortedI (n:=n) (os:=os) (ss:=[z]) (ts:=[z]) rfl (Nat.zero_le g) hh hc1 hcs hcs2) (grownBy_sortedI [z].toArray) (.inl rfl)
 have e:l.set k (rowOb 3 1 (.slice (some ⟨g,0,none⟩) 1 c) 1 [.int .i64 z])=l:=by
  obtain ⟨hlt,hk⟩:=List.getElem?_eq_some_iff.1 hk;rw [<- hk,List.set_getElem_self]
 rw [<- e];exact this
end
end
section
open Go.RowKit Go.MapKept Go.ChangeMaps Go.Shelf Go.Sort
attribute [local go_sem] wext_cell
def SInv (C:Chs) (o:Nat):Prop:=LAt C/\C.length<=o/\∀ i∈C.map (·.1),okID i/\1<=i.2/\i.2<=4194304
theorem SInv.mono {C:Chs} {o o':Nat} (h:SInv C o) (ho:o<=o'):SInv C o':=⟨h.1,Nat.le_trans h.2.1 ho,h.2.2⟩
theorem SInv.set {C:Chs} {o:Nat} (h:SInv C o) {i:ID} (hi:okID i) (h1:1<=i.2) (h2:i.2<=4194304) {q:Nat} (hq:q<=4194304):SInv (setL C i (.at q)) (o+1):=by
 refine ⟨h.1.set i q hq,Nat.le_trans (setL_length _ _ _) (by have:=h.2.1;omega),fun j hj=>?_⟩;rcases (setL_keys C i (Pl.at q) j).1 hj with hj | hj
 · subst hj;exact ⟨hi,h1,h2⟩
 exact h.2.2 j hj
theorem SInv.found {C:Chs} {o:Nat} (h:SInv C o) {i:ID} (hi:okID i) (h1:1<=i.2) (h2:i.2<=4194304) {q:Nat} (hq:q<=4194304) (bs:List UInt8) (T:List (ID×Bool)):SInv (foundC bs C T i q).1 (o+1):=by
 unfold foundC;split
 · exact h.set hi h1 h2 hq
 · exact h.mono (by omega)
 simp only;split
 · exact h.set hi h1 h2 hq
 exact h.mono (by omega)
theorem scan_inv (bs:List UInt8) (hn:bs.length<=4194304):∀ (n o:Nat) (C:Chs) (T:List (ID×Bool)) (cl:Bool),o<=bs.length->SInv C o->SInv (scanF bs n o C T cl).1 bs.length:=by
 intro n;induction n with
 | zero=>intro o C T cl ho h;exact h.mono ho
 | succ n ih=>
  intro o C T cl ho h;rw [scanF];split
  · cases hr:rdHead bs o with
    | none=>exact ih _ _ _ _ (by omega) (h.mono (by omega))
    | some i=>
     simp only;split
     · exact h.mono ho
     rename_i h1
     obtain ⟨hid,h28⟩:=rdHead_some hr;have hok:okID i:=hid ▸ rdID_ok bs o;exact ih _ _ _ _ (by omega) ((h.found hok (by omega) (by omega) (by omega) bs T).mono (by omega))
  exact h.mono ho
theorem SW.unRange {b:Nat} {w0 w:World} {l:List Ob} (h:SW b w0 l w) (k:Nat) {cm r cnt:Nat} {C done:Chs} (hk:l[k]? =some (itOb cm r C done cnt)) (hC:∀ c∈C,∃ q,c.2=Pl.at q):SW b w0 (l.set k (chOb cm C)) w:=by
 have hr:RIs okID vID vPl w cm r C done cnt:=h.get k hk
 have hp:∀ id d bs,(id,Pl.pend d bs) ∉ C:=fun id d bs hm=>by
  obtain ⟨q,e⟩:=hC _ hm;cases e
 have:=h.1.stepAt k hk (w':=w) (o':=chOb cm C) ⟨rfl,rfl,rfl,zF _,fun _ _ _=>rfl,fun i hi=> .inl (.inl hi)⟩ (fun i hi=>by
  obtain ⟨id,d,bs,hm,_⟩:=hi;exact absurd hm (hp id d bs)) ⟨hr.map,fun id d bs hm=>absurd hm (hp id d bs)⟩ (fun i hi=>by
  rcases hi with hi | ⟨id,d,bs,hm,_⟩
  · have e:i=cm:=hi;rw [e];exact hr.map.lt
  exact absurd hm (hp id d bs))
 exact ⟨this.1,h.2.trans this.2⟩
theorem sizeC_snoc (C:Chs) (c:ID×Pl):sizeC (C++[c])=sizeC C+c.1.2:=by simp [sizeC]
theorem sizeC_perm {C D:Chs} (h:C.Perm D):sizeC C=sizeC D:=by
 induction h with
 | nil=>rfl
 | cons c _ ih=>
  simp only [sizeC,zC,List.sum_cons] at ih |-; rw [ih]
 | swap c d l=>
  simp only [sizeC,zC,List.sum_cons];omega
 | trans _ _ ih1 ih2=>exact ih1.trans ih2
theorem sizeC_le4 (D:Chs) (h:∀ c∈D,1<=c.1.2/\c.1.2<=4194304):0<=sizeC D/\sizeC D<=D.length*4194304:=by
 induction D with
 | nil=>simp [sizeC]
 | cons c D ih=>
  have h1:=ih (fun c hc=>h c (by simp [hc]));have h2:=h c (by simp);have h3:sizeC (c::D)=c.1.2+sizeC D:=by simp [sizeC]
  rw [h3,zD];omega
end
section
open Go.RowKit Go.MapKept Go.ChangeMaps Go.Shelf Go.Sort
theorem drop_at (a b:List UInt8) (n k:Nat) (h:a.length=n):(a++b).drop (n+k)=b.drop k:=by
 rw [<- h,List.drop_length_add_append]
theorem take_at (a b:List UInt8) (n:Nat) (h:a.length=n):(a++b).take n=a:=by
 rw [<- h,List.take_left]
theorem rdHead_at (pre rest:List UInt8) (i:ID) (h0:0<=i.1) (h1:i.1<18446744073709551616) (h2:0<=i.2) (h3:i.2<=9223372036854775807):rdHead (pre++(headB i 1 pre.length++rest)) pre.length=some i:=by
 have hl:(headB i 1 pre.length).length=28:=headB_len _ _ _;have hD:(pre++(headB i 1 pre.length++rest)).drop pre.length=headB i 1 pre.length++rest:=List.drop_left;have hu1:u64 i.1=i.1.toNat:=by unfold u64;omega
 have hu2:u64 i.2<18446744073709551616:=by unfold u64;omega
 have e4:(pre++(headB i 1 pre.length++rest)).drop (pre.length+4)=le8 (u64 i.2)++(le8 (u64 i.1)++(le8 (fpSum (headA i++putU (2*1)++putU (2*pre.length)))++rest)):=by
  rw [drop_at _ _ _ _ rfl];unfold headB headA;simp only [zE];exact drop_at markB _ 4 0 rfl
 have e12:(pre++(headB i 1 pre.length++rest)).drop (pre.length+12)=le8 (u64 i.1)++(le8 (fpSum (headA i++putU (2*1)++putU (2*pre.length)))++rest):=by
  have:pre.length+12=(pre.length+4)+8:=by omega
  rw [this, <- List.drop_drop,e4];exact drop_at (le8 (u64 i.2)) _ 8 0 (le8_len _)
 have hid:rdID (pre++(headB i 1 pre.length++rest)) pre.length=i:=by
  unfold rdID;rw [e4,e12,take_at _ _ 8 (le8_len _),take_at _ _ 8 (le8_len _),leN_le8 _ (by rw [hu1];omega),leN_le8 _ hu2,s64_u64 _ (by omega) h3,hu1];exact Prod.ext (by simp;omega) rfl
 unfold rdHead;rw [hid,if_pos];refine ⟨by simp only [zB];omega,?_⟩;rw [hD,take_at _ _ 28 hl]
theorem scan_lay (cs:List (List UInt8)):∀ (pre:List UInt8) (C:Chs) (n:Nat),(∀ c∈cs,1<=c.length/\c.length<=4194304)->(cs.map fpOf).Nodup->(∀ c∈cs,fpOf c ∉ C.map (·.1))->cs.length<=n->
 scanF (pre++layB pre.length cs) (n+1) pre.length C [] true=(C++layC pre.length cs,[],true):=by
 induction cs with
 | nil=>
  intro pre C n _ _ _ _;rw [scanF,if_neg (by simp [layB])];simp [layC]
 | cons c cs ih=>
  intro pre C n hc hn hC hl;have hc1:=hc c (by simp);have hfp:=fpSum_lt c;unfold pP at hfp
  have hrd:rdHead (pre++layB pre.length (c::cs)) pre.length=some (fpOf c):=by
   rw [layB,zE];exact rdHead_at pre _ (fpOf c) (by simp [fpOf]) (by simp only [fpOf];omega) (by simp [fpOf]) (by simp only [fpOf];omega)
  have hlen:(pre++layB pre.length (c::cs)).length=pre.length+(28+c.length+(layB (pre.length+28+c.length) cs).length):=by
   rw [layB];simp only [zB,headB_len]
  have hz:(fpOf c).2=(c.length:Int):=rfl;rw [scanF,if_pos (by rw [hlen];omega),hrd];simp only;rw [if_neg (by rw [hz,hlen];omega)]
  have ha:asc C (fpOf c)=none:=by
   cases ha:asc C (fpOf c) with
   | none=>rfl
   | some pl=>exact absurd (List.mem_map.2 ⟨_,mem_of_asc ha,rfl⟩) (hC c (by simp))
  have hf:foundC (pre++layB pre.length (c::cs)) C [] (fpOf c) pre.length=(C++[(fpOf c,.at pre.length)],[]):=by
   unfold foundC;rw [ha];simp only;rw [setL_new (hC c (by simp))]
  rw [hf];simp only;obtain ⟨m,rfl⟩:∃ m,n=m+1:=⟨n-1,by simp at hl;omega⟩
  have h2:=ih (pre++(headB (fpOf c) 1 pre.length++c)) (C++[(fpOf c,.at pre.length)]) m (fun d hd=>hc d (by simp [hd])) (List.nodup_cons.1 hn).2 (fun d hd=>by
   rw [List.map_append,List.mem_append];rintro (h | h)
   · exact hC d (by simp [hd]) h
   have e:fpOf d=fpOf c:=by simpa using h
   exact (List.nodup_cons.1 hn).1 (List.mem_map.2 ⟨d,hd,e⟩)) (by simp at hl;omega)
  have hpl:(pre++(headB (fpOf c) 1 pre.length++c)).length=pre.length+28+c.length:=by
   simp only [zB,headB_len];omega
  rw [hpl] at h2
  have e1:pre++layB pre.length (c::cs)=pre++(headB (fpOf c) 1 pre.length++c)++layB (pre.length+28+c.length) cs:=by
   rw [layB];simp only [zE]
  have e2:pre.length+(28+(fpOf c).2.toNat)=pre.length+28+c.length:=by rw [hz];omega
  rw [e2,e1,h2,layC];simp only [zE,List.singleton_append]
def tbytes (L:List Int) (n:Nat) (k:Int):Nat->List UInt8
 | 0=>[]
 | c+1=>tbytes L n k c++[UInt8.ofNat (tnext L (n+c) k).toNat]
theorem tbytes_len (L:List Int) (n:Nat) (k:Int):∀ c,(tbytes L n k c).length=c
 | 0=>rfl
 | c+1=>by rw [tbytes,zB,tbytes_len L n k c];rfl
theorem sb_const (w:World) (g:Nat) (hg:g=w.heap.size) (bs:List UInt8) (fr:Nat×Nat):SB (w.alloc (.cells (bs.map encU).toArray 5 fr)) (some ⟨g,0,none⟩) bs:=by
 subst hg;refine ⟨(fun e=>by cases e),fun ad e j u hu=>?_⟩;injection e with e;subst e;rw [lit_add,Nat.zero_add];have:(w.alloc (.cells (bs.map encU).toArray 5 fr)).heap[w.heap.size]? =some (.cells (bs.map encU).toArray 5 fr):=heap_alloc_new w _;rw [cell_of_row _ _ j _ _ _ this,List.getElem?_toArray];exact hu
theorem mk_slice (w:World) (n:Nat) (hn:n<=100000):∃ cs:Array Value,n<=cs.size/\(Instr.makeSlice 34 (.int .i64 0) (.int .i64 n)).run Tryz.prog w= .ok (.slice (some ⟨w.heap.size,0,none⟩) 0 n) (w.alloc (.cells cs 5)):=by
 obtain ⟨i0,hi,hz0,hz1,hz2⟩:=info_parts info5;have:=run_makeSlice (P:=Tryz.prog) w 34 5 i0 _ Tryz.underlying34 hi hz0 .i64 .i64 0 n (by omega) (by omega) (by rw [hz1];omega) (by rw [hz2];omega) (by omega);simp only [Int.toNat_zero,Int.toNat_natCast] at this;exact ⟨_,by rw [size_madeCells,hz1];omega,this⟩
section
variable {b:Nat} {w0 w w':World} {l:List Ob} {g:Nat} {A:Option Addr} {c:Nat} {L:List Int} {n:Nat}
theorem SW.newBuT {d:BD} {bs:List UInt8} (h:SW b w0 l w) (hb:Below w.heap.size w w') (hr:RB w' d bs) (hn:∀ g,blk d=some g->w.heap.size<=g):SW b w0 (bufOb d bs::l) w':=by
 have:=h.1.add (o':=bufOb d bs) hb hr (fun i hi=>⟨hn i hi,hr.lt hi⟩) (fun i hi=>hi.elim) (fun i hi=>hi.elim);exact ⟨this.1,h.2.trans this.2⟩
theorem SW.appB {d d':BD} {bs bs':List UInt8} (h:SW b w0 l w) (k:Nat) (hk:l[k]? =some (bufOb d bs)) (ha:AppB w d bs' d' w'):SW b w0 (l.set k (bufOb d' bs')) w':=⟨(h.1.app k hk ha).1,h.2.trans (h.1.app k hk ha).2⟩
end
theorem inj_of_nodup {α β:Type} (f:α->β):∀ (l:List α),(l.map f).Nodup->∀ a∈l,∀ b∈l,f a=f b->a=b
 | [],_,a,ha,_,_,_=>by cases ha
 | x::l,h,a,ha,b,hb,e=>by
  rw [zC,List.nodup_cons] at h;rcases List.mem_cons.1 ha with ha' | ha'
  · rcases List.mem_cons.1 hb with hb' | hb'
    · rw [ha',hb']
    exact absurd (List.mem_map.2 ⟨b,hb',by rw [<- e,ha']⟩) h.1
  rcases List.mem_cons.1 hb with hb' | hb'
  · exact absurd (List.mem_map.2 ⟨a,ha',by rw [e,hb']⟩) h.1
  exact inj_of_nodup f l h.2 a ha' b hb' e
theorem pends_le (C:Chs):(pends C).length<=C.length:=by
 unfold pends;rw [List.length_map];exact List.length_filter_le _ _
theorem layC_at (cs:List (List UInt8)):∀ o,∀ c∈layC o cs,∃ q,c.2=Pl.at q:=by
 induction cs with
 | nil=>intro o c hc;cases hc
 | cons d cs ih=>
  intro o c hc;rcases List.mem_cons.1 hc with rfl | hc
  · exact ⟨_,rfl⟩
  exact ih _ c hc
theorem layC_pends (o:Nat) (cs:List (List UInt8)):Go.Proofs.YteabgcollokgjaaGreatDoor.pends (layC o cs)=[]:=pends_none (layC_at cs o)
theorem layC_sum (cs:List (List UInt8)):∀ o,entSum (durs (layC o cs))=layN cs:=by
 induction cs with
 | nil=>intro o;rfl
 | cons c cs ih=>
  intro o;have e1:durs (layC o (c::cs))=(fpOf c,o)::durs (layC (o+28+c.length) cs):=rfl;have e2:∀ (y:Ent) l,entSum (y::l)=28+y.1.2.toNat+entSum l:=fun y l=>by simp [entSum]
  have e3:layN (c::cs)=28+c.length+layN cs:=by simp [layN]
  have e4:((fpOf c).2).toNat=c.length:=by simp [fpOf]
  rw [e1,e2,e3,ih,e4]
theorem scan_lay0 (cs:List (List UInt8)) (hc:∀ c∈cs,1<=c.length/\c.length<=8192) (hn:(cs.map fpOf).Nodup):scanF (layB 0 cs) (layB 0 cs).length 0 [] [] true=(layC 0 cs,[],true):=by
 cases cs with
 | nil=>rfl
 | cons c cs=>
  have hl:cs.length+1<=layN (c::cs):=by
   have:∀ cs:List (List UInt8),cs.length<=layN cs:=by
    intro cs;induction cs with
    | nil=>simp
    | cons d cs ih=>
     have e3:layN (d::cs)=28+d.length+layN cs:=by simp [layN]
     rw [e3,zD];omega
   exact this (c::cs)
  have hl2:layN (c::cs)=28+c.length+layN cs:=by simp [layN]
  obtain ⟨m,hm⟩:∃ m,(layB 0 (c::cs)).length=m+1:=⟨(layB 0 (c::cs)).length-1,by rw [layB_len];omega⟩
  have:=scan_lay (c::cs) [] [] m (fun d hd=>by have:=hc d hd;omega) hn (by simp) (by
   have:=layB_len 0 (c::cs)
   have h3:cs.length+1<=layN cs+1:=by
    have:∀ cs:List (List UInt8),cs.length<=layN cs:=by
     intro cs;induction cs with
     | nil=>simp
     | cons d cs ih=>
      have e3:layN (d::cs)=28+d.length+layN cs:=by simp [layN]
      rw [e3,zD];omega
    have:=this cs;omega
   rw [zD];omega)
  rw [hm];simpa using this

end
section
open Go.RowKit Go.MapKept Go.ChangeMaps Go.Shelf Go.Sort
attribute [local go_sem] wext_cell

end
section
open Go.RowKit Go.MapKept Go.ChangeMaps Go.Shelf Go.Sort

section
variable {b:Nat} {w0 w:World} {l:List Ob}
theorem SW.rowCell {A:Option Addr} {ids:List ID} (h:SW b w0 l w) (hA:riOb A ids∈l) {k:Nat} (hk:k<ids.length) {i:ID} (hi:ids.getD k id0=i):∃ g,A=some ⟨g,0,none⟩/\w.cell? ⟨g,k*2,none⟩=some (.int .u64 i.1)/\w.cell? ⟨g,k*2+1,none⟩=some (.int .i64 i.2):=by
 have hri:=h.1.holds (riOb A ids) hA;cases A with
 | none=>
  have h0:=hri.1 rfl;rw [h0] at hk;simp at hk
 | some ad=>
  obtain ⟨g,rfl,hr,_⟩:=hri.2 ad rfl;obtain ⟨a0,a1,_,_⟩:=hr.cells hk hi;exact ⟨g,rfl,a0,a1⟩
end
end
end Go.Proofs.YteabgcollokgjaaGreatDoor
