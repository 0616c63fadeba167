/- Q -/
import Derived.Test.YteabgcollokgjaaGreatDoorQP27
import Derived.Sort.OwnSortedInts
set_option linter.unusedSimpArgs false
set_option linter.unusedVariables false
set_option maxRecDepth 100000
set_option maxHeartbeats 32000000
open Go.Lib renaming hid → kh
open List renaming mem_cons_of_mem → zA,map_cons → zB,getElem?_eq_getElem → zC,getElem?_take_of_lt → zD
open Nat renaming le_refl → zE
namespace Go.Proofs.YteabgcollokgjaaGreatDoor
section
open Go.RowKit Go.MapKept Go.ChangeMaps Go.Shelf Go.Sort
theorem set_self {α:Type}:∀ (L:List α) (i:Nat) (v:α),L[i]? =some v->L.set i v=L
 | [],_,_,h=>by simp at h
 | x::L,0,v,h=>by
  have h:x=v:=by simpa using h
  rw [List.set_cons_zero,h]
 | x::L,i+1,v,h=>by rw [List.set_cons_succ,set_self L i v (by simpa using h)]
section
variable {b:Nat} {w0 w w':World} {l t:List Ob} {o o':Ob}
theorem pair_all {l:List Ob} (h:l.Pairwise Apart) {x y:Ob} (hx:x∈l) (hy:y∈l) (hne:x≠y):Apart x y:=by
 induction l with
 | nil=>cases hx
 | cons z l ih=>
  obtain ⟨h1,h2⟩:=List.pairwise_cons.1 h;rcases List.mem_cons.1 hx with rfl | hx
  · rcases List.mem_cons.1 hy with rfl | hy
    · exact absurd rfl hne
    exact h1 y hy
  rcases List.mem_cons.1 hy with rfl | hy
  · exact (h1 x (by assumption)).symm
  exact ih h2 (by assumption) (by assumption)
theorem SW.asRead (h:SW b w0 (o::t) w) (hh:o'.holds w) (ho:∀ i,¬ o'.own i) (hr:∀ i,o'.rd i->o.own i):SW b w0 (o'::t) w:=by
 have ha:=List.pairwise_cons.1 h.1.apart;refine ⟨⟨h.1.base,fun y hy=>?_,fun y hy i hi=>?_,fun y hy i hi=>?_,List.pairwise_cons.2 ⟨fun y hy=>⟨fun i hi=>absurd hi (ho i),fun i hi hr'=>?_⟩,ha.2⟩⟩,h.2⟩
 · rcases List.mem_cons.1 hy with rfl | hy
   · exact hh
   exact h.1.holds y (zA _ hy)
 · rcases List.mem_cons.1 hy with rfl | hy
   · exact absurd hi (ho i)
   exact h.1.own y (zA _ hy) i hi
 · rcases List.mem_cons.1 hy with rfl | hy
   · exact (h.1.own _ (List.mem_cons_self ..) i (hr i hi)).2
   exact h.1.rd y (zA _ hy) i hi
 exact ((ha.1 y hy).1 i (hr i hr')).1 hi
theorem SW.also (h:SW b w0 l w) (hh:o'.holds w) (ho:∀ i,¬ o'.own i) (hlt:∀ i,o'.rd i->i<w.heap.size) (hr:∀ i,o'.rd i->∀ y∈l,¬ y.own i):SW b w0 (o'::l) w:=by
 refine ⟨⟨h.1.base,fun y hy=>?_,fun y hy i hi=>?_,fun y hy i hi=>?_,List.pairwise_cons.2 ⟨fun y hy=>⟨fun i hi=>absurd hi (ho i),fun i hi hr'=>hr i hr' y hy hi⟩,h.1.apart⟩⟩,h.2⟩
 · rcases List.mem_cons.1 hy with rfl | hy
   · exact hh
   exact h.1.holds y hy
 · rcases List.mem_cons.1 hy with rfl | hy
   · exact absurd hi (ho i)
   exact h.1.own y hy i hi
 rcases List.mem_cons.1 hy with rfl | hy
 · exact hlt i hi
 exact h.1.rd y hy i hi
theorem SW.noOwn (h:SW b w0 l w) (ho:o∈l) (hn:∀ i,¬ o.own i) {i:Nat} (hi:o.rd i):∀ y∈l,¬ y.own i:=fun y hy hw=>by
 by_cases e:y=o
 · subst e;exact hn i hw
 exact ((pair_all h.1.apart hy ho e).1 i hw).2 hi
theorem SW.again (h:SW b w0 l w) (hm:o∈l) (hn:∀ i,¬ o.own i) (hh:o'.holds w) (ho:∀ i,¬ o'.own i) (hr:∀ i,o'.rd i->o.rd i):SW b w0 (o'::l) w:=
 h.also hh ho (fun i hi=>h.1.rd o hm i (hr i hi)) (fun i hi=>h.noOwn hm hn (hr i hi))
theorem few_rest (idx:List Nat) (n:Nat) (hd:idx.Nodup) (hl:∀ i∈idx,i<n):∃ rest:List Nat,(idx++rest).Perm (List.range n):=by
 refine ⟨(List.range n).filter (fun i=> !idx.contains i),?_⟩;refine (List.perm_ext_iff_of_nodup ?_ List.nodup_range).2 (fun i=>?_)
 · refine List.nodup_append.2 ⟨hd,List.nodup_range.filter _,fun a ha c hc e=>?_⟩;subst e;have:=(List.mem_filter.1 hc).2;simp [ha] at this
 simp only [List.mem_append,List.mem_filter,List.mem_range];constructor
 · rintro (h1 | h1)
   · exact hl i h1
   exact h1.1
 intro h1;by_cases e:i∈idx
 · exact .inl e
 exact .inr ⟨h1,by simp [e]⟩
theorem SW.few {pre t:List Ob} (h:SW b w0 (pre++t) w) (idx:List Nat) {n:Nat} (hn:pre.length=n) (hd:idx.Nodup) (hl:∀ i∈idx,i<n):SW b w0 (idx.filterMap (fun i=>pre[i]?)++t) w:=by
 obtain ⟨rest,hp⟩:=few_rest idx n hd hl;have h1:=h.front (idx++rest) hn hp;rw [List.filterMap_append,List.append_assoc] at h1;refine h1.sub ?_;exact (List.Sublist.refl _).append (List.sublist_append_right _ _)
end
section
variable {b:Nat} {w0 w w':World} {l t:List Ob}
theorem SW.rowRi {A:Option Addr} {cap:Nat} {F:List ID} (h:SW b w0 (rowOb 31 2 (.slice A F.length cap) F.length (F.flatMap encID)::t) w):SW b w0 (riOb A F::t) w:=by
 have hh:w.ownsRow 0 31 2 (.slice A F.length cap) F.length (F.flatMap encID):=h.get 0 (o:=rowOb 31 2 (.slice A F.length cap) F.length (F.flatMap encID)) rfl;refine h.asRead (o':=riOb A F) ?_ (fun i hi=>hi) (fun i hi=>?_)
 · by_cases hF:F.length=0
   · have hF':F=[]:=List.eq_nil_of_length_eq_zero hF;subst hF';refine ⟨fun _=>rfl,fun ad e=>?_⟩;rcases hh.2 with ⟨hv,_⟩ | ⟨g,cap',cur,hv,_⟩
     · injection hv with hv;rw [e] at hv;cases hv
     subst e;injection hv with h1;injection h1 with h1;subst h1;obtain ⟨_,h2,h3,_⟩:=own_rowI hh;exact ⟨g,rfl,h2,h3⟩
   obtain ⟨g,c',e⟩:=own_some hh hF;injection e with e1 e2 e3;subst e1;obtain ⟨_,h2,h3,_⟩:=own_rowI hh;exact ⟨(fun e=>by cases e),fun ad e=>by injection e with e;exact ⟨g,e.symm,h2,h3⟩⟩
 have hi:A=some ⟨i,0,none⟩:=hi;show (Value.slice A F.length cap).ownBlock=some i;rw [hi];rfl
end
end
section
open Go.RowKit
theorem rplus_any (a b:Nat) (w:World) (ha:a<=2305843009213693951) (hb:b<=2305843009213693951):Calls Tryz.prog 186 #[.int .u64 (a:Int),.int .u64 (b:Int)] w fun e w'=>e= .returned (.int .u64 (((a+b) % pP:Nat):Int))/\w=w':=by
 by_cases h:a+b<2305843009213693951
 · have e1:Hid ((a+b) % pP=a+b):=Nat.mod_eq_of_lt h;have h':¬ (2305843009213693951<=(a:Int)+b):=by omega
   go_enter Tryz.func186,Tryz.ntmps186;go_wp2
   go_ret;exact rint_u (q:=a+b) e1.out rfl
 have h':2305843009213693951<=(a:Int)+b:=by omega
 by_cases h2:a+b-2305843009213693951<2305843009213693951
 · have e1:Hid ((a+b) % pP=a+b-2305843009213693951):=by
    rw [Hid,Nat.mod_eq_sub_mod (by unfold pP;omega)];exact Nat.mod_eq_of_lt (by unfold pP;omega)
   have h2':¬ (2305843009213693951<=(a:Int)+b-2305843009213693951):=by omega
   obtain ⟨r,hr⟩:∃ r,r=(a+b) % pP:=⟨_,rfl⟩;rw [<- hr];have E2:Hid (((r:Nat):Int)=(a:Int)+b-2305843009213693951):=by rw [Hid,hr,e1.out];omega
   clear hr e1;go_enter Tryz.func186,Tryz.ntmps186;go_wp2
   go_ret;rw [E2.out];exact ⟨rfl,rfl⟩
 obtain rfl:a=2305843009213693951:=by omega
 obtain rfl:b=2305843009213693951:=by omega
 obtain ⟨r,hr⟩:∃ r,r=(2305843009213693951+2305843009213693951) % pP:=⟨_,rfl⟩
 have hr0:r=0:=by
  rw [hr];unfold pP;omega
 rw [<- hr,hr0];clear hr hr0;go_enter Tryz.func186,Tryz.ntmps186;go_wp2
 go_ret;exact ⟨rfl,rfl⟩
theorem rmul_lo (m:Nat):bits .and .u64 ((m:Int) % 18446744073709551616) 2305843009213693951=((m % 18446744073709551616 % 2305843009213693952:Nat):Int):=by
 have e:(m:Int) % 18446744073709551616=((m % 18446744073709551616:Nat):Int):=by omega
 rw [e,mask61 _ (Nat.mod_lt _ (by omega))]
theorem rmul_any (a b:Nat) (w:World) (ha:a<2305843009213693951) (hb:b<2305843009213693951):Calls Tryz.prog 187 #[.int .u64 (a:Int),.int .u64 (b:Int)] w fun e w'=>e= .returned (.int .u64 (((a*b) % pP:Nat):Int))/\w=w':=by
 have HP:=kh (prod_lt ha hb);go_enter Tryz.func187,Tryz.ntmps187;go_wp2_with (first | (go_at_call 185;refine (Tryz.bits_Mul64 a b (by omega) (by omega) _).mono ?_;rintro e w' ⟨rfl,hw⟩;rw [hw]) | (go_at_call 186;refine halt_q ?_))
 have e1:=rmul_lo (a*b);have e2:=mul_hi (a*b) HP.out;rw [Int.natCast_mul] at e1 e2;rw [e2,e1];have hh:=mul_high _ HP.out;refine (rplus_any (a*b % 18446744073709551616 % 2305843009213693952) (a*b / 18446744073709551616*8+a*b % 18446744073709551616 / 2305843009213693952) w (by omega) (by omega)).mono ?_;rintro e w' ⟨rfl,rfl⟩;rw [mul_words _ HP.out];clear e1 e2 hh;go_wp2_with fail
 go_ret;exact ⟨rfl,rfl⟩
theorem rSum_any (A:Option Addr) (c:Nat) (bs:List UInt8) (w:World) (h:RS w A bs) (hn:bs.length<=1099511627776):Calls Tryz.prog 148 #[.slice A bs.length c] w fun e w'=>e= .returned (.int .u64 ((fpSum bs:Nat):Int))/\Below w.heap.size w w':=by
 have H:=kh h;clear h;go_enter Tryz.func148,Tryz.ntmps148;go_wp2_with fail
 go_loopw [3,4] (fun v i wr=>∃ (k:Nat),k<=bs.length/\i= .int .i64 k/\v= .int .u64 ((fpSum (bs.take k):Nat):Int)/\Below w.heap.size w wr) (fun _ i _=>bs.length-(intOf i).toNat)
 case atStart=>exact ⟨0,Nat.zero_le _,rfl,by rw [List.take_zero,fpSum_nil];rfl,Below.refl _ _⟩
 obtain ⟨k,hk,rfl,rfl,hbl⟩:=hrel;have HB:=kh hbl;have HR:=kh (H.out.on hbl);clear hbl;by_cases hlt:k<bs.length
 · cases A with
   | none=>exact absurd (H.out.1 rfl) (by omega)
   | some ad=>
    obtain ⟨g,o,rfl,hc⟩:=HR.out.2 ad rfl;have hcl:wr.cell? ⟨g,o+k,none⟩=some (.int .u8 (((bs.getD k 0).toNat:Nat):Int)):=hc k hlt;have HT:Hid ((fpSum (bs.take k)*747382712868975713 % pP+((bs.getD k 0).toNat+1)) % pP=fpSum (bs.take (k+1))):=by rw [Hid,take_snocU bs k hlt, <- fp_byte]
    have hf:=fpSum_lt (bs.take k);have HF:Hid (fpSum (bs.take k)<pP):=hf;clear hc hf;generalize hx:bs.getD k 0=x at *; have hx2:=x.toNat_lt;have HX:=kh hx;clear hx;generalize fpSum (bs.take k)=sm at *; generalize hs':fpSum (bs.take (k+1))=sm' at *; have HS:=kh hs';clear hs';have hm:=fun w=>rmul_any sm 747382712868975713 w HF.out (by omega);have hmt:sm*747382712868975713 % pP<pP:=Nat.mod_lt _ pP_pos;generalize sm*747382712868975713 % pP=t at *; have ha:=fun w=>rplus_any t (x.toNat+1) w (by unfold pP at hmt;omega) (by omega);rw [HT.out] at ha;simp only [Int.natCast_add,Int.natCast_one] at ha;have HM:Hid (∀ w,Calls Tryz.prog 187 #[.int .u64 ((sm:Nat):Int),.int .u64 747382712868975713] w fun e w'=>e= .returned (.int .u64 ((t:Nat):Int))/\w'=w):=fun w=>(hm w).mono fun _ _ h=>⟨h.1,h.2.symm⟩;have HA:Hid (∀ w,Calls Tryz.prog 186 #[.int .u64 ((t:Nat):Int),.int .u64 (((x.toNat:Nat):Int)+1)] w fun e w'=>e= .returned (.int .u64 ((sm':Nat):Int))/\w'=w):=fun w=>(ha w).mono fun _ _ h=>⟨h.1,h.2.symm⟩;clear hm ha hmt;go_wp2_with fail
    go_quiet ((first | (go_at_call 187;exact Calls.quiet_of_same (HM.out _)) | (go_at_call 186;exact Calls.quiet_of_same (HA.out _))))
    go_wp2_with fail
    go_roundw
    case rel=>exact ⟨k+1,by omega,by go_num,by rw [HS.out],bdrewN HB.out _⟩
    simp [intOf];omega
 obtain rfl:k=bs.length:=by omega
 rw [List.take_length];go_wp2_with fail
 go_ret;exact ⟨rfl,HB.out⟩
theorem rOf_any (A:Option Addr) (c:Nat) (bs:List UInt8) (w:World) (h:RS w A bs) (hn:bs.length<=1099511627776):Calls Tryz.prog 94 #[.slice A bs.length c] w fun e w'=>e= .returned (.agg #[.int .u64 (fpOf bs).1,.int .i64 (fpOf bs).2])/\Below w.heap.size w w':=by
 have H:=kh (fun W (hW:RS W A bs)=>rSum_any A c bs W hW hn);have H1:=kh (h.on ((Below.refl _ w).alloc (zE _) (.cells #[.int .u64 0,.int .i64 0] 31)));have B1:Hid (IsB (w.alloc (.cells #[.int .u64 0,.int .i64 0] 31)) w.heap.size 31 #[.int .u64 0,.int .i64 0]):=IsB.new _ _ _;clear h;simp only [fpOf];generalize fpSum bs=sm at *; go_enter Tryz.func94,Tryz.ntmps94;go_wp2_with (go_at_call 148;refine (H.out _ H1.out).mono ?_;rintro e w' ⟨rfl,hb⟩;have HB:=kh hb;have hc0:=(B1.out.on hb).cell 0;have hc1:=(B1.out.on hb).cell 1;have hf0:=(B1.out.on hb).frozen 0;have hf1:=(B1.out.on hb).frozen 1;clear hb)
 refine bodyPost_ret (v:=.agg #[.int .u64 ((sm:Nat):Int),.int .i64 ((bs.length:Nat):Int)]) ?_ rfl ⟨rfl,?_⟩
 · simp [results,Tryz.results94,go_sem,hc0,hc1]
 exact ((((Below.refl _ w).alloc (zE _) _).trans (HB.out.mono (by simp))).setCell (p:=⟨w.heap.size,0,none⟩) (zE _) _).setCell (p:=⟨w.heap.size,1,none⟩) (zE _) _
end
section
open Go.RowKit Go.MapKept Go.ChangeMaps Go.Shelf Go.Sort
attribute [local go_sem] wext_cell
def RowV (w:World) (t:TypeId) (sz:Nat) (A:Option Addr) (n:Nat) (xs:List Value):Prop:=
 xs.length=n*sz/\(n=0∨∃ g cur,A=some ⟨g,0,none⟩/\IsB w g t cur/\cur.toList.take (n*sz)=xs)
section
variable {w w':World} {t:TypeId} {sz:Nat} {A:Option Addr} {n:Nat} {xs:List Value}
theorem RowV.same (h:RowV w t sz A n xs) (hk:∀ i,0<n->A=some ⟨i,0,none⟩->w'.heap[i]? =w.heap[i]?):RowV w' t sz A n xs:=by
 refine ⟨h.1,?_⟩;rcases h.2 with h2 | ⟨g,cur,e,hi,hx⟩
 · exact .inl h2
 by_cases hn:n=0
 · exact .inl hn
 exact .inr ⟨g,cur,e,(hk g (by omega) e).trans hi,hx⟩
theorem RowV.lt (h:RowV w t sz A n xs) {i:Nat} (hn:0<n) (e:A=some ⟨i,0,none⟩):i<w.heap.size:=by
 rcases h.2 with h2 | ⟨g,cur,e2,hi,_⟩
 · omega
 rw [e] at e2;injection e2 with e2;injection e2 with e2;rw [e2];exact hi.lt
theorem RowV.at (h:RowV w t sz A n xs) (hn:0<n):∃ g,A=some ⟨g,0,none⟩/\g<w.heap.size/\∀ j,j<n*sz->w.cell? ⟨g,j,none⟩=xs[j]? :=by
 rcases h.2 with h2 | ⟨g,cur,e2,hi,hx⟩
 · omega
 refine ⟨g,e2,hi.lt,fun j hj=>?_⟩;rw [hi.cell, <- hx,zD hj,Array.getElem?_toList]
theorem RowV.of_own {c:Nat} (h:w.ownsRow 0 t sz (.slice A n c) n xs):RowV w t sz A n xs/\n<=c:=by
 refine ⟨⟨h.1,?_⟩,?_⟩
 · rcases h.2 with ⟨hv,h2⟩ | ⟨g,cap,cur,hv,_,hh,hc1,hcs,hcs2,htk⟩
   · exact .inl h2
   injection hv with e1 e2 e3;exact .inr ⟨g,cur,e1,hh,htk⟩
 rcases h.2 with ⟨hv,h2⟩ | ⟨g,cap,cur,hv,_,hh,hc1,hcs,hcs2,htk⟩
 · omega
 injection hv with e1 e2 e3;omega
theorem RowV.nil:RowV w t sz A 0 []:=⟨by simp,.inl rfl⟩
end
structure RE where
 id:ID
 d:BD
 bs:List UInt8
 pn:Bool
def re0:RE:=⟨(0,0),⟨none,0,0⟩,[],false⟩
def encK (e:RE):List Value:=[.int .u64 e.id.1,.int .i64 e.id.2,.slice e.d.A e.d.len e.d.cap]
def encP (e:RE):List Value:=[.bool e.pn]
theorem encK_len (e:RE):(encK e).length=3:=rfl
theorem encP_len (e:RE):(encP e).length=1:=rfl
structure R3 where
 A:Option Addr
 c:Nat
 B:Option Addr
 k:Nat
 E:List RE
structure R3Ok (w:World) (r:R3):Prop where
 a:RowV w 65 3 r.A r.E.length (r.E.flatMap encK)
 b:RowV w 4 1 r.B r.E.length (r.E.flatMap encP)
 c:r.E.length<=r.c
 k:r.E.length<=r.k
 n:r.E.length<=100000
 bytes:∀ e∈r.E,RB w e.d e.bs
def r3Ob (r:R3):Ob where
 own:=fun _=>False
 rd:=fun i=>(0<r.E.length/\(r.A=some ⟨i,0,none⟩∨r.B=some ⟨i,0,none⟩))∨∃ e∈r.E,blk e.d=some i
 holds:=fun w=>R3Ok w r
 stable:=fun w w' h hs hk=>by
  refine ⟨h.a.same (fun i hn e=>hk i (.inr (.inl ⟨hn,.inl e⟩))),h.b.same (fun i hn e=>hk i (.inr (.inl ⟨hn,.inr e⟩))),h.c,h.k,h.n,fun e he=>?_⟩;have hc:Ch w w' (fun i=>¬ blk e.d=some i) []:=⟨hs.1,hs.2.1,hs.2.2.1,hs.2.2.2,fun i _ hn _=>hk i (.inr (.inr ⟨e,he,Classical.not_not.1 hn⟩)),by simp⟩;exact (h.bytes e he).ch hc (fun g hg hn=>hn hg) (by simp)
theorem r3Ob_lt {w:World} {r:R3} (h:R3Ok w r) {i:Nat} (hi:(r3Ob r).rd i):i<w.heap.size:=by
 rcases hi with ⟨hn,e | e⟩ | ⟨e,he,ea⟩
 · exact h.a.lt hn e
 · exact h.b.lt hn e
 exact (h.bytes e he).lt ea
theorem SW.start {w:World} {o:Ob} (h:o.holds w) (ho:∀ i,¬ o.own i) (hr:∀ i,o.rd i->i<w.heap.size):SW w.heap.size w [o] w:=
 (SW.refl (Sep.nil w (zE _))).also h ho hr (fun _ _ y hy=>by cases hy)
theorem SW.startR {w:World} {r:R3} (h:R3Ok w r):SW w.heap.size w [r3Ob r] w:=SW.start (o:=r3Ob r) h (fun _ h=>h) (fun _ h'=>r3Ob_lt h h')
theorem SW.fuse {b:Nat} {w0 w:World} {pre t:List Ob} {o':Ob} (h:SW b w0 (pre++t) w) (hh:o'.holds w) (ho:∀ i,¬ o'.own i) (hr:∀ i,o'.rd i->∃ o∈pre,o.own i∨o.rd i):SW b w0 (o'::t) w:=by
 obtain ⟨_,hpt,hap⟩:=List.pairwise_append.1 h.1.apart;refine ⟨⟨h.1.base,fun y hy=>?_,fun y hy i hi=>?_,fun y hy i hi=>?_,List.pairwise_cons.2 ⟨fun y hy=>⟨fun i hi=>absurd hi (ho i),fun i hi hr'=>?_⟩,hpt⟩⟩,h.2⟩
 · rcases List.mem_cons.1 hy with rfl | hy
   · exact hh
   exact h.1.holds y (List.mem_append_right _ hy)
 · rcases List.mem_cons.1 hy with rfl | hy
   · exact absurd hi (ho i)
   exact h.1.own y (List.mem_append_right _ hy) i hi
 · rcases List.mem_cons.1 hy with rfl | hy
   · obtain ⟨o,hm,h1 | h1⟩:=hr i hi
     · exact (h.1.own o (List.mem_append_left _ hm) i h1).2
     exact h.1.rd o (List.mem_append_left _ hm) i h1
   exact h.1.rd y (List.mem_append_right _ hy) i hi
 obtain ⟨o,hm,h1 | h1⟩:=hr i hr'
 · exact ((hap o hm y hy).1 i h1).1 hi
 exact (hap o hm y hy).2 i hi h1
theorem R3Ok.chunk {w:World} {r:R3} (h:R3Ok w r) {j:Nat} (hj:j<r.E.length) {e:RE} (he:r.E.getD j re0=e):∃ g,r.A=some ⟨g,0,none⟩/\g<w.heap.size/\w.cell? ⟨g,j*3,none⟩=some (.int .u64 e.id.1)/\w.cell? ⟨g,j*3+1,none⟩=some (.int .i64 e.id.2)/\w.cell? ⟨g,j*3+2,none⟩=some (.slice e.d.A e.d.len e.d.cap):=by
 obtain ⟨g,e1,hlt,hc⟩:=h.a.at (by omega)
 have hf:∀ i,i<3->w.cell? ⟨g,j*3+i,none⟩=(encK e)[i]? :=fun i hi=>by
  rw [hc _ (by omega),flat_at encK_len re0 r.E j i hj hi,he]
 exact ⟨g,e1,hlt,hf 0 (by omega),hf 1 (by omega),hf 2 (by omega)⟩
theorem R3Ok.on {w w':World} {r:R3} (h:R3Ok w r) (hb:Below w.heap.size w w'):R3Ok w' r:=(r3Ob r).stable w w' h ⟨hb.os,hb.tape,hb.output,hb.size⟩ (fun i hi=>hb.block i (by
 rcases hi with hi | hi
 · exact hi.elim
 exact r3Ob_lt h hi))
def atI (E:List RE) (i:ID):Nat:=(E.takeWhile fun e=>ltID e.id i).length
def hasAt (E:List RE) (i:ID):Bool:=match E[atI E i]? with | some e=>decide (e.id=i) | none=>false
theorem atI_le (E:List RE) (i:ID):atI E i<=E.length:=(List.takeWhile_sublist _).length_le
theorem atI_eq {E:List RE} {i:ID} {k:Nat} (hk:k<=E.length) (hb:∀ j,j<k->ltID (E.getD j re0).id i=true) (he:k=E.length∨ltID (E.getD k re0).id i=false):atI E i=k:=by
 induction E generalizing k with
 | nil=>
  have:k=0:=by simpa using hk
  rw [this];rfl
 | cons e E ih=>
  cases k with
  | zero=>
   rcases he with he | he
   · simp at he
   have he:ltID e.id i=false:=he;unfold atI;rw [List.takeWhile_cons,he];rfl
  | succ k=>
   have h0:ltID e.id i=true:=hb 0 (by omega);have:=ih (k:=k) (by simpa using hk) (fun j hj=>by simpa using hb (j+1) (by omega)) (by simpa using he);unfold atI at *; rw [List.takeWhile_cons,h0];simp [this]
theorem At_any {w:World} {r:R3} (h:R3Ok w r) (i:ID):Calls Tryz.prog 95 #[.agg #[.slice r.A r.E.length r.c,.slice r.B r.E.length r.k],.agg #[.int .u64 i.1,.int .i64 i.2]] w (Gives (.tuple #[.int .i64 ((atI r.E i:Nat):Int),.bool (hasAt r.E i)]) w):=by
 have S0:=kh (((SW.startR h).newCell 54 #[.slice r.A r.E.length r.c,.slice r.B r.E.length r.k]).newCellAt 31 #[.int .u64 i.1,.int .i64 i.2] (H:=w.heap.size+1) (by simp));have HLN:=h.n;have hle:=atI_le r.E i;obtain ⟨K,HK⟩:∃ K,Hid (atI r.E i=K):=⟨_,rfl⟩;obtain ⟨V,HV⟩:∃ V,Hid (hasAt r.E i=V):=⟨_,rfl⟩;rw [HK.out] at hle |-; rw [HV.out];clear h;go_enter Tryz.func95,Tryz.ntmps95;go_upto_block 0 with fail
 go_cut [6] from 24 (fun s6 w'=>s6= .int .i64 (K:Int)/\SW w.heap.size w [cellOb (w.heap.size+1) 31 #[.int .u64 i.1,.int .i64 i.2],cellOb w.heap.size 54 #[.slice r.A r.E.length r.c,.slice r.B r.E.length r.k],r3Ob r] w')
 case first=>
  go_wp2_with fail
  go_loopw [6] (fun s6 wr=>∃ k:Nat,k<=r.E.length/\s6= .int .i64 (k:Int)/\(∀ j,j<k->ltID (r.E.getD j re0).id i=true)/\SW w.heap.size w [cellOb (w.heap.size+1) 31 #[.int .u64 i.1,.int .i64 i.2],cellOb w.heap.size 54 #[.slice r.A r.E.length r.c,.slice r.B r.E.length r.k],r3Ob r] wr) (fun s6 _=>r.E.length-(intOf s6).toNat)
  case atStart=>exact ⟨0,Nat.zero_le _,rfl,(fun j hj=>by omega),S0.out⟩
  obtain ⟨k,hk,rfl,hbf,hs⟩:=hrel;have HBF:=kh hbf;have S1:=kh hs;clear hbf hs S0;have c0:=(S1.out.cell 1 rfl).cell 0;have c1:=(S1.out.cell 1 rfl).cell 1;have d0:=(S1.out.cell 0 rfl).cell 0;have d1:=(S1.out.cell 0 rfl).cell 1;have l0:=(S1.out.cell 1 rfl).lt;have l1:=(S1.out.cell 0 rfl).lt;by_cases hlt:k<r.E.length
  · obtain ⟨e,he⟩:∃ e,r.E.getD k re0=e:=⟨_,rfl⟩;obtain ⟨g,hA,hgl,a0,a1,_⟩:=(S1.out.get 2 (o:=r3Ob r) rfl:R3Ok wr r).chunk hlt he;have HE:=kh he;have hltb:decide ((k:Int)<(r.E.length:Int))=true:=decide_eq_true (by omega);have HL:Hid (∀ q:Ext wr,Calls Tryz.prog 149 #[.agg #[.int .u64 e.id.1,.int .i64 e.id.2],.agg #[.int .u64 i.1,.int .i64 i.2]] (wext wr q) (Gives (.bool (ltID e.id i)) (wext wr q))):=fun q=>Less_any e.id.1 e.id.2 i.1 i.2 (wext wr q);rw [hA] at c0;clear he;obtain ⟨v,hv⟩:∃ v,ltID e.id i=v:=⟨_,rfl⟩;rw [hv] at HL;have HVV:=kh hv;clear hv;go_upto_region 2 with fail
    refine wp_region_ext (by kernel_rfl) (by kernel_rfl) ?_;repeat (go_big_quiet_step ((go_at_call 149;exact ext_call (HL.out _))))
    refine wpQuiet_nil ?_;intro w2 hb2;have S2:=kh (S1.out.on hb2);clear hb2 c0 c1 d0 d1 a0 a1 HL S1;cases v with
    | true=>
     go_wp2_with fail
     go_roundw
     case rel=>
      refine ⟨k+1,by omega,by go_num,fun j hj=>?_,S2.out⟩;by_cases e2:j=k
      · subst e2;rw [HE.out];exact HVV.out
      exact HBF.out j (by omega)
     simp [intOf];omega
    | false=>
     go_wp2_with fail
     go_meet;refine ⟨?_,S2.out⟩;rw [<- HK.out,atI_eq hk HBF.out (.inr (by rw [HE.out];exact HVV.out))]
  have hltb:decide ((k:Int)<(r.E.length:Int))=false:=decide_eq_false (by omega);go_upto_region 2 with fail
  refine wp_region_ext (by kernel_rfl) (by kernel_rfl) ?_;repeat (go_big_quiet_step (fail))
  refine wpQuiet_nil ?_;intro w2 hb2;have S2:=kh (S1.out.on hb2);clear hb2 c0 c1 d0 d1 S1;go_wp2_with fail
  go_meet;refine ⟨?_,S2.out⟩;rw [<- HK.out,atI_eq hk HBF.out (.inl (by omega))]
 obtain ⟨rfl,s⟩:=hcut;have S1:=kh s;clear s S0;have c0:=(S1.out.cell 1 rfl).cell 0;have d0:=(S1.out.cell 0 rfl).cell 0;have d1:=(S1.out.cell 0 rfl).cell 1;have l0:=(S1.out.cell 1 rfl).lt;have l1:=(S1.out.cell 0 rfl).lt;by_cases hlt:K<r.E.length
 · obtain ⟨e,he⟩:∃ e,r.E.getD K re0=e:=⟨_,rfl⟩;obtain ⟨g,hA,hgl,a0,a1,_⟩:=(S1.out.get 2 (o:=r3Ob r) rfl:R3Ok wc r).chunk hlt he;have hltb:decide ((K:Int)<(r.E.length:Int))=true:=decide_eq_true (by omega);rw [hA] at c0;have heq:=fun W=>eql31 e.id i W
   have hv:decide (e.id=i)=V:=by
    rw [<- HV.out];unfold hasAt;rw [HK.out,zC hlt];rw [List.getD_eq_getElem?_getD,zC hlt] at he;rw [<- he];rfl
   rw [hv] at heq;clear he hv HK HV;go_upto_region 4 with fail
   go_quiet (fail)
   go_wp2_with fail
   go_ret2;exact ⟨rfl,bdrewN S1.out.2 _⟩
 have hltb:decide ((K:Int)<(r.E.length:Int))=false:=decide_eq_false (by omega)
 have hv:V=false:=by
  rw [<- HV.out];unfold hasAt;rw [HK.out,List.getElem?_eq_none (by omega)]
 subst hv;go_upto_region 4 with fail
 go_quiet (fail)
 go_wp2_with fail
 go_ret2;exact ⟨rfl,bdrewN S1.out.2 _⟩
abbrev R3.ids (r:R3):List ID:=r.E.map (·.id)
end
section
open Go.RowKit Go.MapKept Go.ChangeMaps Go.Shelf Go.Sort
theorem append_zero_run (w:World) (t ty e:TypeId) (i:TypeInfo) (size:Nat) (ht:Tryz.prog.underlying t=some (.slice e)) (hi:Tryz.prog.info? e=some i)
 (v:Value) (n:Nat) (xs:List Value) (hown:w.ownsRow 0 e size v n xs) (A:Option Addr) (c:Nat):(Builtin.append_ #[t,t] ty #[v,.slice A 0 c]).run Tryz.prog w= .ok v w:=by
 rcases hown.2 with ⟨rfl,rfl⟩ | ⟨g,cap,cur,rfl,_,_,hnc,_⟩
 · cases A with
   | none=>simp [Builtin.append_,run_underlying ht,sizeOf,typeInfo,hi,Builtin.lenOf,Builtin.firstCells]
   | some ad=>
    have h0:=run_loadCells_list (P:=Tryz.prog) w ad [] (fun j v hj=>by simp at hj);simp only [List.length_nil] at h0;simp [Builtin.append_,run_underlying ht,sizeOf,typeInfo,hi,Builtin.lenOf,Builtin.firstCells,h0]
 cases A with
 | none=>simp [Builtin.append_,run_underlying ht,sizeOf,typeInfo,hi,Builtin.lenOf,Builtin.firstCells,hnc,storeCells]
 | some ad=>
  have h0:=run_loadCells_list (P:=Tryz.prog) w ad [] (fun j v hj=>by simp at hj);simp only [List.length_nil] at h0;simp [Builtin.append_,run_underlying ht,sizeOf,typeInfo,hi,Builtin.lenOf,Builtin.firstCells,hnc,h0,storeCells]
section
variable {b:Nat} {w0 w w':World} {l:List Ob}
theorem step_rowM {ops:Array Oper} {o:Oper} {a:Act} {K:Act->World->Prop} {Q:Exit->Act->World->Prop} {E:Prop} {t e:TypeId} {i:TypeInfo} {z:Value} {size bytes:Nat} (hS:SW b w0 l w) (k:Nat) {v:Value} {n:Nat} {xs:List Value} (hk:l[k]? =some (rowOb e size v n xs))
 (hgd:o.guard=none) (s x:Operand) (ho:o.op= .call { callee:=.builtin .append,args:= #[s,x],argTypes:= #[t,t] })
 (ht:Tryz.prog.underlying t=some (.slice e)) (hi:Tryz.prog.info? e=some i) (hz:i.zero=some z) (hsize:i.size=size) (hby:i.bytes=bytes) (hzs:z.cells.size=size) (hsz:0<size)
 (hs:a.eval s=v) (A:Option Addr) (m c:Nat) (news:List Value) (hx:a.eval x= .slice A m c) (hl:news.length=m*size) (hA:0<m->∃ ad,A=some ad/\∀ j u,news[j]? =some u->w.cell? (ad.add j)=some u) (h1:∀ u∈news,u.oneCell'=true)
 (h63:n+m<=maxLen) (hbytes:(n+m)*bytes<=140737488355328)
 (h:∀ v' w',SW b w0 (l.set k (rowOb e size v' (n+m) (xs++news))) w'->K (a.put o.dst v') w'):
 if Region.wanted o (yielded ops a.tmps)=true then Oper.wp Tryz.prog o a w K Q else E:=by
 rcases Nat.eq_zero_or_pos m with rfl | hm
 · have hw:Region.wanted o (yielded ops a.tmps)=true:=by simp [Region.wanted,hgd]
   rw [if_pos hw];have hn:news=[]:=List.eq_nil_of_length_eq_zero (by simpa using hl);subst hn;have hrun:=append_zero_run w t o.type e i size ht hi v n xs (hS.get k hk) A c;unfold Oper.wp execOp;simp only [ho,resolve,invoke,builtin,Sem.run_bind,Sem.run_pure,Result.andThen_ok,List.map_toArray,zB,List.map_nil,hs,hx,hrun];refine h v w ?_
   have e:l.set k (rowOb e size v (n+0) (xs++[]))=l:=by
    rw [List.append_nil];exact set_self l k _ hk
   rw [e];exact hS
 obtain ⟨ad,rfl,hnews⟩:=hA hm;exact step_append_row hgd s x t ho e i z size bytes ht hi hz hsize hby hzs hsz v n xs hs (hS.get k hk) ad m c news hx hl hnews h1 hm h63 hbytes (fun v' w' h2 hg hv=>h v' w' (hS.row k hk h2 hg hv))
end
section
variable {w:World} (t e:TypeId) (sz:Nat) (A:Option Addr) (n c i:Nat)
theorem elem_of (ht:Tryz.prog.underlying t=some (.slice e)):Tryz.prog.elem t=e:=by
 simp [Program.elem,ht]
theorem slice_to (ht:Tryz.prog.underlying t=some (.slice e)) (hz:∀ w,(sizeOf e).run Tryz.prog w= .ok sz w) (hi:i<=n) (hc:n<=c):
 (Instr.slice t (.slice A n c) none (some (.int .i64 (i:Int))) none).run Tryz.prog w= .ok (.slice A i c) w:=by
 have he:=elem_of t e ht;have ht':Tryz.prog.underlying t=some (.slice (Tryz.prog.elem t)):=by rw [he];exact ht
 rw [Go.run_slice_h (w:=w) t A n c ht' .i64 (i:Int) (by omega) (by omega),he,hz];simp only [Result.andThen,sliced,Int.toNat_natCast,Nat.sub_zero,Nat.zero_mul]
 have e:(if c=0 then A else A.map (·.add 0))=A:=by
  split
  · rfl
  cases A with
  | none=>rfl
  | some ad=>simp [Addr.add]
 rw [e]
theorem slice_from (ht:Tryz.prog.underlying t=some (.slice e)) (hz:∀ w,(sizeOf e).run Tryz.prog w= .ok sz w) (hi:i<=n) (hc:n<=c):
 ∃ A',(∀ w,(Instr.slice t (.slice A n c) (some (.int .i64 (i:Int))) none none).run Tryz.prog w= .ok (.slice A' (n-i) (c-i)) w)/\(i<n->∀ g,A=some ⟨g,0,none⟩->A'=some ⟨g,i*sz,none⟩):=by
 have he:=elem_of t e ht;have ht':Tryz.prog.underlying t=some (.slice (Tryz.prog.elem t)):=by rw [he];exact ht
 refine ⟨if c=i then A else A.map (·.add (i*sz)),fun w=>?_,fun hlt g hg=>?_⟩
 · rw [Go.run_slice_l (w:=w) t A n c ht' .i64 (i:Int) (by omega) (by omega),he,hz];simp only [Result.andThen,sliced,Int.toNat_natCast]
 rw [if_neg (by omega),hg];simp only [Option.map_some,Option.some.injEq];by_cases h0:i*sz=0<;>simp [Addr.add,h0]
end
def o6 (g:Option Nat) (cs:Array Value):List Ob:=match g with | none=>[] | some g=>[cellOb g 65 cs]
def o18 (g:Option Nat):List Ob:=match g with | none=>[] | some g=>[cellOb g 4 #[.bool true]]
def PX (b:Nat) (w0:World) (bl:List Ob) (cs:Array Value) (va:Value) (na:Nat) (xa:List Value) (vb:Value) (nb:Nat) (xb:List Value) (g6 g18:Option Nat) (w:World):Prop:=
 SW b w0 (rowOb 65 3 va na xa::rowOb 4 1 vb nb xb::(o6 g6 cs++o18 g18++bl)) w
section
variable {b:Nat} {w0 w w':World} {bl:List Ob} {cs:Array Value} {va vb:Value} {na nb:Nat} {xa xb:List Value} {g6 g18:Option Nat}
theorem PX.bas (h:PX b w0 bl cs va na xa vb nb xb g6 g18 w):SW b w0 bl w:=by
 refine SW.sub h ?_;exact ((List.sublist_append_right _ _).cons _).cons _
theorem PX.six (h:PX b w0 bl cs va na xa vb nb xb none g18 w):PX b w0 bl cs va na xa vb nb xb (some w.heap.size) g18 (w.alloc (.cells cs 65)):=
 SW.front (pre:=[_,_,_]) (t:=o18 g18++bl) (SW.newCell h 65 cs) [1,2,0] (n:=3) rfl (by decide)
theorem PX.eight (h:PX b w0 bl cs va na xa vb nb xb g6 none w):PX b w0 bl cs va na xa vb nb xb g6 (some w.heap.size) (w.alloc (.cells #[.bool true] 4)):=by
 cases g6 with
 | none=>exact SW.front (pre:=[_,_,_]) (t:=bl) (SW.newCell h 4 #[.bool true]) [1,2,0] (n:=3) rfl (by decide)
 | some g=>exact SW.front (pre:=[_,_,_,_]) (t:=bl) (SW.newCell h 4 #[.bool true]) [1,2,3,0] (n:=4) rfl (by decide)
theorem PX.cell6 {g:Nat} (h:PX b w0 bl cs va na xa vb nb xb (some g) g18 w) (j:Nat):w.cell? ⟨g,j,none⟩=cs[j]? :=(SW.cell h 2 rfl).cell j
theorem PX.cell18 {g:Nat} (h:PX b w0 bl cs va na xa vb nb xb g6 (some g) w):w.cell? ⟨g,0,none⟩=some (.bool true):=by
 cases g6 with
 | none=>exact (SW.cell h 2 rfl).cell 0
 | some g'=>exact (SW.cell h 3 rfl).cell 0
theorem PX.rows (h:PX b w0 bl cs va na xa vb nb xb g6 g18 w):w.ownsRow 0 65 3 va na xa/\w.ownsRow 0 4 1 vb nb xb:=⟨SW.get h 0 rfl,SW.get h 1 rfl⟩
end
section
variable {w:World} {t:TypeId} {sz:Nat} {A:Option Addr} {n:Nat} {xs:List Value}
theorem RowV.src_take (h:RowV w t sz A n xs) {K:Nat} (hK:K<=n) (hp:0<K):∃ ad,A=some ad/\∀ j u,(xs.take (K*sz))[j]? =some u->w.cell? (ad.add j)=some u:=by
 obtain ⟨g,e,_,hc⟩:=h.at (by omega);refine ⟨_,e,fun j u hu=>?_⟩;have hj:=(List.getElem?_eq_some_iff.1 hu).1;rw [List.length_take] at hj;rw [zD (by omega)] at hu;have hj2:j<n*sz:=by have:=Nat.mul_le_mul_right sz hK;omega
 rw [lit_add,Nat.zero_add,hc j hj2,hu]
theorem RowV.src_drop (h:RowV w t sz A n xs) {K:Nat} {A':Option Addr} (hA':K<n->∀ g,A=some ⟨g,0,none⟩->A'=some ⟨g,K*sz,none⟩) (hp:0<n-K):∃ ad,A'=some ad/\∀ j u,(xs.drop (K*sz))[j]? =some u->w.cell? (ad.add j)=some u:=by
 obtain ⟨g,e,_,hc⟩:=h.at (by omega);refine ⟨_,hA' (by omega) g e,fun j u hu=>?_⟩;rw [List.getElem?_drop] at hu;have hj:=(List.getElem?_eq_some_iff.1 hu).1;rw [h.1] at hj;rw [lit_add,hc _ hj,hu]
end
end
section
open Go.RowKit Go.MapKept Go.ChangeMaps Go.Shelf Go.Sort
attribute [local go_sem] wext_cell
theorem atoi49:Lib.atoi [49]=some 1:=by kernel_rfl
theorem atoi1 (w:World):Calls Tryz.prog 132 #[.string ⟨#[49]⟩] w (fun e w'=>e= .returned (.tuple #[.int .i64 1,.nilIface])/\Below w.heap.size w w'):=
 (Any.strconv_Atoi Tryz.atoiC.toM.ton172 ⟨#[49]⟩ 1 (by show 1<=18;omega) atoi49 w).mono (by
   rintro e w' ⟨rfl,t,rfl⟩;exact ⟨rfl,Lib.bytesWorld_below _ _ _⟩)
theorem cutPre (nm:ByteArray) (w:World):Calls Tryz.prog 131 #[.string (fileN nm),.string (nm++⟨#[46]⟩)] w (fun e w'=>e= .returned (.tuple #[.string ⟨#[49]⟩,.bool true])/\w=w'):=by
 have hf:(fileN nm).data.toList=(nm++⟨#[46]⟩:ByteArray).data.toList++[49]:=by
  unfold fileN;rw [ByteArray.data_append,Array.toList_append]
 have h1:Lib.hasPrefix (fileN nm).data.toList (nm++⟨#[46]⟩:ByteArray).data.toList=true:=by
  unfold Lib.hasPrefix;rw [hf];exact List.isPrefixOf_iff_prefix.2 (List.prefix_append _ _)
 have h2:Lib.trimPrefix (fileN nm).data.toList (nm++⟨#[46]⟩:ByteArray).data.toList=[49]:=by
  unfold Lib.trimPrefix;rw [if_pos h1,hf,List.drop_left]
 have h:=Tryz.strings_CutPrefix (fileN nm) (nm++⟨#[46]⟩) w;rw [h1,h2] at h;exact h.mono (fun e w' h=>⟨h.1,h.2.symm⟩)
theorem after_drew0 {W w5:World} {q:Nat} (h:w5=W.drewN q):Below W.heap.size W w5:=by
 subst h;exact bdrewN (Below.refl W.heap.size W) q
theorem cell_new (w:World) (t:TypeId) (v:Value):(w.alloc (.cells #[v] t)).cell? ⟨w.heap.size,0,none⟩=some v:=(IsB.new w t #[v]).cell 0
theorem one_at {w:World} {g:Nat} {v:Value} (h:w.cell? ⟨g,0,none⟩=some v):∀ j u,[v][j]? =some u->w.cell? ((⟨g,0,none⟩:Addr).add j)=some u:=fun j u hu=>by
 match j,hu with
 | 0,hu=>
  rw [lit_add,h];exact hu
theorem info3:(Tryz.prog.info? 3).map (fun i=>(i.zero,i.size,i.bytes))=some (some (.int .i64 0),1,8):=by kernel_rfl
section
variable {b:Nat} {w0 w:World} {l:List Ob} {x:SR}
theorem sort1 (h:SW b w0 l w) (k:Nat) {g c:Nat} {z:Int} (hk:l[k]? =some (rowOb 3 1 (.slice (some ⟨g,0,none⟩) 1 c) 1 [.int .i64 z])):Calls Tryz.prog 133 #[.slice (some ⟨g,0,none⟩) 1 c] w (fun e w'=>e= .returned (.tuple #[])/\SW b w0 l w'):=by
 have ho:w.ownsRow 0 3 1 (.slice (some ⟨g,0,none⟩) 1 c) 1 [.int .i64 z]:=h.get k hk;have hlt:=ho.lt g rfl;rcases ho.2 with ⟨h0,_⟩ | ⟨g',cap,cur,hv,hg0,hh,hc1,hcs,hcs2,htk⟩
 · cases h0
 injection hv with e1 e2 e3;injection e1 with e1;injection e1 with e1;subst e1;subst e3;have hH:Holds (Value.int .i64) w g 0 [z].toArray:=holds_of_blockI (ss:=[z]) hh (by simpa using htk);refine (Tryz.slices_Sort_int g 0 c [z] w hH hlt.2 (by simp)).mono ?_;rintro e w' ⟨rfl,n,os,rfl⟩;refine ⟨rfl,?_⟩;rw [List.mergeSort_singleton];have:=h.row k hk (ownsRow_sortedI (n:=n) (os:=os) (ss:=[z]) (ts:=[z]) rfl (Nat.zero_le g) hh hc1 hcs hcs2) (grownBy_sortedI [z].toArray) (.inl rfl)
 have e:l.set k (rowOb 3 1 (.slice (some ⟨g,0,none⟩) 1 c) 1 [.int .i64 z])=l:=by
  obtain ⟨hlt,hk⟩:=List.getElem?_eq_some_iff.1 hk;rw [<- hk,List.set_getElem_self]
 rw [<- e];exact this
end
end
section
open Go.RowKit Go.MapKept Go.ChangeMaps Go.Shelf Go.Sort
attribute [local go_sem] wext_cell
def SInv (C:Chs) (o:Nat):Prop:=LAt C/\C.length<=o/\∀ i∈C.map (·.1),okID i/\1<=i.2/\i.2<=4194304
theorem SInv.mono {C:Chs} {o o':Nat} (h:SInv C o) (ho:o<=o'):SInv C o':=⟨h.1,Nat.le_trans h.2.1 ho,h.2.2⟩
theorem SInv.set {C:Chs} {o:Nat} (h:SInv C o) {i:ID} (hi:okID i) (h1:1<=i.2) (h2:i.2<=4194304) {q:Nat} (hq:q<=4194304):SInv (setL C i (.at q)) (o+1):=by
 refine ⟨h.1.set i q hq,Nat.le_trans (setL_length _ _ _) (by have:=h.2.1;omega),fun j hj=>?_⟩;rcases (setL_keys C i (Pl.at q) j).1 hj with hj | hj
 · subst hj;exact ⟨hi,h1,h2⟩
 exact h.2.2 j hj
theorem SInv.found {C:Chs} {o:Nat} (h:SInv C o) {i:ID} (hi:okID i) (h1:1<=i.2) (h2:i.2<=4194304) {q:Nat} (hq:q<=4194304) (bs:List UInt8) (T:List (ID×Bool)):SInv (foundC bs C T i q).1 (o+1):=by
 unfold foundC;split
 · exact h.set hi h1 h2 hq
 · exact h.mono (by omega)
 simp only;split
 · exact h.set hi h1 h2 hq
 exact h.mono (by omega)
theorem scan_inv (bs:List UInt8) (hn:bs.length<=4194304):∀ (n o:Nat) (C:Chs) (T:List (ID×Bool)) (cl:Bool),o<=bs.length->SInv C o->SInv (scanF bs n o C T cl).1 bs.length:=by
 intro n;induction n with
 | zero=>intro o C T cl ho h;exact h.mono ho
 | succ n ih=>
  intro o C T cl ho h;rw [scanF];split
  · cases hr:rdHead bs o with
    | none=>exact ih _ _ _ _ (by omega) (h.mono (by omega))
    | some i=>
     simp only;split
     · exact h.mono ho
     rename_i h1
     obtain ⟨hid,h28⟩:=rdHead_some hr;have hok:okID i:=hid ▸ rdID_ok bs o;exact ih _ _ _ _ (by omega) ((h.found hok (by omega) (by omega) (by omega) bs T).mono (by omega))
  exact h.mono ho
theorem SW.unRange {b:Nat} {w0 w:World} {l:List Ob} (h:SW b w0 l w) (k:Nat) {cm r cnt:Nat} {C done:Chs} (hk:l[k]? =some (itOb cm r C done cnt)) (hC:∀ c∈C,∃ q,c.2=Pl.at q):SW b w0 (l.set k (chOb cm C)) w:=by
 have hr:RIs okID vID vPl w cm r C done cnt:=h.get k hk
 have hp:∀ id d bs,(id,Pl.pend d bs) ∉ C:=fun id d bs hm=>by
  obtain ⟨q,e⟩:=hC _ hm;cases e
 have:=h.1.stepAt k hk (w':=w) (o':=chOb cm C) ⟨rfl,rfl,rfl,zE _,fun _ _ _=>rfl,fun i hi=> .inl (.inl hi)⟩ (fun i hi=>by
  obtain ⟨id,d,bs,hm,_⟩:=hi;exact absurd hm (hp id d bs)) ⟨hr.map,fun id d bs hm=>absurd hm (hp id d bs)⟩ (fun i hi=>by
  rcases hi with hi | ⟨id,d,bs,hm,_⟩
  · have e:i=cm:=hi;rw [e];exact hr.map.lt
  exact absurd hm (hp id d bs))
 exact ⟨this.1,h.2.trans this.2⟩
theorem sizeC_snoc (C:Chs) (c:ID×Pl):sizeC (C++[c])=sizeC C+c.1.2:=by simp [sizeC]
theorem sizeC_perm {C D:Chs} (h:C.Perm D):sizeC C=sizeC D:=by
 induction h with
 | nil=>rfl
 | cons c _ ih=>
  simp only [sizeC,zB,List.sum_cons] at ih |-; rw [ih]
 | swap c d l=>
  simp only [sizeC,zB,List.sum_cons];omega
 | trans _ _ ih1 ih2=>exact ih1.trans ih2
theorem sizeC_le4 (D:Chs) (h:∀ c∈D,1<=c.1.2/\c.1.2<=4194304):0<=sizeC D/\sizeC D<=D.length*4194304:=by
 induction D with
 | nil=>simp [sizeC]
 | cons c D ih=>
  have h1:=ih (fun c hc=>h c (by simp [hc]));have h2:=h c (by simp);have h3:sizeC (c::D)=c.1.2+sizeC D:=by simp [sizeC]
  rw [h3,List.length_cons];omega
end
section
open Go.RowKit Go.MapKept Go.ChangeMaps Go.Shelf Go.Sort
theorem drop_at (a b:List UInt8) (n k:Nat) (h:a.length=n):(a++b).drop (n+k)=b.drop k:=by
 rw [<- h,List.drop_length_add_append]
theorem take_at (a b:List UInt8) (n:Nat) (h:a.length=n):(a++b).take n=a:=by
 rw [<- h,List.take_left]
theorem rdHead_at (pre rest:List UInt8) (i:ID) (h0:0<=i.1) (h1:i.1<18446744073709551616) (h2:0<=i.2) (h3:i.2<=9223372036854775807):rdHead (pre++(headB i 1 pre.length++rest)) pre.length=some i:=by
 have hl:(headB i 1 pre.length).length=28:=headB_len _ _ _;have hD:(pre++(headB i 1 pre.length++rest)).drop pre.length=headB i 1 pre.length++rest:=List.drop_left;have hu1:u64 i.1=i.1.toNat:=by unfold u64;omega
 have hu2:u64 i.2<18446744073709551616:=by unfold u64;omega
 have e4:(pre++(headB i 1 pre.length++rest)).drop (pre.length+4)=le8 (u64 i.2)++(le8 (u64 i.1)++(le8 (fpSum (headA i++putU (2*1)++putU (2*pre.length)))++rest)):=by
  rw [drop_at _ _ _ _ rfl];unfold headB headA;simp only [List.append_assoc];exact drop_at markB _ 4 0 rfl
 have e12:(pre++(headB i 1 pre.length++rest)).drop (pre.length+12)=le8 (u64 i.1)++(le8 (fpSum (headA i++putU (2*1)++putU (2*pre.length)))++rest):=by
  have:pre.length+12=(pre.length+4)+8:=by omega
  rw [this, <- List.drop_drop,e4];exact drop_at (le8 (u64 i.2)) _ 8 0 (le8_len _)
 have hid:rdID (pre++(headB i 1 pre.length++rest)) pre.length=i:=by
  unfold rdID;rw [e4,e12,take_at _ _ 8 (le8_len _),take_at _ _ 8 (le8_len _),leN_le8 _ (by rw [hu1];omega),leN_le8 _ hu2,s64_u64 _ (by omega) h3,hu1];exact Prod.ext (by simp;omega) rfl
 unfold rdHead;rw [hid,if_pos];refine ⟨by simp only [List.length_append];omega,?_⟩;rw [hD,take_at _ _ 28 hl]
end
end Go.Proofs.YteabgcollokgjaaGreatDoor
