/- Contracts of the walk, part 25. -/
import Derived.BigRegion
import Derived.Deep.CutRange
import Derived.Test.YtmiknfneeipkeaaGreatS23
import Derived.Test.YtmiknfneeipkeaaGreatS03
import Derived.Test.YtmiknfneeipkeaaGreatS12
open Go.Lib (hid)
namespace Go.Proofs.YtmiknfneeipkeaaGreat
open Go.RowKit Go.MapKept Go.ChangeMaps Go.Shelf Go.Sort
attribute [local go_sem] wext_cell
def lenS (T:List BS):Nat:=(T.map (·.bs.length)).sum
def idS (T:List BS):List ID:=T.map fun e=>fpOf e.bs
theorem lenS_snoc (T:List BS) (e:BS):lenS (T++[e])=lenS T+e.bs.length:=by simp [lenS]
theorem idS_snoc (T:List BS) (e:BS):idS (T++[e])=idS T++[fpOf e.bs]:=by simp [idS]
theorem lenS_le {T:List BS} {B:Nat} (h:∀ e∈T,e.bs.length<=B):lenS T<=B*T.length:=by
 induction T with
 | nil=>simp [lenS]
 | cons e T ih=>
  have h1:=h e (by simp);have h2:=ih (fun e he=>h e (by simp [he]));have:lenS (e::T)=e.bs.length+lenS T:=by simp [lenS]
  rw [this,List.length_cons,Nat.mul_succ];omega
theorem blOb_rb {w:World} {A:Option Addr} {T:List BS} (h:(blOb A T).holds w) {j:Nat} (hj:j<T.length) {e:BS} (he:T.getD j bs0=e):RB w e.d e.bs:=by
 obtain ⟨_,_,_,_,h5⟩:=blOb_at h hj he;exact h5
section
variable {b:Nat} {w0 w w':World} {l:List Ob}
set_option maxRecDepth 100000 in
set_option maxHeartbeats 8000000 in
theorem rOfM_any (h:SW b w0 l w) {A:Option Addr} {T:List BS} (hA:blOb A T∈l) (c:Nat) (hn:T.length<=100000) (hb:∀ e∈T,e.bs.length<=1000000):
 Calls Tryz.prog 36 #[.slice A T.length c] w (fun e w'=>∃ v,e= .returned (.agg #[.int .i64 ((lenS T:Nat):Int),v])/\SW b w0 (rowOb 36 2 v T.length ((idS T).flatMap encID)::l) w'):=by
 have HA:=hid hA;have HB:=hid hb;have S0:=hid ((h.newCell 33 #[.int .i64 0,.slice none 0 0]).newCellAt 33 #[.int .i64 0,.slice none 0 0] (H:=w.heap.size+1) (by simp));clear h hA hb;obtain ⟨i1,gi,gz0,gz1,gz2⟩:=info_parts info36;obtain ⟨g2,HG2⟩:∃ g2,Hid (w.heap.size=g2):=⟨_,rfl⟩;obtain ⟨g3,HG3⟩:∃ g3,Hid (w.heap.size+1=g3):=⟨_,rfl⟩;obtain ⟨W1,HW1⟩:∃ W1,Hid ((w.alloc (.cells #[.int .i64 0,.slice none 0 0] 33)).alloc (.cells #[.int .i64 0,.slice none 0 0] 33)=W1):=⟨_,rfl⟩;have HN23:Hid (g2≠g3):=by rw [<- HG2.out, <- HG3.out,Hid];omega
 rw [HG3.out,HG2.out,HW1.out] at S0;go_enter Tryz.func36,Tryz.ntmps36;go_upto_region 2 with fail
 rw [HW1.out,HG3.out,HG2.out];clear HW1 HG2 HG3;go_wp2_with fail
 go_loopw [4] (fun s4 wr=>∃ (k:Nat) (v:Value),k<=T.length/\s4= .int .i64 (k:Int)/\SW b w0 (cellOb g3 33 #[.int .i64 ((lenS (T.take k):Nat):Int),v]::rowOb 36 2 v k ((idS (T.take k)).flatMap encID)::cellOb g2 33 #[.int .i64 0,.slice none 0 0]::l) wr) (fun s4 _=>T.length-(intOf s4).toNat)
 case atStart=>exact ⟨0,.slice none 0 0,Nat.zero_le _,rfl,SW.front (pre:=[_,_,_]) (S0.out.newRow 36 2) [1,0,2] (n:=3) rfl (by decide)⟩
 obtain ⟨k,v,hk,rfl,hs⟩:=hrel;have S1:=hid hs;clear hs S0;by_cases hlt:k<T.length
 · obtain ⟨e,HE⟩:∃ e,Hid (T.getD k bs0=e):=⟨_,rfl⟩;have hmem:e∈T:=by rw [<- HE.out];exact getD_mem _ _ _ hlt
   have hbl:=HB.out e hmem
   have hll:lenS (T.take k)<=1000000*k:=by
    have:=lenS_le (T:=T.take k) (B:=1000000) (fun e he=>HB.out e (List.mem_of_mem_take he));rw [List.length_take] at this;exact Nat.le_trans this (Nat.mul_le_mul_left _ (Nat.min_le_left _ _))
   obtain ⟨gA,hAe,_,a0,hrb⟩:=blOb_at (S1.out.1.holds (blOb A T) (by simp [HA.out])) hlt HE.out;have HTS1:Hid (lenS (T.take (k+1))=lenS (T.take k)+e.bs.length):=by rw [Hid,take_snoc _ bs0 _ hlt,lenS_snoc,HE.out]
   have HTS2:Hid (idS (T.take (k+1))=idS (T.take k)++[fpOf e.bs]):=by rw [Hid,take_snoc _ bs0 _ hlt,idS_snoc,HE.out]
   obtain ⟨N,HN⟩:∃ N,Hid (lenS (T.take k)=N):=⟨_,rfl⟩;rw [HN.out] at S1 hll HTS1;have hdl:e.d.len=e.bs.length:=hrb.1.symm;have hwr:IntKind.i64.wrap ((N:Int)+(e.bs.length:Int))=(N:Int)+(e.bs.length:Int):=IntWalk.i64_in _ (by omega);have hki:(k:Int)<(T.length:Int):=by omega
   subst hAe;rw [hdl] at a0;have m0:=(S1.out.cell 0 rfl).cell 0;have f0:=(S1.out.cell 0 rfl).frozen 0;clear hmem hrb;go_upto_region 5 with fail
   go_region
   have S2:=hid (S1.out.setAt 0 rfl 0 (.int .i64 ((N:Int)+(e.bs.length:Int)))).drew;clear S1 m0 f0 a0;generalize World.drew _=W2 at S2 |-
   have S2:Hid (SW b w0 (cellOb g3 33 #[.int .i64 ((lenS (T.take (k+1)):Nat):Int),v]::rowOb 36 2 v k ((idS (T.take k)).flatMap encID)::cellOb g2 33 #[.int .i64 0,.slice none 0 0]::l) W2):=by
    rw [Hid,HTS1.out,Int.natCast_add];exact S2.out
   obtain ⟨gA',hAe,_,a0,hrb⟩:=blOb_at (S2.out.1.holds (blOb (some ⟨gA,0,none⟩) T) (by simp [HA.out])) hlt HE.out;injection hAe with hAe;injection hAe with hAe;subst hAe;rw [hdl] at a0;clear hrb a0;obtain ⟨i,HI⟩:∃ i,Hid (fpOf e.bs=i):=⟨_,rfl⟩;rw [HI.out] at HTS2;obtain ⟨va,vc,rfl⟩:=own_slL (S2.out.get 1 rfl);have S3:=hid S2.out.drew;clear S2;go_upto_region 6 with fail
   have HC:=hid (fun (w':World) (va:Option Addr) (kk:Nat) (vc:Nat) (xs:List Value) (hS:SW b w0 (cellOb g3 33 #[.int .i64 ((lenS (T.take (k+1)):Nat):Int),.slice va k vc]::rowOb 36 2 (.slice va k vc) k xs::cellOb g2 33 #[.int .i64 0,.slice none 0 0]::l) w')=>(show w'.cell? ⟨g3,1,none⟩=some (.slice va k vc)/\w'.cell? ⟨gA,k,none⟩=some (.slice e.d.A e.bs.length e.d.cap) from ⟨(hS.cell 0 rfl).cell 1,by
    obtain ⟨gq,hq,_,a0,_⟩:=blOb_at (hS.1.holds (blOb (some ⟨gA,0,none⟩) T) (by simp [HA.out])) hlt HE.out;injection hq with hq;injection hq with hq;subst hq;rw [hdl] at a0;exact a0⟩))
   refine wp_region_held_tail [(0,true),(1,true),(2,true),(3,true),(4,true),(5,true),(6,false),(7,false),(8,false),(9,true)] (fun w'=>w'.cell? ⟨g3,1,none⟩=some (.slice va k vc)/\w'.cell? ⟨gA,k,none⟩=some (.slice e.d.A e.bs.length e.d.cap)) (by kernel_rfl) (fun _ _ d _ _ h=>by cases d<;>exact h) (by kernel_rfl) (HC.out _ _ 0 _ _ S3.out) ?_;simp only [picked,List.map_cons,List.map_nil,List.getD_cons_succ,List.getD_cons_zero]
   iterate 6
    (refine wpHeld_take (v:=?_) (Or.inl ⟨by rfl,?_⟩) ?_
     rotate_left
     · (intro w' hSw;obtain ⟨h1,h2⟩:=hSw;go_simp;try with_reducible rfl)
     try simp only [Act.put,List.setIfInBounds_toArray,List.set])
   refine wpHeld_run (fun K hK=>?_);go_simp;go_at_call 70
   refine (rOf_any e.d.A e.d.cap e.bs W2.drew (blOb_rb (S3.out.1.holds (blOb (some ⟨gA,0,none⟩) T) (by simp [HA.out])) hlt HE.out).rs (by omega)).mono ?_;rw [HI.out];rintro e2 W4 ⟨rfl,hb4⟩;have S4:=hid (S3.out.on hb4);clear hb4 S3;go_wp2_with fail
   refine hK.out _ _ (HC.out _ _ 0 _ _ S4.out) ?_;clear hK K;try simp only [Act.put,List.setIfInBounds_toArray,List.set]
   refine wpHeld_run (fun K hK=>?_);go_simp;refine hK.out _ _ (HC.out _ _ 0 _ _ (S4.out.alloc _)) ?_;clear hK K;try simp only [Act.put,List.setIfInBounds_toArray,List.set]
   refine wpHeld_run (fun K hK=>?_);refine step_rowS (t:=31) (e:=36) (size:=2) (bytes:=16) (i:=i1) (S4.out.alloc _) 1 rfl (by rfl) (.tmp 21) (.tmp 27) (by rfl) Tryz.underlying31 gi gz0 gz1 gz2 rfl (by omega) (by rfl) ⟨W4.heap.size,0,none⟩ 1 [.int .u64 i.1,.int .i64 i.2] (by rfl) rfl (two_new W4 _ _ 36 _ rfl) (encID_one i) (by unfold maxLen;omega) (by omega) ?_;intro v8 W8 s8;obtain ⟨g8,c8,rfl⟩:=own_some (s8.get 1 rfl) (by omega)
   have S8:Hid (SW b w0 (cellOb g3 33 #[.int .i64 ((lenS (T.take (k+1)):Nat):Int),.slice va k vc]::rowOb 36 2 (.slice (some ⟨g8,0,none⟩) (k+1) c8) (k+1) ((idS (T.take (k+1))).flatMap encID)::cellOb g2 33 #[.int .i64 0,.slice none 0 0]::l) W8):=by
    rw [Hid,HTS2.out,List.flatMap_append];exact s8
   refine hK.out _ _ ⟨(S8.out.cell 0 rfl).cell 1,by
    obtain ⟨gq,hq,_,a0,_⟩:=blOb_at (S8.out.1.holds (blOb (some ⟨gA,0,none⟩) T) (by simp [HA.out])) hlt HE.out;injection hq with hq;injection hq with hq;subst hq;rw [hdl] at a0;exact a0⟩ ?_
   clear hK K s8 S4 HC;try simp only [Act.put,List.setIfInBounds_toArray,List.set]
   (refine wpHeld_take (v:=?_) (Or.inl ⟨by rfl,?_⟩) ?_
    rotate_left
    · (intro w' hSw;obtain ⟨h1,h2⟩:=hSw;go_simp;try with_reducible rfl)
    try simp only [Act.put,List.setIfInBounds_toArray,List.set])
   refine wpHeld_nil ?_;simp only [List.length_cons,List.length_nil,List.drop_succ_cons,List.drop_zero];have k1:=(S8.out.cell 0 rfl).cell 1;have f1:=(S8.out.cell 0 rfl).frozen 1;have S9:Hid (SW b w0 (cellOb g3 33 #[.int .i64 ((lenS (T.take (k+1)):Nat):Int),.slice (some ⟨g8,0,none⟩) (k+1) c8]::rowOb 36 2 (.slice (some ⟨g8,0,none⟩) (k+1) c8) (k+1) ((idS (T.take (k+1))).flatMap encID)::cellOb g2 33 #[.int .i64 0,.slice none 0 0]::l) _):=hid (S8.out.setAt 0 rfl 1 (.slice (some ⟨g8,0,none⟩) (k+1) c8));go_wp2_with fail
   go_roundw
   case rel=>exact ⟨k+1,_,by omega,by go_num,S9.out⟩
   simp [intOf];omega
 obtain rfl:k=T.length:=by omega
 rw [List.take_length] at S1;obtain ⟨va,vc,rfl⟩:=own_slL (S1.out.get 1 rfl);have m0:=(S1.out.cell 0 rfl).cell 0;have m1:=(S1.out.cell 0 rfl).cell 1;have n0:=(S1.out.cell 2 rfl).cell 0;have n1:=(S1.out.cell 2 rfl).cell 1;have f0:=(S1.out.cell 2 rfl).frozen 0;have f1:=(S1.out.cell 2 rfl).frozen 1;have hn23:=HN23.out;have S2:=hid ((S1.out.setAt 2 rfl 0 (.int .i64 ((lenS T:Nat):Int))).setAt 2 rfl 1 (.slice va T.length vc));obtain ⟨N,HN⟩:∃ N,Hid (lenS T=N):=⟨_,rfl⟩;rw [HN.out] at m0 S2;clear S1;go_upto_region 7 with fail
 go_wp2_with fail
 generalize (wr.setCell ⟨g2,0,none⟩ (.int .i64 ((N:Nat):Int))).setCell ⟨g2,1,none⟩ (.slice va T.length vc)=WF at S2 |-; have q0:=(S2.out.cell 2 rfl).cell 0;have q1:=(S2.out.cell 2 rfl).cell 1;refine bodyPost_ret (v:=.agg #[.int .i64 ((N:Nat):Int),.slice va T.length vc]) ?_ rfl ?_
 · simp [results,Tryz.results36,go_sem,q0,q1]
 exact ⟨_,by rw [HN.out],SW.few (pre:=[_,_,_]) S2.out [1] (n:=3) rfl (by decide) (by decide)⟩
end
end Go.Proofs.YtmiknfneeipkeaaGreat
namespace Go.Proofs.YtmiknfneeipkeaaGreat
open Go.RowKit Go.MapKept Go.ChangeMaps Go.Shelf Go.Sort
attribute [local go_sem] wext_cell
def PartB (bs:List UInt8):Prop:=1<=bs.length/\bs.length<=3
def GoodPs (Ps:List (List BS)):Prop:=Ps.length<=3/\∀ T∈Ps,T.length<=3/\∀ e∈T,PartB e.bs
def manT (T:List BS):Man:=⟨((lenS T:Nat):Int),idS T⟩
def mansT (Ps:List (List BS)):List Man:=Ps.map manT
def chOfT (T:List BS):List CH:=T.map (fun e=>(fpOf e.bs,e))
def chsT (Ps:List (List BS)):List CH:=Ps.flatMap chOfT
def allT (Ps:List (List BS)):List BS:=Ps.flatMap (fun T=>T)
theorem chOfT_len (T:List BS):(chOfT T).length=T.length:=by simp [chOfT]
theorem idS_len (T:List BS):(idS T).length=T.length:=by simp [idS]
theorem chsT_snoc (Ps:List (List BS)) (T:List BS):chsT (Ps++[T])=chsT Ps++chOfT T:=by simp [chsT]
theorem allT_snoc (Ps:List (List BS)) (T:List BS):allT (Ps++[T])=allT Ps++T:=by simp [allT]
theorem mansT_snoc (Ps:List (List BS)) (T:List BS):mansT (Ps++[T])=mansT Ps++[manT T]:=by simp [mansT]
theorem chsT_le3:∀ {Ps:List (List BS)},(∀ T∈Ps,T.length<=3)->(chsT Ps).length<=3*Ps.length
 | [],_=>by simp [chsT]
 | T::Ps,h=>by
  have h1:chsT (T::Ps)=chOfT T++chsT Ps:=rfl;have h2:=h T (by simp);have h3:=chsT_le3 (Ps:=Ps) (fun T hT=>h T (by simp [hT]));rw [h1,List.length_append,chOfT_len,List.length_cons];omega
theorem chsT_le {Ps:List (List BS)} (h:GoodPs Ps):(chsT Ps).length<=3*Ps.length:=chsT_le3 (fun T hT=>(h.2 T hT).1)
theorem partB_t {L:List Int} {n:Nat} {v:Nat} (h1:1<=v) (h2:v<=3):PartB (tbytes L n 2 v):=by
 unfold PartB;rw [tbytes_len];exact ⟨h1,h2⟩
theorem info40':(Tryz.prog.info? 40).map (fun i=>(i.zero,i.size,i.bytes))=some (some (.slice none 0 0),1,24):=by kernel_rfl
theorem info33':(Tryz.prog.info? 33).map (fun i=>(i.zero,i.size,i.bytes))=some (some (.agg #[.int .i64 0,.slice none 0 0]),2,32):=by kernel_rfl
theorem info42:(Tryz.prog.info? 42).map (fun i=>(i.zero,i.size,i.bytes))=some (some (.agg #[.int .u64 0,.int .i64 0,.slice none 0 0]),3,40):=by kernel_rfl
section
variable {b:Nat} {w0 w w':World} {l:List Ob} {g:Nat} {A:Option Addr} {c:Nat} {L:List Int} {n:Nat}
theorem SW.bufsMore {A:Option Addr} {T U:List BS} (h:SW b w0 (blOb A T::bufsOb U::l) w):SW b w0 (bufsOb (U++T)::l) w:=
 SW.fuse (pre:=[blOb A T,bufsOb U]) h (fun e he=>by
  rcases List.mem_append.1 he with he | he
  · exact (h.get 1 (o:=bufsOb U) rfl) e he
  · obtain ⟨j,hj,hje⟩:=List.mem_iff_getElem.1 he;exact blOb_rb (h.get 0 (o:=blOb A T) rfl) hj (by rw [List.getD_eq_getElem?_getD,List.getElem?_eq_getElem hj,hje];rfl)) (fun _ h=>h) (fun i hi=>by
  obtain ⟨e,he,hb⟩:=hi;rcases List.mem_append.1 he with he | he
  · exact ⟨bufsOb U,by simp,.inr ⟨e,he,hb⟩⟩
  exact ⟨blOb A T,by simp,.inr (.inr ⟨e,he,hb⟩)⟩)
theorem ri_cells {w:World} {gB:Nat} {ids:List ID} (h:(riOb (some ⟨gB,0,none⟩) ids).holds w) {j:Nat} (hj:j<ids.length) {x:ID} (hx:ids.getD j id0=x):w.cell? ⟨gB,j*2,none⟩=some (.int .u64 x.1)/\w.cell? ⟨gB,j*2+1,none⟩=some (.int .i64 x.2):=by
 obtain ⟨g',hg',hri,_⟩:=h.2 _ rfl;injection hg' with hg';subst hg';have:=hri.cells hj hx;exact ⟨this.1,this.2.1⟩
theorem ri_some {w:World} {B:Option Addr} {ids:List ID} (h:(riOb B ids).holds w) (hp:0<ids.length):∃ gB,B=some ⟨gB,0,none⟩:=by
 cases B with
 | none=>
  rw [h.1 rfl] at hp;cases hp
 | some ad=>
  obtain ⟨g',hg',_⟩:=h.2 _ rfl;exact ⟨g',by rw [hg']⟩
theorem bl_cell {w:World} {gP:Nat} {T:List BS} (h:(blOb (some ⟨gP,0,none⟩) T).holds w) {j:Nat} (hj:j<T.length) {e:BS} (he:T.getD j bs0=e):w.cell? ⟨gP,j,none⟩=some (.slice e.d.A e.d.len e.d.cap):=by
 obtain ⟨g',hg',_,hc,_⟩:=blOb_at h hj he;injection hg' with hg';injection hg' with hg';subst hg';exact hc
theorem bl_some {w:World} {PA:Option Addr} {T:List BS} (h:(blOb PA T).holds w) (hp:0<T.length):∃ gP,PA=some ⟨gP,0,none⟩:=by
 obtain ⟨g',hg',_⟩:=blOb_at h hp rfl;exact ⟨g',hg'⟩
theorem chOfT_take {T:List BS} {i:Nat} (hi:i<T.length) {e:BS} (he:T.getD i bs0=e):(chOfT T).take (i+1)=(chOfT T).take i++[(fpOf e.bs,e)]:=by
 have h:(chOfT T)[i]? =some (fpOf e.bs,e):=by
  rw [List.getD_eq_getElem?_getD,List.getElem?_eq_getElem hi] at he;simp [chOfT,List.getElem?_eq_getElem hi];rw [<- he];simp
 rw [List.take_add_one,h];rfl
theorem idS_at {T:List BS} {i:Nat} (hi:i<T.length) {e:BS} (he:T.getD i bs0=e):(idS T).getD i id0=fpOf e.bs:=by
 rw [<- he];simp [idS,List.getD_eq_getElem?_getD,List.getElem?_eq_getElem hi]
abbrev ContP (b:Nat) (w0:World) (l:List Ob) (g:Nat) (A:Option Addr) (c:Nat) (L:List Int) (n:Nat) (e:Ending) (w':World):Prop:=
 ∃ (Ps:List (List BS)) (rs:List MR) (MA CA:Option Addr) (mc cc n':Nat),e= .returned (.tuple #[.slice MA Ps.length mc,.slice CA (chsT Ps).length cc])/\GoodPs Ps/\n<=n'/\n'<=n+100/\SW b w0 (rowOb 33 2 (.slice MA Ps.length mc) Ps.length (rs.flatMap encMR)::rowOb 42 3 (.slice CA (chsT Ps).length cc) (chsT Ps).length ((chsT Ps).flatMap encCH)::msOb rs (mansT Ps)::bufsOb (allT Ps)::tpOb g A c L n'::l) w'
set_option maxRecDepth 100000 in
set_option maxHeartbeats 8000000 in
theorem contents_any (h:SW b w0 (tpOb g A c L n::l) w) (hn:n<=900000):Calls Tryz.prog 8 #[vPtr g] w (ContP b w0 l g A c L n):=by
 have S0:=hid h;clear h;obtain ⟨ib,bi,bz0,bz1,bz2⟩:=info_parts info40';obtain ⟨im,mi,mz0,mz1,mz2⟩:=info_parts info33';obtain ⟨ic,ci,cz0,cz1,cz2⟩:=info_parts info42;have HN:=hid (Next_x S0.out 0 rfl 4 (by omega) (by omega));go_enter Tryz.func8,Tryz.ntmps8;go_wp2_with (go_at_call 9;(with_reducible refine HN.out.mono ?_);refine halt_ ?_)
 rintro e w1 ⟨rfl,s1⟩
 obtain ⟨k0,hk0,hk1⟩:∃ k:Nat,Hid (tnext L n 4=(k:Int))/\k<=3:=by
  have:=tnext_in L n 4;exact ⟨(tnext L n 4).toNat,by rw [Hid];omega,by omega⟩
 rw [hk0.out];have S1:Hid (SW b w0 (rowOb 33 2 (.slice none 0 0) 0 []::rowOb 42 3 (.slice none 0 0) 0 []::msOb [] []::bufsOb []::tpOb g A c L (n+1)::l) w1):=hid (((SW.noMans (SW.noBufs s1)).newRow 42 3).newRow 33 2);clear s1 HN S0 hk0;go_wp2_with fail
 go_loopw [4,5,6] (fun s4 s5 s6 wr=>∃ (r:Nat) (Ps:List (List BS)) (rs:List MR) (MA CA:Option Addr) (np mc nc cc n1:Nat),s6= .int .i64 (r:Int)/\r+np<=3/\Hid (Ps.length=np)/\Hid ((chsT Ps).length=nc)/\s4= .slice MA np mc/\s5= .slice CA nc cc/\GoodPs Ps/\n<=n1/\n1<=n+1+16*np/\SW b w0 (rowOb 33 2 (.slice MA np mc) np (rs.flatMap encMR)::rowOb 42 3 (.slice CA nc cc) nc ((chsT Ps).flatMap encCH)::msOb rs (mansT Ps)::bufsOb (allT Ps)::tpOb g A c L n1::l) wr) (fun _ _ s6 _=>(intOf s6).toNat)
 case atStart=>exact ⟨k0,[],[],none,none,0,0,0,0,n+1,rfl,by omega,rfl,rfl,rfl,rfl,⟨by simp,by simp⟩,by omega,by omega,S1.out⟩
 obtain ⟨r,Ps,rs,MA,CA,np,mc,nc,cc,n1,rfl,hr,hnp,hnc,rfl,rfl,hgood,hn1,hn2,hs⟩:=hrel;have S2:=hid hs;have HG:=hid hgood;clear hs hgood S1;by_cases hr0:0<r
 · obtain ⟨r,rfl⟩:∃ r',r=r'+1:=⟨r-1,by omega⟩;have S2f:Hid (SW b w0 (tpOb g A c L n1::rowOb 33 2 (.slice MA np mc) np (rs.flatMap encMR)::rowOb 42 3 (.slice CA nc cc) nc ((chsT Ps).flatMap encCH)::msOb rs (mansT Ps)::bufsOb (allT Ps)::l) wr):=SW.front (pre:=[_,_,_,_,_]) S2.out [4,0,1,2,3] (n:=5) rfl (by decide);have HN:=hid (Next_x S2f.out 0 rfl 4 (by omega) (by omega));clear S2;go_wp2_with (go_at_call 9;(with_reducible refine HN.out.mono ?_);refine halt_ ?_)
   rintro e w2 ⟨rfl,s2⟩
   obtain ⟨k2,hk2,hk3⟩:∃ k:Nat,Hid (tnext L n1 4=(k:Int))/\k<=3:=by
    have:=tnext_in L n1 4;exact ⟨(tnext L n1 4).toNat,by rw [Hid];omega,by omega⟩
   rw [hk2.out];have S3:Hid (SW b w0 (rowOb 40 1 (.slice none 0 0) 0 []::bufsOb []::tpOb g A c L (n1+1)::rowOb 33 2 (.slice MA np mc) np (rs.flatMap encMR)::rowOb 42 3 (.slice CA nc cc) nc ((chsT Ps).flatMap encCH)::msOb rs (mansT Ps)::bufsOb (allT Ps)::l) w2):=hid ((SW.noBufs s2).newRow 40 1);clear s2 HN S2f hk2;rename World=>wa;go_wp2_with fail
   go_loopw [7,8] (fun s7 s8 wr=>∃ (q:Nat) (T:List BS) (PA:Option Addr) (pn pc n2:Nat),s8= .int .i64 (q:Int)/\q+pn<=3/\Hid (T.length=pn)/\s7= .slice PA pn pc/\(∀ e∈T,PartB e.bs)/\n<=n2/\n2<=n1+1+5*pn/\SW b w0 (rowOb 40 1 (.slice PA pn pc) pn (T.flatMap encB)::bufsOb T::tpOb g A c L n2::rowOb 33 2 (.slice MA np mc) np (rs.flatMap encMR)::rowOb 42 3 (.slice CA nc cc) nc ((chsT Ps).flatMap encCH)::msOb rs (mansT Ps)::bufsOb (allT Ps)::l) wr) (fun _ s8 _=>(intOf s8).toNat)
   case atStart=>exact ⟨k2,[],none,0,0,n1+1,rfl,by omega,rfl,rfl,by simp,by omega,by omega,S3.out⟩
   obtain ⟨q,T,PA,pn,pc,n2,rfl,hq,hpn,rfl,hpart,hn3,hn4,hs⟩:=hrel;have S4:=hid hs;have HPT:=hid hpart;clear hs hpart S3;by_cases hq0:0<q
   · obtain ⟨q,rfl⟩:∃ q',q=q'+1:=⟨q-1,by omega⟩;have S4f:Hid (SW b w0 (tpOb g A c L n2::rowOb 40 1 (.slice PA pn pc) pn (T.flatMap encB)::bufsOb T::rowOb 33 2 (.slice MA np mc) np (rs.flatMap encMR)::rowOb 42 3 (.slice CA nc cc) nc ((chsT Ps).flatMap encCH)::msOb rs (mansT Ps)::bufsOb (allT Ps)::l) wr):=SW.front (pre:=[_,_,_]) S4.out [2,0,1] (n:=3) rfl (by decide);have HN:=hid (Next_x S4f.out 0 rfl 3 (by omega) (by omega));clear S4;go_wp2_with (go_at_call 9;(with_reducible refine HN.out.mono ?_);refine halt_ ?_)
     rintro e w3 ⟨rfl,s3⟩
     obtain ⟨v,hv,hv1,hv2⟩:∃ v:Nat,Hid (1+tnext L n2 3=(v:Int))/\1<=v/\v<=3:=by
      have:=tnext_in L n2 3;exact ⟨(1+tnext L n2 3).toNat,by rw [Hid];omega,by omega,by omega⟩
     have htv:0<=tnext L n2 3/\tnext L n2 3<3:=by
      have:=tnext_in L n2 3;omega
     obtain ⟨htv1,htv2⟩:=htv;have hv3:=hv.out;have HB:=hid (Bytes_x s3 0 rfl v 2 (by omega) (by omega) (by omega) (by omega));clear s3 HN S4f hv;go_wp2_with (go_at_call 35;(with_reducible refine HB.out.mono ?_);refine halt_ ?_)
     rintro e w4 ⟨d,rfl,s4⟩;have S5:Hid (SW b w0 (bufOb d (tbytes L (n2+1) 2 v)::tpOb g A c L (n2+1+v)::rowOb 40 1 (.slice PA pn pc) pn (T.flatMap encB)::bufsOb T::rowOb 33 2 (.slice MA np mc) np (rs.flatMap encMR)::rowOb 42 3 (.slice CA nc cc) nc ((chsT Ps).flatMap encCH)::msOb rs (mansT Ps)::bufsOb (allT Ps)::l) w4):=s4;have HPB:=hid (partB_t (L:=L) (n:=n2+1) hv1 hv2);obtain ⟨bs,HBS⟩:∃ bs,Hid (tbytes L (n2+1) 2 v=bs):=⟨_,rfl⟩;rw [HBS.out] at S5 HPB;have S6:=hid (S5.out.newCell 40 #[.slice d.A d.len d.cap]);clear s4 HB HBS S5;go_wp2_with (at_builtin;(refine wpList_rowS (t:=56) (e:=40) (size:=1) (bytes:=24) (i:=ib) S6.out 3 rfl (by rfl) (.tmp 23) (.tmp 29) (by rfl) Tryz.underlying56 bi bz0 bz1 bz2 rfl (by omega) (by rfl) ⟨w4.heap.size,0,none⟩ 1 [.slice d.A d.len d.cap] (by rfl) rfl (fun j u hu=>by rw [lit_add,Nat.zero_add,(S6.out.cell 0 rfl).cell, <- Array.getElem?_toList];exact hu) (fun u hu=>by simp only [List.mem_cons,List.not_mem_nil,or_false] at hu;rcases hu with rfl;rfl) (by unfold maxLen;omega) (by omega) ?_);refine halt_ ?_)
     intro v2 w5 s7;obtain ⟨P3,c3,rfl⟩:=own_slice (s7.get 3 rfl:w5.ownsRow 0 40 1 v2 _ _)
     have eT:T.flatMap encB++[Value.slice d.A d.len d.cap]=(T++[(⟨d,bs⟩:BS)]).flatMap encB:=by
      rw [List.flatMap_append];rfl
     rw [eT] at s7;have S8:Hid (SW b w0 (rowOb 40 1 (.slice P3 (pn+1) c3) (pn+1) ((T++[(⟨d,bs⟩:BS)]).flatMap encB)::bufsOb (T++[(⟨d,bs⟩:BS)])::tpOb g A c L (n2+1+v)::rowOb 33 2 (.slice MA np mc) np (rs.flatMap encMR)::rowOb 42 3 (.slice CA nc cc) nc ((chsT Ps).flatMap encCH)::msOb rs (mansT Ps)::bufsOb (allT Ps)::l) w5):=SW.front (pre:=[_,_,_]) (SW.fuseB (SW.few (pre:=[_,_,_,_,_]) s7 [1,4,3,2] (n:=5) rfl (by decide) (by decide))) [1,0,2] (n:=3) rfl (by decide);clear s7 S6 eT;go_wp2_with fail
     go_roundw
     case rel=>exact ⟨q,T++[⟨d,bs⟩],P3,pn+1,c3,n2+1+v,rfl,by omega,by rw [Hid,List.length_append,hpn.out];rfl,rfl,fun e he=>(List.mem_append.1 he).elim (HPT.out e) (fun he=>by rw [List.mem_singleton.1 he];exact HPB.out),by omega,by omega,S8.out⟩
     simp [intOf]
   obtain rfl:q=0:=by omega
   have HPC0:=hid ((RowV.of_own (S4.out.get 0 rfl:wr.ownsRow 0 40 1 (.slice PA pn pc) pn _)).2)
   have SL0:Hid (SW b w0 (blOb PA T::tpOb g A c L n2::rowOb 33 2 (.slice MA np mc) np (rs.flatMap encMR)::rowOb 42 3 (.slice CA nc cc) nc ((chsT Ps).flatMap encCH)::msOb rs (mansT Ps)::bufsOb (allT Ps)::l) wr):=by
    have h1:=S4.out;rw [<- hpn.out] at h1;exact h1.fuseL
   have HOF:Hid (Calls Tryz.prog 36 #[.slice PA pn pc] wr (fun e w'=>∃ B c1,e= .returned (.agg #[.int .i64 ((lenS T:Nat):Int),.slice B pn c1])/\SW b w0 (rowOb 36 2 (.slice B pn c1) pn ((idS T).flatMap encID)::blOb PA T::tpOb g A c L n2::rowOb 33 2 (.slice MA np mc) np (rs.flatMap encMR)::rowOb 42 3 (.slice CA nc cc) nc ((chsT Ps).flatMap encCH)::msOb rs (mansT Ps)::bufsOb (allT Ps)::l) w')):=by
    rw [<- hpn.out];refine hid ((rOfM_any SL0.out (List.mem_cons_self ..) pc (by rw [hpn.out];omega) (fun e he=>by have:=HPT.out e he;unfold PartB at this;omega)).mono ?_);rintro e w' ⟨v,rfl,hs⟩;obtain ⟨B,c1,rfl⟩:=own_slL (hs.get 0 rfl:w'.ownsRow 0 36 2 v _ _);exact ⟨B,c1,rfl,hs⟩
   clear S4 SL0;go_wp2_with (go_at_call 36;(with_reducible refine HOF.out.mono ?_);refine halt_ ?_)
   rintro e w3 ⟨B,c1,rfl,s3⟩;obtain ⟨sz,HSZ⟩:∃ x,Hid (((lenS T:Nat):Int)=x):=⟨_,rfl⟩;rw [HSZ.out];have HPC:Hid (pn<=pc):=HPC0;have hc1:=hid ((RowV.of_own (s3.get 0 rfl:w3.ownsRow 0 36 2 (.slice B pn c1) pn _)).2)
   have S5:Hid (SW b w0 (cellOb w3.heap.size 33 #[.int .i64 sz,.slice B pn c1]::riOb B (idS T)::blOb PA T::tpOb g A c L n2::rowOb 33 2 (.slice MA np mc) np (rs.flatMap encMR)::rowOb 42 3 (.slice CA nc cc) nc ((chsT Ps).flatMap encCH)::msOb rs (mansT Ps)::bufsOb (allT Ps)::l) (w3.alloc (.cells #[.int .i64 sz,.slice B pn c1] 33))):=by
    have e1:(idS T).length=pn:=by rw [idS_len,hpn.out]
    have h2:SW b w0 (riOb B (idS T)::blOb PA T::tpOb g A c L n2::rowOb 33 2 (.slice MA np mc) np (rs.flatMap encMR)::rowOb 42 3 (.slice CA nc cc) nc ((chsT Ps).flatMap encCH)::msOb rs (mansT Ps)::bufsOb (allT Ps)::l) w3:=by
     have h1:=s3;rw [<- e1] at h1;exact h1.rowRi
    exact hid (h2.newCell 33 _)
   clear s3 HOF;go_upto_region 12 with fail
   obtain ⟨w4,HW⟩:∃ W,Hid (w3.alloc (.cells #[.int .i64 sz,.slice B pn c1] 33)=W):=⟨_,rfl⟩;obtain ⟨g9,HX⟩:∃ x,Hid (w3.heap.size=x):=⟨_,rfl⟩;rw [HW.out,HX.out] at S5 |-; clear HW HX;have a0:w4.cell? ⟨g9,0,none⟩=some (.int .i64 sz):=(S5.out.cell 0 rfl).cell 0;have a1:w4.cell? ⟨g9,1,none⟩=some (.slice B pn c1):=(S5.out.cell 0 rfl).cell 1;have S6:=hid (S5.out.newCell 33 #[.int .i64 sz,.slice B pn c1]);clear S5;go_wp2_with (at_builtin;(refine wpList_rowS (t:=27) (e:=33) (size:=2) (bytes:=32) (i:=im) S6.out 5 rfl (by rfl) (.tmp 33) (.tmp 35) (by rfl) Tryz.underlying27 mi mz0 mz1 mz2 rfl (by omega) (by rfl) ⟨w4.heap.size,0,none⟩ 1 [.int .i64 sz,.slice B pn c1] (by rfl) rfl (fun j u hu=>by rw [lit_add,Nat.zero_add,(S6.out.cell 0 rfl).cell, <- Array.getElem?_toList];exact hu) (fun u hu=>by simp only [List.mem_cons,List.not_mem_nil,or_false] at hu;rcases hu with rfl | rfl<;>rfl) (by unfold maxLen;omega) (by omega) ?_);refine halt_ ?_)
   intro v2 w5 s7;obtain ⟨M3,m3,rfl⟩:=own_slice (s7.get 5 rfl:w5.ownsRow 0 33 2 v2 _ _)
   have eR:rs.flatMap encMR++[Value.int .i64 sz,.slice B pn c1]=(rs++[(⟨sz,B,pn,c1⟩:MR)]).flatMap encMR:=by
    rw [List.flatMap_append];rfl
   rw [eR] at s7;have S8:Hid (SW b w0 (rowOb 42 3 (.slice CA nc cc) nc ((chsT Ps).flatMap encCH)::cellOb g9 33 #[.int .i64 sz,.slice B pn c1]::riOb B (idS T)::blOb PA T::rowOb 33 2 (.slice M3 (np+1) m3) (np+1) ((rs++[(⟨sz,B,pn,c1⟩:MR)]).flatMap encMR)::msOb rs (mansT Ps)::bufsOb (allT Ps)::tpOb g A c L n2::l) w5):=SW.few (pre:=[_,_,_,_,_,_,_,_,_]) s7 [6,1,2,3,5,7,8,4] (n:=9) rfl (by decide) (by decide);clear s7 S6 eR a0 a1;go_wp2_with fail
   go_loopw [5,10] (fun s5 s10 wr=>∃ (i:Nat) (C5:Option Addr) (c5:Nat),s10= .int .i64 (i:Int)/\i<=pn/\s5= .slice C5 (nc+i) c5/\SW b w0 (rowOb 42 3 (.slice C5 (nc+i) c5) (nc+i) ((chsT Ps++(chOfT T).take i).flatMap encCH)::cellOb g9 33 #[.int .i64 sz,.slice B pn c1]::riOb B (idS T)::blOb PA T::rowOb 33 2 (.slice M3 (np+1) m3) (np+1) ((rs++[(⟨sz,B,pn,c1⟩:MR)]).flatMap encMR)::msOb rs (mansT Ps)::bufsOb (allT Ps)::tpOb g A c L n2::l) wr) (fun _ s10 _=>pn-(intOf s10).toNat)
   case atStart=>exact ⟨0,CA,cc,rfl,Nat.zero_le _,rfl,by rw [List.take_zero,List.append_nil];exact S8.out⟩
   obtain ⟨i,C5,c5,rfl,hi,rfl,hs⟩:=hrel;have S9:=hid hs;clear hs S8;by_cases hi0:i<pn
   · have hiT:i<T.length:=by rw [hpn.out];exact hi0
     obtain ⟨gB,rfl⟩:=ri_some (S9.out.get 2 rfl:(riOb B (idS T)).holds wr) (by rw [idS_len];omega);obtain ⟨gP,rfl⟩:=bl_some (S9.out.get 3 rfl:(blOb PA T).holds wr) (by omega);have hpc:=hid (show pn<=pc from HPC.out)
     have hnc9:nc<=9:=by
      have h1:=chsT_le HG.out;have h2:=hnc.out;have h3:=hnp.out;omega
     obtain ⟨e,HE⟩:∃ e,Hid (T.getD i bs0=e):=⟨_,rfl⟩;obtain ⟨x,HX⟩:∃ x,Hid (fpOf e.bs=x):=⟨_,rfl⟩;go_upto_region 16 with fail
     refine wp_region_held_tail [(0,true),(1,true),(2,true),(3,true),(4,true),(5,true),(6,true),(7,true),(8,true),(9,true),(10,true),(11,false)] (fun w'=>SW b w0 (rowOb 42 3 (.slice C5 (nc+i) c5) (nc+i) ((chsT Ps++(chOfT T).take i).flatMap encCH)::cellOb g9 33 #[.int .i64 sz,.slice (some ⟨gB,0,none⟩) pn c1]::riOb (some ⟨gB,0,none⟩) (idS T)::blOb (some ⟨gP,0,none⟩) T::rowOb 33 2 (.slice M3 (np+1) m3) (np+1) ((rs++[(⟨sz,some ⟨gB,0,none⟩,pn,c1⟩:MR)]).flatMap encMR)::msOb rs (mansT Ps)::bufsOb (allT Ps)::tpOb g A c L n2::l) w') (by kernel_rfl) (fun _ _ d _ _ h=>by cases d<;>exact h) (by kernel_rfl) (S9.out.drew) ?_;simp only [picked,List.map_cons,List.map_nil,List.getD_cons_succ,List.getD_cons_zero]
     iterate 11
      (refine wpHeld_take (v:=?_) (Or.inl ⟨by rfl,?_⟩) ?_
       rotate_left
       · (intro w' hSw;have f1:w'.cell? ⟨g9,1,none⟩=some (.slice (some ⟨gB,0,none⟩) pn c1):=(hSw.cell 1 rfl).cell 1;have f2:=ri_cells (hSw.get 2 rfl:(riOb (some ⟨gB,0,none⟩) (idS T)).holds w') (by rw [idS_len];exact hiT) ((idS_at hiT HE.out).trans HX.out);have f3:=f2.1;have f4:=f2.2;have f5:=bl_cell (hSw.get 3 rfl:(blOb (some ⟨gP,0,none⟩) T).holds w') hiT HE.out;have hc1':=hc1.out;have hpc':=hpc.out;go_simp;try with_reducible rfl)
       try simp only [Act.put,List.setIfInBounds_toArray,List.set])
     refine wpHeld_run (fun K hK=>?_);have S10:=hid ((S9.out.newCell 42 #[.int .u64 x.1,.int .i64 x.2,.slice e.d.A e.d.len e.d.cap]).drew);clear S9;go_simp;refine hK.out _ _ S10.out.tail ?_;clear hK K;try simp only [Act.put,List.setIfInBounds_toArray,List.set]
     refine wpHeld_nil ?_;simp only [List.length_cons,List.length_nil,List.drop_succ_cons,List.drop_zero];refine wpList_rowS (t:=23) (e:=42) (size:=3) (bytes:=40) (i:=ic) S10.out 1 rfl (by rfl) (.tmp 43) (.tmp 54) (by rfl) Tryz.underlying23 ci cz0 cz1 cz2 rfl (by omega) (by rfl) ⟨wr.heap.size,0,none⟩ 1 [.int .u64 x.1,.int .i64 x.2,.slice e.d.A e.d.len e.d.cap] (by rfl) rfl (fun j u hu=>by rw [lit_add,Nat.zero_add,(S10.out.cell 0 rfl).cell, <- Array.getElem?_toList];exact hu) (fun u hu=>by simp only [List.mem_cons,List.not_mem_nil,or_false] at hu;rcases hu with rfl | rfl | rfl<;>rfl) (by unfold maxLen;omega) (by omega) ?_;intro v2 w5 s7;obtain ⟨C6,c6,rfl⟩:=own_slice (s7.get 1 rfl:w5.ownsRow 0 42 3 v2 _ _)
     have eC:(chsT Ps++(chOfT T).take i).flatMap encCH++[Value.int .u64 x.1,.int .i64 x.2,.slice e.d.A e.d.len e.d.cap]=(chsT Ps++(chOfT T).take (i+1)).flatMap encCH:=by
      rw [chOfT_take hiT HE.out, <- List.append_assoc,List.flatMap_append (ys:=[_]),HX.out];rfl
     rw [eC] at s7;have S11:=hid s7.tail;clear s7 S10 eC;go_wp2_with fail
     go_roundw
     case rel=>exact ⟨i+1,C6,c6,by go_num,by omega,rfl,S11.out⟩
     simp [intOf];omega
   obtain ⟨e,he⟩:∃ e,Hid (e=i):=⟨_,rfl⟩;obtain rfl:pn=i:=by omega
   clear he e;have e1:(idS T).length=pn:=by rw [idS_len,hpn.out]
   have e2:(chOfT T).take pn=chOfT T:=List.take_of_length_le (by rw [chOfT_len,hpn.out];exact Nat.le_refl _)
   have SF:Hid (SW b w0 (rowOb 33 2 (.slice M3 (np+1) m3) (np+1) ((rs++[(⟨sz,B,pn,c1⟩:MR)]).flatMap encMR)::rowOb 42 3 (.slice C5 (nc+pn) c5) (nc+pn) ((chsT (Ps++[T])).flatMap encCH)::msOb (rs++[(⟨sz,B,pn,c1⟩:MR)]) (mansT (Ps++[T]))::bufsOb (allT (Ps++[T]))::tpOb g A c L n2::l) wr):=by
    have h1:=S9.out;rw [e2] at h1;have h2:=SW.fuseM (z:=sz) (c:=c1) (SW.few (pre:=[_,_,_,_,_,_,_,_]) h1 [2,5,3,6,0,4,7] (n:=8) rfl (by decide) (by decide)) (by rw [e1];exact hc1.out);have h3:=SW.bufsMore (SW.front (pre:=[_,_,_,_,_,_]) h2 [1,2,0,3,4,5] (n:=6) rfl (by decide));have h4:=SW.front (pre:=[_,_,_,_,_]) h3 [3,2,1,0,4] (n:=5) rfl (by decide);rw [e1, <- HSZ.out] at h4;rw [Hid,chsT_snoc,allT_snoc,mansT_snoc, <- HSZ.out];exact h4
   have hg2:Hid (GoodPs (Ps++[T])):=hid ⟨by rw [List.length_append,hnp.out];simp;omega,fun U hU=>by
    rcases List.mem_append.1 hU with hU | hU
    · exact HG.out.2 U hU
    rw [List.mem_singleton.1 hU];exact ⟨by rw [hpn.out];omega,HPT.out⟩⟩
   have hl1:Hid ((Ps++[T]).length=np+1):=by rw [Hid,List.length_append,hnp.out];rfl
   have hl2:Hid ((chsT (Ps++[T])).length=nc+pn):=by rw [Hid,chsT_snoc,List.length_append,hnc.out,chOfT_len,hpn.out]
   clear S9 e1 e2;go_wp2_with fail
   go_roundw
   case rel=>exact ⟨r,Ps++[T],rs++[⟨sz,B,pn,c1⟩],M3,C5,np+1,m3,nc+pn,c5,n2,rfl,by omega,hl1,hl2,rfl,rfl,hg2.out,by omega,by omega,SF.out⟩
   simp [intOf]
 obtain rfl:r=0:=by omega
 go_wp2_with fail
 refine bodyPost_ret (results_tmp2 rfl _ _ _) rfl ?_;have h1:=S2.out;have h2:=hnp.out;have h3:=hnc.out;subst h2;subst h3;exact ⟨Ps,rs,MA,CA,mc,cc,n1,rfl,HG.out,by omega,by omega,h1⟩
end
end Go.Proofs.YtmiknfneeipkeaaGreat
