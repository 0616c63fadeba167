/- Q -/
import Derived.Test.YteabgcollokgjaaGreatDoorQ31
set_option linter.unusedSimpArgs false
set_option linter.unusedVariables false
set_option maxRecDepth 100000
set_option maxHeartbeats 32000000
open Go.Lib (hid)
open List renaming take_length → zA,setIfInBounds_toArray → zB
namespace Go.Proofs.YteabgcollokgjaaGreatDoor
section
open Go.RowKit Go.MapKept Go.ChangeMaps Go.Shelf Go.Sort

section
variable {b:Nat} {w0 w w':World} {l:List Ob}
theorem own_slL {e:TypeId} {size n:Nat} {v:Value} {xs:List Value} (h:w.ownsRow 0 e size v n xs):∃ A c,v= .slice A n c:=by
 rcases h.2 with ⟨hv,h2⟩ | ⟨g,cap,cur,hv,_⟩
 · exact ⟨none,0,by rw [hv,h2]⟩
 exact ⟨some ⟨g,0,none⟩,cap,hv⟩
end
def lenS (T:List BS):Nat:=(T.map (·.bs.length)).sum
def idS (T:List BS):List ID:=T.map fun e=>fpOf e.bs
theorem idS_snoc (T:List BS) (e:BS):idS (T++[e])=idS T++[fpOf e.bs]:=by simp [idS]
theorem lenS_le {T:List BS} {B:Nat} (h:∀ e∈T,e.bs.length<=B):lenS T<=B*T.length:=by
 induction T with
 | nil=>simp [lenS]
 | cons e T ih=>
  have h1:=h e (by simp);have h2:=ih (fun e he=>h e (by simp [he]));have:lenS (e::T)=e.bs.length+lenS T:=by simp [lenS]
  rw [this,List.length_cons,Nat.mul_succ];omega
theorem blOb_rb {w:World} {A:Option Addr} {T:List BS} (h:(blOb A T).holds w) {j:Nat} (hj:j<T.length) {e:BS} (he:T.getD j bs0=e):RB w e.d e.bs:=by
 obtain ⟨_,_,_,_,h5⟩:=blOb_at h hj he;exact h5
theorem validB_fp {bs:List UInt8} (h1:1<=bs.length) (h2:bs.length<=8192):chunkB (fpOf bs)=true:=by
 have h:=fpSum_lt bs;unfold pP at h;have e:fpOf bs=(((fpSum bs:Nat):Int),((bs.length:Nat):Int)):=rfl;rw [e];simp only [chunkB,validB,Bool.and_eq_true,Bool.or_eq_true,decide_eq_true_eq,beq_iff_eq];omega
theorem sumZ_idS (T:List BS):sumZ (idS T)=((lenS T:Nat):Int):=by
 induction T with
 | nil=>rfl
 | cons e T ih=>
  have h1:sumZ (idS (e::T))=(e.bs.length:Int)+sumZ (idS T):=rfl;have h2:lenS (e::T)=e.bs.length+lenS T:=by simp [lenS]
  rw [h1,h2,ih,Int.natCast_add]
theorem manE_idS {T:List BS} (hn:T.length<=100) (hb:∀ e∈T,1<=e.bs.length/\e.bs.length<=8192):manE ⟨((lenS T:Nat):Int),idS T⟩=0:=by
 have hl:=lenS_le (fun e he=>(hb e he).2);have h2:8192*T.length<=819200:=by omega
 rw [manE_end (by simp [idS];omega) (by
  rw [List.all_eq_true];intro i hi;obtain ⟨e,he,rfl⟩:=List.mem_map.1 hi;exact validB_fp (hb e he).1 (hb e he).2)]
 rw [if_pos ⟨(sumZ_idS T).symm,by simp only;omega⟩]
abbrev PC:=Nat×Int
def encPc (p:PC):List Value:=[.int .i64 (p.1:Int),.int .i64 0,.int .i64 p.2]
theorem encPc_len (p:PC):(encPc p).length=3:=rfl
theorem encPc_one (p:PC):∀ u∈encPc p,u.oneCell'=true:=by
 intro u hu;simp [encPc] at hu;rcases hu with rfl | rfl | rfl<;>rfl
def pcs (ids:List ID) (k:Nat):List PC:=(List.range k).map fun j=>(j,(ids.getD j id0).2)
theorem pcs_succ (ids:List ID) (k:Nat):pcs ids (k+1)=pcs ids k++[(k,(ids.getD k id0).2)]:=by simp [pcs,List.range_succ]
theorem pcs_len (ids:List ID) (k:Nat):(pcs ids k).length=k:=by simp [pcs]
theorem pcs_at (ids:List ID) {k j:Nat} (h:j<k):(pcs ids k).getD j (0,0)=(j,(ids.getD j id0).2):=by simp [pcs,List.getD_eq_getElem?_getD,h]
theorem sum_take_succ {l:List ID} {k:Nat} (h:k<l.length):sumZ (l.take (k+1))=sumZ (l.take k)+(l.getD k id0).2:=by rw [take_snoc _ id0 _ h,sumZ_snoc]
theorem sum_take_le {l:List ID} (hc:l.all chunkB=true) (k:Nat):0<=sumZ (l.take k)/\sumZ (l.take k)<=sumZ l:=by
 have h0:∀ q:List ID,q.all chunkB=true->0<=sumZ q:=fun q hq=>by
  have:=(sum_take_bd (l:=q) (k:=q.length) (by rw [zA];exact hq)).1;rwa [zA] at this
 rw [List.all_eq_true] at hc
 have e:sumZ l=sumZ (l.take k)+sumZ (l.drop k):=by
  unfold sumZ;rw [<- List.sum_append, <- List.map_append,List.take_append_drop]
 have h1:=h0 (l.take k) (List.all_eq_true.2 (fun x hx=>hc x (List.mem_of_mem_take hx)));have h2:=h0 (l.drop k) (List.all_eq_true.2 (fun x hx=>hc x (List.mem_of_mem_drop hx)));omega
theorem manE_size {m:Man} (h:manE m=0):m.size=sumZ m.ids/\m.size<=1048576:=by
 have h1:=manE_len h;have h2:=manE_all h;rw [manE_end h1 h2] at h;split at h
 · assumption
 cases h
theorem info251:(Tryz.prog.info? 251).map (fun i=>(i.zero,i.size,i.bytes))=some (some (.agg #[.int .i64 0,.int .i64 0,.int .i64 0]),3,24):=by kernel_rfl
section
variable {b:Nat} {w0 w w':World} {l:List Ob}
theorem Slice_any (h:SW b w0 l w) (z:Int) (ids:List ID) (A:Option Addr) (c:Nat) (hA:riOb A ids∈l) (hE:manE ⟨z,ids⟩=0):
 Calls Tryz.prog 162 #[.agg #[.int .i64 z,.slice A ids.length c],.int .i64 0,.int .i64 z] w (fun e w'=>∃ v,e= .returned (.tuple #[v,.int .i64 0])/\SW b w0 (rowOb 251 3 v ids.length ((pcs ids ids.length).flatMap encPc)::l) w'):=by
 have HA:=hid hA;have hl:ids.length<=1024:=manE_len hE;obtain ⟨hs1,hs2⟩:z=sumZ ids/\z<=1048576:=manE_size hE;have hall:ids.all chunkB=true:=manE_all hE;have hnn:=sum_take_le hall ids.length;rw [zA] at hnn;have HALL:=hid hall;have S1:=hid (h.newCell 89 #[.int .i64 z,.slice A ids.length c]);have HCK:=hid (manCheck_any _ ⟨z,ids⟩ A c _ (rdID_of (S1.out.1.holds (riOb A ids) (by simp [HA.out]))) (by simp only;omega));rw [hE] at HCK;have HE:=hid hE;obtain ⟨i1,gi,gz0,gz1,gz2⟩:=info_parts info251;have HS1:=hid hs1;have hz00:0<=z:=by omega
 clear h hA hall hE hs1 hnn;have hz0:decide ((0:Int)>z)=false:=decide_eq_false (by omega);have hz1:decide (z>z)=false:=decide_eq_false (by omega);go_enter Tryz.func162,Tryz.ntmps162;go_wp2_with (go_at_call 108;(with_reducible refine HCK.out.mono ?_);refine halt_ ?_)
 rintro e w1 ⟨rfl,hb1⟩;have S2:=hid (S1.out.on hb1);have m0:w1.cell? ⟨w.heap.size,0,none⟩=some (.int .i64 z):=(S2.out.cell 0 rfl).cell 0;have m1:w1.cell? ⟨w.heap.size,1,none⟩=some (.slice A ids.length c):=(S2.out.cell 0 rfl).cell 1;clear hb1 HCK S1;go_wp2_with fail
 go_loopw [9,10,36] (fun s9 s10 s36 wr=>∃ k:Nat,k<=ids.length/\s36= .int .i64 (k:Int)/\s10= .int .i64 (sumZ (ids.take k))/\SW b w0 (rowOb 251 3 s9 k ((pcs ids k).flatMap encPc)::cellOb w.heap.size 89 #[.int .i64 z,.slice A ids.length c]::l) wr) (fun _ _ s36 _=>ids.length-(intOf s36).toNat)
 case atStart=>exact ⟨0,Nat.zero_le _,rfl,rfl,S2.out.newRow 251 3⟩
 obtain ⟨k,hk,rfl,rfl,hs⟩:=hrel;have S3:=hid hs;clear hs S2 m0 m1;by_cases hlt:k<ids.length
 · obtain ⟨i,hik⟩:∃ i,ids.getD k id0=i:=⟨_,rfl⟩;obtain ⟨g1,e1,a0,a1⟩:=S3.out.rowCell (A:=A) (ids:=ids) (by simp [HA.out]) hlt hik
   have hch:chunkB i=true:=by
    have h1:=HALL.out;rw [List.all_eq_true] at h1;exact h1 i (by rw [<- hik];exact getD_mem _ _ _ hlt)
   obtain ⟨hc1,hc2⟩:=chunkB_sound hch;obtain ⟨b1,b2⟩:=sum_take_le HALL.out k;obtain ⟨b3,b4⟩:=sum_take_le HALL.out (k+1);have hss:=sum_take_succ hlt;rw [hik] at hss;have HSS:=hid hss;have HPS:Hid (pcs ids (k+1)=pcs ids k++[(k,i.2)]):=by rw [Hid,pcs_succ,hik]
   rw [hss] at b3 b4;obtain ⟨N,HN⟩:∃ N,Hid (sumZ (ids.take k)=N):=⟨_,rfl⟩;rw [HN.out] at HSS b1 b2 b3 b4 |-; rw [<- HS1.out] at b2 b4;subst e1;clear hik hch hss;have hwr:IntKind.i64.wrap (N+i.2)=N+i.2:=IntWalk.i64_in _ (by omega);have hmx:max 0 N=N:=Int.max_eq_right b1;have hmn:min z (N+i.2)=N+i.2:=Int.min_eq_right (by omega);have HMX:=hid hmx;have HMN:=hid hmn;clear hmx hmn;have hw0:IntKind.i64.wrap (N-N)=0:=by rw [Int.sub_self];exact IntWalk.i64_in _ (by omega)
   have hw1:IntKind.i64.wrap (N+i.2-N)=i.2:=by rw [Int.add_comm,Int.add_sub_cancel];exact IntWalk.i64_in _ (by omega)
   have hlt2:decide (N<N+i.2)=true:=decide_eq_true (by omega);have hki:(k:Int)<(ids.length:Int):=by omega
   have S4:=hid (S3.out.newCell 31 #[.int .u64 i.1,.int .i64 i.2]);have d1:(wr.alloc (.cells #[.int .u64 i.1,.int .i64 i.2] 31)).cell? ⟨wr.heap.size,1,none⟩=some (.int .i64 i.2):=(S4.out.cell 0 rfl).cell 1;go_upto_region 11 with fail
   generalize wr.alloc (.cells #[.int .u64 i.1,.int .i64 i.2] 31)=W4 at S4 d1 |-; clear S3 a0 a1;go_region
   rw [HMX.out,HMN.out];have S5:=hid S4.out.drew;clear S4 d1;generalize W4.drew=W5 at S5 |-; have S6:Hid (SW b w0 (rowOb 251 3 u9 k ((pcs ids k).flatMap encPc)::cellOb wr.heap.size 31 #[.int .u64 i.1,.int .i64 i.2]::cellOb w.heap.size 89 #[.int .i64 z,.slice (some ⟨g1,0,none⟩) ids.length c]::l) W5):=SW.front (pre:=[_,_]) S5.out [1,0] (n:=2) rfl (by decide);clear S5;go_wp2_with (at_builtin;(refine wpList_rowS (t:=243) (e:=251) (size:=3) (bytes:=24) (i:=i1) (S6.out.alloc _) 0 rfl (by rfl) (.tmp 53) (.tmp 62) (by rfl) Tryz.underlying243 gi gz0 gz1 gz2 rfl (by omega) (by rfl) ⟨W5.heap.size,0,none⟩ 1 [.int .i64 (k:Int),.int .i64 0,.int .i64 i.2] (by rfl) rfl (three_new W5 _ _ _ 251 _ rfl) (encPc_one (k,i.2)) (by unfold maxLen;omega) (by omega) ?_);refine halt_ ?_)
   intro v4 w6 s7
   have S7:Hid (SW b w0 (rowOb 251 3 v4 (k+1) ((pcs ids (k+1)).flatMap encPc)::cellOb wr.heap.size 31 #[.int .u64 i.1,.int .i64 i.2]::cellOb w.heap.size 89 #[.int .i64 z,.slice (some ⟨g1,0,none⟩) ids.length c]::l) w6):=by
    rw [Hid,HPS.out,List.flatMap_append];exact s7
   have d1:w6.cell? ⟨wr.heap.size,1,none⟩=some (.int .i64 i.2):=(S7.out.cell 1 rfl).cell 1;clear s7 S6;go_wp2_with fail
   go_roundw
   case rel=>exact ⟨k+1,by omega,by go_num,by rw [HSS.out],SW.few (pre:=[_,_,_]) S7.out [0,2] (n:=3) rfl (by decide) (by decide)⟩
   simp [intOf];omega
 obtain rfl:k=ids.length:=by omega
 go_wp2_with fail
 go_ret2;exact ⟨_,rfl,SW.few (pre:=[_,_]) S3.out [0] (n:=2) rfl (by decide) (by decide)⟩
end
abbrev CH:=ID×BS
def vBS (e:BS):Value:=.slice e.d.A e.d.len e.d.cap
def encCH (e:CH):List Value:=[.int .u64 e.1.1,.int .i64 e.1.2,vBS e.2]
def ch0:CH:=(id0,bs0)
theorem encCH_len (e:CH):(encCH e).length=3:=rfl
theorem encCH_one (e:CH):∀ u∈encCH e,u.oneCell'=true:=by
 intro u hu;simp [encCH,vBS] at hu;rcases hu with rfl | rfl | rfl<;>rfl
def ckOb (A:Option Addr) (T:List CH):Ob where
 own:=fun _=>False
 rd:=fun i=>(0<T.length/\A=some ⟨i,0,none⟩)∨∃ e∈T,blk e.2.d=some i
 holds:=fun w=>RowV w 65 3 A T.length (T.flatMap encCH)/\∀ e∈T,RB w e.2.d e.2.bs
 stable:=fun w w' h hs hk=>by
  refine ⟨h.1.same (fun i hn e=>hk i (.inr (.inl ⟨hn,e⟩))),fun e he=>?_⟩;have hc:Ch w w' (fun i=>¬ blk e.2.d=some i) []:=⟨hs.1,hs.2.1,hs.2.2.1,hs.2.2.2,fun i _ hn _=>hk i (.inr (.inr ⟨e,he,Classical.not_not.1 hn⟩)),by simp⟩;exact (h.2 e he).ch hc (fun g hg hn=>hn hg) (by simp)
theorem ckOb_at {w:World} {A:Option Addr} {T:List CH} (h:(ckOb A T).holds w) {j:Nat} (hj:j<T.length) {i:ID} {e:BS} (he:T.getD j ch0=(i,e)):∃ g,A=some ⟨g,0,none⟩/\g<w.heap.size/\w.cell? ⟨g,j*3,none⟩=some (.int .u64 i.1)/\w.cell? ⟨g,j*3+1,none⟩=some (.int .i64 i.2)/\w.cell? ⟨g,j*3+2,none⟩=some (.slice e.d.A e.d.len e.d.cap)/\RB w e.d e.bs:=by
 obtain ⟨g,e1,hlt,hc⟩:=h.1.at (by omega);have hf:=fun a (ha:a<3)=>flat_at encCH_len ch0 T j a hj ha;rw [he] at hf;have hm:(i,e)∈T:=by rw [<- he];exact getD_mem _ _ _ hj
 refine ⟨g,e1,hlt,?_,?_,?_,h.2 (i,e) hm⟩
 · have:=hf 0 (by omega);rw [Nat.add_zero] at this;rw [hc (j*3) (by omega),this];rfl
 · rw [hc (j*3+1) (by omega),hf 1 (by omega)];rfl
 rw [hc (j*3+2) (by omega),hf 2 (by omega)];rfl
def fstL (T:List CH):List (ID×BS):=T.foldl (fun L e=>if (asc L e.1).isSome then L else setL L e.1 e.2) []
theorem fstL_snoc (T:List CH) (e:CH):fstL (T++[e])=if (asc (fstL T) e.1).isSome then fstL T else setL (fstL T) e.1 e.2:=by
 unfold fstL;rw [List.foldl_append];rfl
theorem zero34 (W:World):(zeroValue 34).run Tryz.prog W= .ok (.slice none 0 0) W:=by kernel_rfl
theorem info65':(Tryz.prog.info? 65).map (fun i=>(i.zero,i.size,i.bytes))=some (some (.agg #[.int .u64 0,.int .i64 0,.slice none 0 0]),3,40):=by kernel_rfl
section
variable {b:Nat} {w0 w w':World} {l:List Ob}
theorem shelf_any (h:SW b w0 l w) {A:Option Addr} {T:List CH} (hA:ckOb A T∈l) (hok:∀ e∈T,okID e.1) (c:Nat) (hn:T.length<=100000):
 Calls Tryz.prog 163 #[.slice A T.length c] w (fun e w'=>∃ m1 m2,e= .returned (.agg #[.map (some m1),.map (some m2)])/\SW b w0 (mpOb okID vID vBS m1 (fstL T)::mpOb okID vID vBl m2 ([]:List (ID×Bool))::l) w'):=by
 have HA:=hid hA;have HOK:=hid hok;have hmk:∀ W:World,(Instr.makeMap 246 (some (.int .i64 (T.length:Int)))).run Tryz.prog W= .ok (.map (some W.heap.size)) (W.alloc (.map #[] 0)):=fun W=>by simp [Instr.makeMap,run_underlying Tryz.underlying246,asInt,asIntOf]
 have hmk2:∀ W:World,(Instr.makeMap 143 none).run Tryz.prog W= .ok (.map (some W.heap.size)) (W.alloc (.map #[] 0)):=fun W=>by simp [Instr.makeMap,run_underlying Tryz.underlying143,asInt,asIntOf]
 have S0:=hid (h.newCell 248 #[.map none,.map none]);have S1:=hid ((S0.out.addMp (ok:=okID) (kv:=vID) (vv:=vBS)).addMp (ok:=okID) (kv:=vID) (vv:=vBl));clear h hA hok;go_enter Tryz.func163,Tryz.ntmps163;go_upto_region 2 with fail
 have S2:Hid (SW b w0 (cellOb (w.heap.size+1+1+1) 248 #[.map (some (w.heap.size+1)),.map (some (w.heap.size+1+1))]::mpOb okID vID vBl (w.heap.size+1+1) ([]:List (ID×Bool))::mpOb okID vID vBS (w.heap.size+1) ([]:List (ID×BS))::cellOb w.heap.size 248 #[.map none,.map none]::l) ((((w.alloc (.cells #[.map none,.map none] 248)).alloc (.map #[] 0)).alloc (.map #[] 0)).alloc (.cells #[.map (some (w.heap.size+1)),.map (some (w.heap.size+1+1))] 248))):=by
  have:=S1.out.newCell 248 #[.map (some (w.heap.size+1)),.map (some (w.heap.size+1+1))];rw [Hid];simpa using this
 clear S0 S1 hmk hmk2;obtain ⟨g3,HG3⟩:∃ g3,Hid (w.heap.size+1+1+1=g3):=⟨_,rfl⟩;rw [HG3.out] at S2 |-; obtain ⟨m2,HM2⟩:∃ m2,Hid (w.heap.size+1+1=m2):=⟨_,rfl⟩;rw [HM2.out] at S2 |-; obtain ⟨m1,HM1⟩:∃ m1,Hid (w.heap.size+1=m1):=⟨_,rfl⟩;rw [HM1.out] at S2 |-; obtain ⟨g2,HG2⟩:∃ g2,Hid (w.heap.size=g2):=⟨_,rfl⟩;rw [HG2.out] at S2 |-; have HNE:Hid (g2≠g3):=by rw [<- HG2.out, <- HG3.out,Hid];omega
 generalize (((w.alloc (Obj.cells #[Value.map none,Value.map none] 248)).alloc (Obj.map #[] 0)).alloc (Obj.map #[] 0)).alloc (Obj.cells #[Value.map (some m1),Value.map (some m2)] 248)=W2 at S2 |-; clear HG3 HM2 HM1 HG2;go_wp2_with fail
 go_loopw [15] (fun s15 wr=>∃ k:Nat,k<=T.length/\s15= .int .i64 (k:Int)/\SW b w0 (cellOb g3 248 #[.map (some m1),.map (some m2)]::mpOb okID vID vBl m2 ([]:List (ID×Bool))::mpOb okID vID vBS m1 (fstL (T.take k))::cellOb g2 248 #[.map none,.map none]::l) wr) (fun s15 _=>T.length-(intOf s15).toNat)
 case atStart=>exact ⟨0,Nat.zero_le _,rfl,S2.out⟩
 obtain ⟨k,hk,rfl,hs⟩:=hrel;have S3:=hid hs;clear hs S2;by_cases hlt:k<T.length
 · obtain ⟨⟨i,e⟩,HE⟩:∃ p:CH,Hid (T.getD k ch0=p):=⟨_,rfl⟩;obtain ⟨g,hAe,_,a0,a1,a2,_⟩:=ckOb_at (S3.out.1.holds (ckOb A T) (by simp [HA.out])) hlt HE.out;have hoki:okID i:=HOK.out (i,e) (by rw [<- HE.out];exact getD_mem _ _ _ hlt);have HTS:Hid (fstL (T.take (k+1))=if (asc (fstL (T.take k)) i).isSome then fstL (T.take k) else setL (fstL (T.take k)) i e):=by rw [Hid,take_snoc _ ch0 _ hlt,fstL_snoc,HE.out]
   have S4:=hid (S3.out.newCell 65 #[.int .u64 i.1,.int .i64 i.2,.slice e.d.A e.d.len e.d.cap]);subst hAe;have m0:(wr.alloc (.cells #[.int .u64 i.1,.int .i64 i.2,.slice e.d.A e.d.len e.d.cap] 65)).cell? ⟨g3,0,none⟩=some (.map (some m1)):=(S4.out.cell 1 rfl).cell 0;have d0:(wr.alloc (.cells #[.int .u64 i.1,.int .i64 i.2,.slice e.d.A e.d.len e.d.cap] 65)).cell? ⟨wr.heap.size,0,none⟩=some (.int .u64 i.1):=(S4.out.cell 0 rfl).cell 0;have d1:(wr.alloc (.cells #[.int .u64 i.1,.int .i64 i.2,.slice e.d.A e.d.len e.d.cap] 65)).cell? ⟨wr.heap.size,1,none⟩=some (.int .i64 i.2):=(S4.out.cell 0 rfl).cell 1;have d2:(wr.alloc (.cells #[.int .u64 i.1,.int .i64 i.2,.slice e.d.A e.d.len e.d.cap] 65)).cell? ⟨wr.heap.size,2,none⟩=some (.slice e.d.A e.d.len e.d.cap):=(S4.out.cell 0 rfl).cell 2;have hlk:=MapIs.look mkI Tryz.underlying246 (zero34 (wr.alloc (.cells #[.int .u64 i.1,.int .i64 i.2,.slice e.d.A e.d.len e.d.cap] 65))) (S4.out.get 3 (o:=mpOb okID vID vBS m1 (fstL (T.take k))) rfl) hoki true;go_upto_region 5 with fail
   generalize wr.alloc (.cells #[.int .u64 i.1,.int .i64 i.2,.slice e.d.A e.d.len e.d.cap] 65)=W4 at S4 m0 d0 d1 d2 hlk |-; clear S3 a0 a1 a2;cases hx:asc (fstL (T.take k)) i with
   | some v=>
    rw [hx] at hlk HTS;have hlk:(Instr.lookup 246 (.map (some m1)) (.agg #[.int .u64 i.1,.int .i64 i.2]) true).run Tryz.prog W4= .ok (.tuple #[vBS v,.bool true]) W4:=hlk;have HTS2:Hid (fstL (T.take (k+1))=fstL (T.take k)):=by rw [HTS.out];rfl
    clear hx HTS;go_wp2_with fail
    go_roundw
    case rel=>
     refine ⟨k+1,by omega,by go_num,?_⟩;rw [HTS2.out];exact S4.out.tail
    simp [intOf];omega
   | none=>
    rw [hx] at hlk HTS;have hlk:(Instr.lookup 246 (.map (some m1)) (.agg #[.int .u64 i.1,.int .i64 i.2]) true).run Tryz.prog W4= .ok (.tuple #[.slice none 0 0,.bool false]) W4:=hlk;have HTS2:Hid (fstL (T.take (k+1))=setL (fstL (T.take k)) i e):=by rw [HTS.out];rfl
    obtain ⟨w5,hu,hm5,hg5,hz5⟩:=MapIs.update mkI Tryz.underlying246 (S4.out.get 3 (o:=mpOb okID vID vBS m1 (fstL (T.take k))) rfl) hoki e;have hu':(Instr.mapUpdate 246 (.map (some m1)) (.agg #[.int .u64 i.1,.int .i64 i.2]) (.slice e.d.A e.d.len e.d.cap)).run Tryz.prog W4= .ok () w5:=hu;have S5:=hid (S4.out.updMp 3 rfl hm5 hg5);clear hx HTS hu hm5 hg5 hz5 S4;go_wp2_with fail
    go_roundw
    case rel=>
     refine ⟨k+1,by omega,by go_num,?_⟩;rw [HTS2.out];exact S5.out.tail
    simp [intOf];omega
 obtain rfl:k=T.length:=by omega
 rw [zA] at S3;have m0:=(S3.out.cell 0 rfl).cell 0;have m1':=(S3.out.cell 0 rfl).cell 1;have n0:=(S3.out.cell 3 rfl).cell 0;have n1:=(S3.out.cell 3 rfl).cell 1;have f0:=(S3.out.cell 3 rfl).frozen 0;have f1:=(S3.out.cell 3 rfl).frozen 1;have hne:=HNE.out;have S4:=hid ((S3.out.setAt 3 rfl 0 (.map (some m1))).setAt 3 rfl 1 (.map (some m2)));clear S3;go_upto_region 9 with fail
 go_wp2_with fail
 generalize (wr.setCell ⟨g2,0,none⟩ (.map (some m1))).setCell ⟨g2,1,none⟩ (.map (some m2))=WF at S4 |-; have q0:=(S4.out.cell 3 rfl).cell 0;have q1:=(S4.out.cell 3 rfl).cell 1;refine bodyPost_ret (v:=.agg #[.map (some m1),.map (some m2)]) ?_ rfl ⟨m1,m2,rfl,SW.few (pre:=[_,_,_,_]) S4.out [2,1] (n:=4) rfl (by decide) (by decide)⟩;simp [results,Tryz.results163,go_sem,q0,q1]
end
end
section
open Go.RowKit Go.MapKept Go.ChangeMaps Go.Shelf Go.Sort
attribute [local go_sem] wext_cell
section
variable {b:Nat} {w0 w w':World} {l:List Ob}
theorem shbytes_any {m1 m2:Nat} {L1:List (ID×BS)} {L2:List (ID×Bool)} (h:SW b w0 (mpOb okID vID vBS m1 L1::mpOb okID vID vBl m2 L2::l) w) (i:ID) (hi:okID i) (e:BS) (ha:asc L1 i=some e) (hrb:RB w e.d e.bs) (hf:fpOf e.bs=i) (hl:e.bs.length<=8192):
 Calls Tryz.prog 164 #[.agg #[.map (some m1),.map (some m2)],.agg #[.int .u64 i.1,.int .i64 i.2]] w (fun en w'=>∃ L2':List (ID×Bool),en= .returned (.tuple #[.slice e.d.A e.bs.length e.d.cap,.int .i64 0])/\SW b w0 (mpOb okID vID vBS m1 L1::mpOb okID vID vBl m2 L2'::l) w'):=by
 have HI:=hid hi;have HRB:=hid hrb;have HF:=hid hf;have S0:=hid ((h.newCell 248 #[.map (some m1),.map (some m2)]).newCellAt 31 #[.int .u64 i.1,.int .i64 i.2] (H:=w.heap.size+1) (by simp));have HRB1:Hid (RB ((w.alloc (.cells #[.map (some m1),.map (some m2)] 248)).alloc (.cells #[.int .u64 i.1,.int .i64 i.2] 31)) e.d e.bs):=(hrb.on (bel1 _ _)).on (bel1 _ _);have hdl:e.d.len=e.bs.length:=hrb.1.symm;have hlk1:=MapIs.look mkI Tryz.underlying246 (zero34 ((w.alloc (.cells #[.map (some m1),.map (some m2)] 248)).alloc (.cells #[.int .u64 i.1,.int .i64 i.2] 31))) (S0.out.get 2 (o:=mpOb okID vID vBS m1 L1) rfl) hi true;rw [ha] at hlk1;have hlk1:(Instr.lookup 246 (.map (some m1)) (.agg #[.int .u64 i.1,.int .i64 i.2]) true).run Tryz.prog ((w.alloc (.cells #[.map (some m1),.map (some m2)] 248)).alloc (.cells #[.int .u64 i.1,.int .i64 i.2] 31))= .ok (.tuple #[.slice e.d.A e.d.len e.d.cap,.bool true]) ((w.alloc (.cells #[.map (some m1),.map (some m2)] 248)).alloc (.cells #[.int .u64 i.1,.int .i64 i.2] 31)):=hlk1;rw [hdl] at hlk1;obtain ⟨W1,HW1⟩:∃ W1,Hid ((w.alloc (.cells #[.map (some m1),.map (some m2)] 248)).alloc (.cells #[.int .u64 i.1,.int .i64 i.2] 31)=W1):=⟨_,rfl⟩;obtain ⟨g2,HG2⟩:∃ g2,Hid (w.heap.size=g2):=⟨_,rfl⟩;obtain ⟨g3,HG3⟩:∃ g3,Hid (w.heap.size+1=g3):=⟨_,rfl⟩;rw [HG3.out,HG2.out,HW1.out] at S0;rw [HW1.out] at HRB1 hlk1
 have HOF:=hid (fun (W:World) (hW:RB W e.d e.bs)=>Of_any e.d.A e.d.cap e.bs W hW.rs (by omega));rw [hf] at HOF;clear h ha hrb hf hdl;go_enter Tryz.func164,Tryz.ntmps164;go_upto_region 1 with fail
 rw [HW1.out,HG3.out,HG2.out];clear HW1 HG3 HG2;have c0:W1.cell? ⟨g2,0,none⟩=some (.map (some m1)):=(S0.out.cell 1 rfl).cell 0;have c1:W1.cell? ⟨g2,1,none⟩=some (.map (some m2)):=(S0.out.cell 1 rfl).cell 1;have d0:W1.cell? ⟨g3,0,none⟩=some (.int .u64 i.1):=(S0.out.cell 0 rfl).cell 0;have d1:W1.cell? ⟨g3,1,none⟩=some (.int .i64 i.2):=(S0.out.cell 0 rfl).cell 1;have l2:g2<W1.heap.size:=(S0.out.cell 1 rfl).lt;have l3:g3<W1.heap.size:=(S0.out.cell 0 rfl).lt;have heq:=fun W=>eql31 i i W;go_upto_region 4 with fail
 have hlk2:=fun q:Ext W1=>look_g ((S0.out.get 3 (o:=mpOb okID vID vBl m2 L2) rfl:MapIs okID vID vBl W1 m2 L2).on (wext_below q)) HI.out;obtain ⟨v,hv⟩:∃ v,(asc L2 i).getD false=v:=⟨_,rfl⟩;rw [hv] at hlk2;clear hv hlk1;cases v
 all_goals (
  refine wp_region_ext (by kernel_rfl) (by kernel_rfl) ?_;repeat (go_big_quiet_step ((go_at_call 31;exact ext_call (HOF.out _ (HRB1.out.on (wext_below _))))))
  refine wpQuiet_nil ?_;intro w2 hb2;have S2:=hid (S0.out.on hb2);clear hb2 hlk2 c0 c1 d0 d1 l2 l3 heq S0;have c1:w2.cell? ⟨g2,1,none⟩=some (.map (some m2)):=(S2.out.cell 1 rfl).cell 1;have d0:w2.cell? ⟨g3,0,none⟩=some (.int .u64 i.1):=(S2.out.cell 0 rfl).cell 0;have d1:w2.cell? ⟨g3,1,none⟩=some (.int .i64 i.2):=(S2.out.cell 0 rfl).cell 1;obtain ⟨w5,hu,hm5,hg5,hz5⟩:=MapIs.update mkI Tryz.underlying143 (S2.out.get 3 (o:=mpOb okID vID vBl m2 L2) rfl) HI.out true;have hu':(Instr.mapUpdate 143 (.map (some m2)) (.agg #[.int .u64 i.1,.int .i64 i.2]) (.bool true)).run Tryz.prog w2= .ok () w5:=hu;have S5:=hid (S2.out.updMp 3 rfl hm5 hg5);clear hu hm5 hg5 hz5 S2;go_wp2_with fail
  go_ret2;exact ⟨rfl,setL L2 i true,SW.few (pre:=[_,_,_,_]) S5.out [2,3] (n:=4) rfl (by decide) (by decide)⟩)
end
end
section
open Go.RowKit Go.MapKept Go.ChangeMaps Go.Shelf Go.Sort
theorem fstL_mem {T:List CH} {i:ID} {e:BS} (h:asc (fstL T) i=some e):(i,e)∈T:=by
 have key:∀ k,k<=T.length->∀ i e,asc (fstL (T.take k)) i=some e->(i,e)∈T:=fun k=>by
  induction k with
  | zero=>intro _ i e h;cases h
  | succ k ih=>
   intro hk i e h;rw [take_snoc _ ch0 _ (by omega),fstL_snoc] at h;split at h
   · exact ih (by omega) i e h
   rw [asc_setL] at h;split at h
   · rename_i e1
     injection h with h;have:(i,e)=T.getD k ch0:=by rw [<- e1, <- h]
     rw [this];exact getD_mem _ _ _ (by omega)
   exact ih (by omega) i e h
 have:=key T.length (Nat.le_refl _) i e;rw [zA] at this;exact this h
def byL (T:List CH) (i:ID):List UInt8:=((asc (fstL T) i).map (·.bs)).getD []
def asmL (T:List CH) (ids:List ID):List UInt8:=ids.flatMap (byL T)
theorem asmL_snoc (T:List CH) (ids:List ID) (i:ID):asmL T (ids++[i])=asmL T ids++byL T i:=by simp [asmL]
theorem slice_all34 (w:World) (A:Option Addr) (n c:Nat) (hc:n<=c):(Instr.slice 34 (.slice A n c) (some (.int .i64 0)) (some (.int .i64 (n:Int))) none).run Tryz.prog w= .ok (.slice A n c) w:=by
 have he:=elem_of 34 5 Tryz.underlying34;have ht':Tryz.prog.underlying 34=some (.slice (Tryz.prog.elem 34)):=by rw [he];exact Tryz.underlying34
 rw [Go.run_slice_lh (w:=w) 34 A n c ht' .i64 .i64 0 (n:Int) (by omega) (by omega) (by omega),he,Tryz.sizeOf5];simp only [Result.andThen,sliced,Int.toNat_natCast,Int.toNat_zero,Nat.sub_zero,Nat.zero_mul]
 have e:(if c=0 then A else A.map (·.add 0))=A:=by
  split
  · rfl
  cases A with
  | none=>rfl
  | some ad=>simp [Addr.add]
 rw [e]
section
variable {b:Nat} {w0 w w':World} {l:List Ob}
theorem row_at3 {A:Option Addr} {c:Nat} {P:List PC} {v:Value} (hr:w.ownsRow 0 251 3 v P.length (P.flatMap encPc)) {k:Nat} (hk:k<P.length) {p:PC} (hp:P.getD k (0,0)=p):∃ g cap,v= .slice (some ⟨g,0,none⟩) P.length cap/\w.cell? ⟨g,k*3,none⟩=some (.int .i64 (p.1:Int))/\w.cell? ⟨g,k*3+1,none⟩=some (.int .i64 0)/\w.cell? ⟨g,k*3+2,none⟩=some (.int .i64 p.2):=by
 obtain ⟨g,cap,rfl⟩:=own_some hr (by omega);have hf:=fun a (ha:a<3)=>flat_at encPc_len ((0,0):PC) P k a hk ha;rw [hp] at hf;refine ⟨g,cap,rfl,?_,?_,?_⟩
 · have:=hf 0 (by omega);rw [Nat.add_zero] at this;rw [hr.cellAt (k*3) (by omega),this];rfl
 · rw [hr.cellAt (k*3+1) (by omega),hf 1 (by omega)];rfl
 rw [hr.cellAt (k*3+2) (by omega),hf 2 (by omega)];rfl
theorem Range_any (h:SW b w0 l w) (n:Nat) (ids:List ID) (A:Option Addr) (c:Nat) (hA:riOb A ids∈l) (hE:manE ⟨(n:Int),ids⟩=0) {C:Option Addr} {T:List CH} (cc:Nat) (hC:ckOb C T∈l) (hok:∀ e∈T,okID e.1) (hT:T.length<=100000) (hget:∀ i∈ids,∃ e,asc (fstL T) i=some e/\fpOf e.bs=i):
 Calls Tryz.prog 107 #[.agg #[.int .i64 (n:Int),.slice A ids.length c],.slice C T.length cc,.int .i64 0,.int .i64 (n:Int)] w (fun e w'=>∃ d,e= .returned (.tuple #[.slice d.A d.len d.cap,.int .i64 0])/\SW b w0 (bufOb d (asmL T ids)::l) w'):=by
 have HA:=hid hA;have HC:=hid hC;have HOK:=hid hok;have HGET:=hid hget;have hl:ids.length<=1024:=manE_len hE;obtain ⟨hs1,hs2⟩:(n:Int)=sumZ ids/\(n:Int)<=1048576:=manE_size hE;have HALL:Hid (ids.all chunkB=true):=manE_all hE;have S1:=hid (h.newCell 89 #[.int .i64 (n:Int),.slice A ids.length c]);have HSL:=hid (Slice_any S1.out (n:Int) ids A c (by simp [HA.out]) hE);clear h hA hC hok hget hE hs1;obtain ⟨g4,HG4⟩:∃ g4,Hid (w.heap.size=g4):=⟨_,rfl⟩;obtain ⟨W1,HW1⟩:∃ W1,Hid (w.alloc (.cells #[.int .i64 (n:Int),.slice A ids.length c] 89)=W1):=⟨_,rfl⟩;rw [HG4.out,HW1.out] at HSL S1;have c0:W1.cell? ⟨g4,0,none⟩=some (.int .i64 (n:Int)):=(S1.out.cell 0 rfl).cell 0;have c1:W1.cell? ⟨g4,1,none⟩=some (.slice A ids.length c):=(S1.out.cell 0 rfl).cell 1;go_enter Tryz.func107,Tryz.ntmps107;go_upto_region 1 with fail
 rw [HW1.out,HG4.out];clear HW1 HG4;go_wp2_with (go_at_call 162;(with_reducible refine HSL.out.mono ?_);refine halt_ ?_)
 rintro e w2 ⟨v,rfl,s2⟩;obtain ⟨pA,pc,rfl⟩:=own_slL (s2.get 0 rfl);have S2:=hid s2;have HSH:=hid (shelf_any S2.out (A:=C) (T:=T) (by simp [HC.out]) HOK.out cc hT);clear s2 HSL S1 c0 c1;go_wp2_with (go_at_call 163;(with_reducible refine HSH.out.mono ?_);refine halt_ ?_)
 rintro e w3 ⟨m1,m2,rfl,s3⟩;have S3:=hid (s3.newCell 248 #[.map (some m1),.map (some m2)]);obtain ⟨g12,HG12⟩:∃ g12,Hid (w3.heap.size=g12):=⟨_,rfl⟩;obtain ⟨W3,HW3⟩:∃ W3,Hid (w3.alloc (.cells #[.map (some m1),.map (some m2)] 248)=W3):=⟨_,rfl⟩;rw [HG12.out,HW3.out] at S3;have hwr:IntKind.i64.wrap ((n:Int)-0)=(n:Int):=by rw [Int.sub_zero];exact IntWalk.i64_in _ (by omega)
 have hmk:∀ W:World,(Instr.makeSlice 34 (.int .i64 0) (.int .i64 (n:Int))).run Tryz.prog W= .ok (.slice (some ⟨W.heap.size,0,none⟩) 0 n) (W.alloc (.cells (Array.replicate n (encU 0)) 5)):=fun W=>mk_bytes W 0 n (Nat.zero_le _) (by omega);clear s3 HSH S2;go_upto_region 5 with fail
 rw [HW3.out,HG12.out];clear HW3 HG12;go_upto_region 6 with fail
 have S4:Hid (SW b w0 (bufOb ⟨some ⟨W3.heap.size,0,none⟩,0,n⟩ []::cellOb g12 248 #[.map (some m1),.map (some m2)]::mpOb okID vID vBS m1 (fstL T)::mpOb okID vID vBl m2 ([]:List (ID×Bool))::rowOb 251 3 (.slice pA ids.length pc) ids.length ((pcs ids ids.length).flatMap encPc)::cellOb g4 89 #[.int .i64 (n:Int),.slice A ids.length c]::l) (W3.alloc (.cells (Array.replicate n (encU 0)) 5))):=S3.out.newBytes (bel1 _ _) (new_bytes W3 _ _ 0 n [] rfl rfl (Nat.zero_le _) (by simp) (fun j u hu=>by simp at hu)) (fun g hg=>by simp [blk] at hg;omega);obtain ⟨W4,HW4⟩:∃ W4,Hid (W3.alloc (.cells (Array.replicate n (encU 0)) 5)=W4):=⟨_,rfl⟩;rw [HW4.out] at S4;clear S3 hmk;go_upto_region 7 with fail
 rw [HW4.out];clear HW4;go_loopw [13,36] (fun s13 s36 wr=>∃ (k:Nat) (d:BD) (L2:List (ID×Bool)),k<=ids.length/\s36= .int .i64 (k:Int)/\s13= .slice d.A d.len d.cap/\Hid ((asmL T (ids.take k)).length<=8192*k)/\SW b w0 (bufOb d (asmL T (ids.take k))::cellOb g12 248 #[.map (some m1),.map (some m2)]::mpOb okID vID vBS m1 (fstL T)::mpOb okID vID vBl m2 L2::rowOb 251 3 (.slice pA ids.length pc) ids.length ((pcs ids ids.length).flatMap encPc)::cellOb g4 89 #[.int .i64 (n:Int),.slice A ids.length c]::l) wr) (fun _ s36 _=>ids.length-(intOf s36).toNat)
 case atStart=>exact ⟨0,⟨some ⟨W3.heap.size,0,none⟩,0,n⟩,[],Nat.zero_le _,rfl,rfl,by simp [Hid,asmL],S4.out⟩
 obtain ⟨k,d,L2,hk,rfl,rfl,HLEN,hs⟩:=hrel;have S5:=hid hs;clear hs S4;by_cases hlt:k<ids.length
 · obtain ⟨i,hik⟩:∃ i,ids.getD k id0=i:=⟨_,rfl⟩;have him:i∈ids:=by rw [<- hik];exact getD_mem _ _ _ hlt
   obtain ⟨e,ha,hf⟩:=HGET.out i him;have heT:=fstL_mem ha
   have hch:chunkB i=true:=by
    have h1:=HALL.out;rw [List.all_eq_true] at h1;exact h1 i him
   obtain ⟨hc1,hc2⟩:=chunkB_sound hch;have hil:i.2=(e.bs.length:Int):=by rw [<- hf];rfl
   have hoki:okID i:=HOK.out (i,e) heT;have hel:e.bs.length<=8192:=by omega
   have HBY:Hid (asmL T (ids.take (k+1))=asmL T (ids.take k)++e.bs):=by
    rw [Hid,take_snoc _ id0 _ hlt,asmL_snoc,hik,byL,ha];rfl
   have HIK:=hid hik;have HAE:=hid ha;have HF:=hid hf;have HEL:=hid hel;have HOI:=hid hoki;have HMT:=hid heT;have HPP:Hid ((pcs ids ids.length).getD k (0,0)=(k,(e.bs.length:Int))):=by rw [Hid,pcs_at _ hlt,hik,hil]
   obtain ⟨gp,cap,hpe,p0,p1,p2⟩:=row_at3 (A:=none) (c:=0) (v:=.slice pA ids.length pc) (P:=pcs ids ids.length) (by rw [pcs_len];exact S5.out.get 4 rfl) (k:=k) (by rw [pcs_len];exact hlt) HPP.out;rw [pcs_len] at hpe;injection hpe with e1 _ e3;subst e1;obtain ⟨gA,hAe,a0,a1⟩:=S5.out.rowCell (A:=A) (ids:=ids) (by simp [HA.out]) hlt hik;subst hAe;have S6:=hid (S5.out.newCell 251 #[.int .i64 (k:Int),.int .i64 0,.int .i64 (e.bs.length:Int)]);obtain ⟨g15,HG15⟩:∃ g15,Hid (wr.heap.size=g15):=⟨_,rfl⟩;obtain ⟨W5,HW5⟩:∃ W5,Hid (wr.alloc (.cells #[.int .i64 (k:Int),.int .i64 0,.int .i64 (e.bs.length:Int)] 251)=W5):=⟨_,rfl⟩;rw [HG15.out,HW5.out] at S6;have hki:(k:Int)<(ids.length:Int):=by omega
   clear hik him ha hf heT hch hil hoki hel S5 a0 a1 e3;go_upto_region 9 with fail
   rw [HW5.out,HG15.out];clear HW5 HG15 p0 p1 p2
   have HCL:=hid (fun (w':World) (L2:List (ID×Bool)) (hS:SW b w0 (cellOb g15 251 #[.int .i64 (k:Int),.int .i64 0,.int .i64 (e.bs.length:Int)]::bufOb d (asmL T (ids.take k))::cellOb g12 248 #[.map (some m1),.map (some m2)]::mpOb okID vID vBS m1 (fstL T)::mpOb okID vID vBl m2 L2::rowOb 251 3 (.slice (some ⟨gp,0,none⟩) ids.length pc) ids.length ((pcs ids ids.length).flatMap encPc)::cellOb g4 89 #[.int .i64 (n:Int),.slice (some ⟨gA,0,none⟩) ids.length c]::l) w')=>(show w'.cell? ⟨g12,0,none⟩=some (.map (some m1))/\w'.cell? ⟨g12,1,none⟩=some (.map (some m2))/\w'.cell? ⟨g4,1,none⟩=some (.slice (some ⟨gA,0,none⟩) ids.length c)/\w'.cell? ⟨g15,0,none⟩=some (.int .i64 (k:Int))/\w'.cell? ⟨gA,k*2,none⟩=some (.int .u64 i.1)/\w'.cell? ⟨gA,k*2+1,none⟩=some (.int .i64 i.2) from by
    obtain ⟨gq,hq,a0,a1⟩:=hS.rowCell (A:=some ⟨gA,0,none⟩) (ids:=ids) (by simp [HA.out]) hlt HIK.out;injection hq with hq;injection hq with hq;subst hq;exact ⟨(hS.cell 2 rfl).cell 0,(hS.cell 2 rfl).cell 1,(hS.cell 6 rfl).cell 1,(hS.cell 0 rfl).cell 0,a0,a1⟩))
   have S7:=hid S6.out.drew;clear S6;refine wp_region_held_tail [(0,true),(1,true),(2,true),(3,true),(4,true),(5,true),(6,true),(7,false),(8,true),(9,true),(10,true),(11,true)] (fun w'=>w'.cell? ⟨g12,0,none⟩=some (.map (some m1))/\w'.cell? ⟨g12,1,none⟩=some (.map (some m2))/\w'.cell? ⟨g4,1,none⟩=some (.slice (some ⟨gA,0,none⟩) ids.length c)/\w'.cell? ⟨g15,0,none⟩=some (.int .i64 (k:Int))/\w'.cell? ⟨gA,k*2,none⟩=some (.int .u64 i.1)/\w'.cell? ⟨gA,k*2+1,none⟩=some (.int .i64 i.2)) (by kernel_rfl) (fun _ _ d _ _ h=>by cases d<;>exact h) (by kernel_rfl) (HCL.out _ _ S7.out) ?_;simp only [pk_]
   iterate 7
    (refine wpHeld_take (v:=?_) (Or.inl ⟨by rfl,?_⟩) ?_
     rotate_left
     · (intro w' hSw;have h1:=hSw.1;have h2:=hSw.2.1;have h3:=hSw.2.2.1;have h4:=hSw.2.2.2.1;have h5:=hSw.2.2.2.2.1;have h6:=hSw.2.2.2.2.2;go_simp;try with_reducible rfl)
     try simp only [Act.put,zB,List.set])
   refine wpHeld_run (fun K hK=>?_);have S7':SW b w0 (mpOb okID vID vBS m1 (fstL T)::mpOb okID vID vBl m2 L2::cellOb g15 251 #[.int .i64 (k:Int),.int .i64 0,.int .i64 (e.bs.length:Int)]::bufOb d (asmL T (ids.take k))::cellOb g12 248 #[.map (some m1),.map (some m2)]::rowOb 251 3 (.slice (some ⟨gp,0,none⟩) ids.length pc) ids.length ((pcs ids ids.length).flatMap encPc)::cellOb g4 89 #[.int .i64 (n:Int),.slice (some ⟨gA,0,none⟩) ids.length c]::l) W5.drew:=SW.front (pre:=[_,_,_,_,_]) S7.out [3,4,0,1,2] (n:=5) rfl (by decide);have HBT:=hid (shbytes_any S7' i HOI.out e HAE.out ((S7.out.1.holds (ckOb C T) (by simp [HC.out])).2 (i,e) HMT.out) HF.out HEL.out);clear S7';go_simp;go_at_call 164
   refine HBT.out.mono ?_;rintro e2 w6 ⟨L3,rfl,s6⟩;have S8:Hid (SW b w0 (cellOb g15 251 #[.int .i64 (k:Int),.int .i64 0,.int .i64 (e.bs.length:Int)]::bufOb d (asmL T (ids.take k))::cellOb g12 248 #[.map (some m1),.map (some m2)]::mpOb okID vID vBS m1 (fstL T)::mpOb okID vID vBl m2 L3::rowOb 251 3 (.slice (some ⟨gp,0,none⟩) ids.length pc) ids.length ((pcs ids ids.length).flatMap encPc)::cellOb g4 89 #[.int .i64 (n:Int),.slice (some ⟨gA,0,none⟩) ids.length c]::l) w6):=SW.front (pre:=[_,_,_,_,_]) s6 [2,3,4,0,1] (n:=5) rfl (by decide);clear s6 HBT S7;go_wp2_with fail
   refine hK.out _ _ (HCL.out _ _ S8.out) ?_;clear hK K HCL;try simp only [Act.put,zB,List.set]
   iterate 4
    (refine wpHeld_take (v:=?_) (Or.inl ⟨by rfl,?_⟩) ?_
     rotate_left
     · (intro w' hSw;have h1:=hSw.1;have h2:=hSw.2.1;have h3:=hSw.2.2.1;have h4:=hSw.2.2.2.1;have h5:=hSw.2.2.2.2.1;have h6:=hSw.2.2.2.2.2;go_simp;try with_reducible rfl)
     try simp only [Act.put,zB,List.set])
   refine wpHeld_nil ?_;simp only [dz_];have q1:w6.cell? ⟨g15,1,none⟩=some (.int .i64 0):=(S8.out.cell 0 rfl).cell 1;have q2:w6.cell? ⟨g15,2,none⟩=some (.int .i64 (e.bs.length:Int)):=(S8.out.cell 0 rfl).cell 2;have hrb:RB w6 e.d e.bs:=(S8.out.1.holds (ckOb C T) (by simp [HC.out])).2 (i,e) HMT.out;have hsl:=fun W=>slice_all34 W e.d.A e.bs.length e.d.cap (by have:=hrb.1;have:=hrb.2.1;omega);have HSRC:=hid hrb.src;have hrd:RB w6 d (asmL T (ids.take k)):=S8.out.get 1 (o:=bufOb d (asmL T (ids.take k))) rfl;have hlen:=HLEN.out;clear hrb;go_wp2_with (at_builtin;refine halt_ ?_)
   refine wpList_append_bytes rfl _ _ rfl d (asmL T (ids.take k)) rfl hrd e.d.A e.d.cap e.bs rfl HSRC.out (by have:=HEL.out;omega) ?_;intro d2 w7 hl2 happ;have S9:=hid (S8.out.appB 1 rfl happ);clear happ hl2 hrd hsl q1 q2 S8;go_wp2_with fail
   go_roundw
   case rel=>
    refine ⟨k+1,d2,L3,by omega,by go_num,rfl,?_,?_⟩
    · rw [Hid,HBY.out,List.length_append];have:=HEL.out;omega
    rw [HBY.out];exact SW.few (pre:=[_,_,_,_,_,_,_]) S9.out [1,2,3,4,5,6] (n:=7) rfl (by decide) (by decide)
   simp [intOf];omega
 obtain rfl:k=ids.length:=by omega
 rw [zA] at S5;go_wp2_with fail
 go_ret2;exact ⟨d,rfl,SW.few (pre:=[_,_,_,_,_,_]) S5.out [0] (n:=6) rfl (by decide) (by decide)⟩
theorem Assemble_any (h:SW b w0 l w) (n:Nat) (ids:List ID) (A:Option Addr) (c:Nat) (hA:riOb A ids∈l) (hE:manE ⟨(n:Int),ids⟩=0) {C:Option Addr} {T:List CH} (cc:Nat) (hC:ckOb C T∈l) (hok:∀ e∈T,okID e.1) (hT:T.length<=100000) (hget:∀ i∈ids,∃ e,asc (fstL T) i=some e/\fpOf e.bs=i):
 Calls Tryz.prog 58 #[.agg #[.int .i64 (n:Int),.slice A ids.length c],.slice C T.length cc] w (fun e w'=>∃ d,e= .returned (.tuple #[.slice d.A d.len d.cap,.int .i64 0])/\SW b w0 (bufOb d (asmL T ids)::l) w'):=by
 have S1:=hid (h.newCell 89 #[.int .i64 (n:Int),.slice A ids.length c]);have HR:=hid (Range_any S1.out n ids A c (by simp [hA]) hE (C:=C) cc (by simp [hC]) hok hT hget);clear h hA hE hC hok hget;have c0:(w.alloc (.cells #[.int .i64 (n:Int),.slice A ids.length c] 89)).cell? ⟨w.heap.size,0,none⟩=some (.int .i64 (n:Int)):=(S1.out.cell 0 rfl).cell 0;have c1:(w.alloc (.cells #[.int .i64 (n:Int),.slice A ids.length c] 89)).cell? ⟨w.heap.size,1,none⟩=some (.slice A ids.length c):=(S1.out.cell 0 rfl).cell 1;clear S1;go_enter Tryz.func58,Tryz.ntmps58;go_wp2_with (go_at_call 107;(with_reducible refine HR.out.mono ?_);refine halt_ ?_)
 rintro e w2 ⟨d,rfl,s2⟩;have S2:=hid s2;clear s2 HR c0 c1;go_wp2_with fail
 go_ret2;exact ⟨d,rfl,SW.few (pre:=[_,_]) S2.out [0] (n:=2) rfl (by decide) (by decide)⟩
end
end
end Go.Proofs.YteabgcollokgjaaGreatDoor
