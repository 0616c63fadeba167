/- Contracts of the walk, part 21. -/
import Derived.Test.YtmiknfneeipkeaaGreatS20
open Go.Lib (hid)
namespace Go.Proofs.YtmiknfneeipkeaaGreat
open Go.RowKit Go.MapKept Go.ChangeMaps
attribute [local go_sem] wext_cell
attribute [local go_sem] Oper.semAt_some
theorem ids_at {w:World} {A:Option Addr} {n j:Nat} {ks:List ID} (h:RowV w 36 2 A n (ks.flatMap encID)) (hn:ks.length=n) (hj:j<n):∃ g i,A=some ⟨g,0,none⟩/\g<w.heap.size/\ks[j]? =some i/\w.cell? ⟨g,j*2,none⟩=some (.int .u64 i.1)/\w.cell? ⟨g,j*2+1,none⟩=some (.int .i64 i.2):=by
 obtain ⟨g,e,hlt,hc⟩:=h.at (by omega);have hj2:j<ks.length:=by omega
 refine ⟨g,ks[j],e,hlt,List.getElem?_eq_getElem hj2,?_,?_⟩
 · have:=flat_at encID_len (ks[j]) ks j 0 hj2 (by omega);rw [List.getD_eq_getElem?_getD,List.getElem?_eq_getElem hj2] at this;exact (hc _ (by omega)).trans this
 have:=flat_at encID_len (ks[j]) ks j 1 hj2 (by omega);rw [List.getD_eq_getElem?_getD,List.getElem?_eq_getElem hj2] at this;exact (hc _ (by omega)).trans this
theorem keptOf_take {ks:List ID} {j:Nat} {i:ID} (h:ks[j]? =some i):keptOf (ks.take (j+1))=setL (keptOf (ks.take j)) i true:=by
 unfold keptOf;rw [List.take_add_one,h,List.foldl_append];rfl
theorem files_at {w:World} {A:Option Addr} {n j:Nat} {fs:List Fi} (h:RowV w 168 2 A n (fs.flatMap encF)) (hn:fs.length=n) (hj:j<n):∃ g f,A=some ⟨g,0,none⟩/\g<w.heap.size/\fs[j]? =some f/\w.cell? ⟨g,j*2,none⟩=some (.string f.1)/\w.cell? ⟨g,j*2+1,none⟩=some (.int .i64 f.2):=by
 obtain ⟨g,e,hlt,hc⟩:=h.at (by omega);have hj2:j<fs.length:=by omega
 refine ⟨g,fs[j],e,hlt,List.getElem?_eq_getElem hj2,?_,?_⟩
 · have:=flat_at encF_len (fs[j]) fs j 0 hj2 (by omega);rw [List.getD_eq_getElem?_getD,List.getElem?_eq_getElem hj2] at this;exact (hc _ (by omega)).trans this
 have:=flat_at encF_len (fs[j]) fs j 1 hj2 (by omega);rw [List.getD_eq_getElem?_getD,List.getElem?_eq_getElem hj2] at this;exact (hc _ (by omega)).trans this
def SameB:List Ob->List Ob->Prop
 | [],[]=>True
 | o::l,o'::l'=>((∀ i,o.own i↔o'.own i)/\∀ i,o.rd i↔o'.rd i)/\SameB l l'
 | _,_=>False
theorem same_refl:∀ l:List Ob,SameB l l
 | []=>trivial
 | _::l=>⟨⟨fun _=>Iff.rfl,fun _=>Iff.rfl⟩,same_refl l⟩
theorem inside_of {B:Nat}:∀ {l l':List Ob},(∀ o∈l,∀ i,(o.own i∨o.rd i)->i<B)->SameB l' l->∀ o∈l',∀ i,(o.own i∨o.rd i)->i<B
 | [],[],_,_=>fun o ho=>by cases ho
 | _::_,[],_,hs=>hs.elim
 | [],_::_,_,hs=>hs.elim
 | _::l,_::l',h,hs=>fun o ho i hi=>by
  rcases List.mem_cons.1 ho with rfl | ho
  · exact h _ (List.mem_cons_self ..) i (hi.imp (hs.1.1 i).1 (hs.1.2 i).1)
  exact inside_of (fun o ho=>h o (List.mem_cons_of_mem _ ho)) hs.2 o ho i hi
theorem SW.mark {b B D:Nat} {w0 w:World} {L:List Nat} {l:List Ob} (h:SW b w0 (dfOb L::l) w) (hin:∀ o∈l,∀ i,(o.own i∨o.rd i)->i<B) (hD:B<=D) (hb:b<=B) (hK:w.heap[D]? =some (.deferred (some []))):SW b w0 (dfOb (D::L)::l) w:=by
 have ha:=List.pairwise_cons.1 h.1.apart;have hDl:D<w.heap.size:=(Array.getElem?_eq_some_iff.1 hK).1
 have hno:∀ o∈l,∀ i,(o.own i∨o.rd i)->i≠D:=fun o ho i hi e=>by
  have:=hin o ho i hi;omega
 refine ⟨⟨h.1.base,fun y hy=>?_,fun y hy i hi=>?_,fun y hy i hi=>?_,List.pairwise_cons.2 ⟨fun y hy=>⟨fun i hi=>?_,fun i hi hr=>hr⟩,ha.2⟩⟩,h.2⟩
 · rcases List.mem_cons.1 hy with rfl | hy
   · intro i hi;rcases List.mem_cons.1 hi with rfl | hi
     · exact hK
     exact (h.1.holds _ (List.mem_cons_self ..):∀ i∈L,w.heap[i]? =some (.deferred (some []))) i hi
   exact h.1.holds y (List.mem_cons_of_mem _ hy)
 · rcases List.mem_cons.1 hy with rfl | hy
   · rcases List.mem_cons.1 (hi:i∈D::L) with rfl | hi
     · exact ⟨by omega,hDl⟩
     exact h.1.own (dfOb L) (List.mem_cons_self ..) i hi
   exact h.1.own y (List.mem_cons_of_mem _ hy) i hi
 · rcases List.mem_cons.1 hy with rfl | hy
   · exact hi.elim
   exact h.1.rd y (List.mem_cons_of_mem _ hy) i hi
 rcases List.mem_cons.1 (hi:i∈D::L) with rfl | hi
 · exact ⟨fun h2=>hno y hy _ (.inl h2) rfl,fun h2=>hno y hy _ (.inr h2) rfl⟩
 exact (ha.1 y hy).1 i hi
theorem selAll_take {kp bf:Int} {kept:List (ID×Bool)} {mem:Fi->List RvO} {fs:List Fi} {j:Nat} {f:Fi} (h:fs[j]? =some f):selAll kp bf kept mem (fs.take (j+1))=(backL (mem f)).foldl (selStep kp bf kept) (selAll kp bf kept mem (fs.take j)):=by
 unfold selAll;rw [List.take_add_one,h,List.foldl_append];rfl
def calm (Q:Exit->Act->World->Prop):Exit->Act->World->Prop
 | .panic _,_,_=>False
 | e,a,w=>Q e a w
theorem calm_le {Q:Exit->Act->World->Prop}:∀ e a w,calm Q e a w->Q e a w
 | .panic _,_,_,h=>h.elim
 | .normal,_,_,h=>h
 | .ret,_,_,h=>h
 | .exit _,_,_,h=>h
 | .goto _,_,_,h=>h
 | .outgrown,_,_,h=>h
theorem SW.atSelf {w0 w:World} {l:List Ob} (h:SW w0.heap.size w0 l w) (hl:∀ o∈l,∀ i,¬ o.own i):SW w.heap.size w l w:=by
 refine ⟨⟨Nat.le_refl _,h.1.holds,fun y hy i hi=>absurd hi (hl y hy i),h.1.rd,h.1.apart⟩,Below.refl _ _⟩
section
variable {b:Nat} {w0 w:World} {l:List Ob} {A B K:Option Addr} {m cm nb cb nk ck:Nat} {dO:Ob} {rs:List Rv} {fs:List Fi} {mem:Fi->List RvO} {ks:List ID} {kp bf:Int}
set_option maxRecDepth 100000 in
set_option maxHeartbeats 8000000 in
theorem select_any (h:SW b w0 l w) (hdo:dO∈l) (hdn:∀ i,¬ dO.own i) (hrv:vsOb 111 12 A m (rs.flatMap Rv.enc)∈l) (hm:rs.length=m) (hmm:m<=1000000) (hko:vsOb 36 2 K nk (ks.flatMap encID)∈l) (hkn:ks.length=nk) (hnk:nk<=1000000) (hki:∀ i∈ks,okID i) (hro:∀ r∈rs,okR r) (hml:∀ f∈fs,(mem f).length<=1000000) (hfl:fs.length<=1000000) (hkp:1<=kp) (hbf:0<=bf)
 (HLs:∀ (b:Nat) (w0 W:World) (l:List Ob),SW b w0 l W->dO∈l->Calls Tryz.prog 102 #[.agg #[.slice A m cm,.slice B nb cb]] W (fun e W'=>∃ A' c',e= .returned (.slice A' fs.length c')/\SW b w0 (rowOb 168 2 (.slice A' fs.length c') fs.length (fs.flatMap encF)::l) W'))
 (HLn:∀ f∈fs,∀ (b:Nat) (w0 W:World) (l:List Ob),SW b w0 l W->dO∈l->Calls Tryz.prog 142 #[.agg #[.slice A m cm,.slice B nb cb],vF f] W (fun e W'=>∃ A' c',e= .returned (.slice A' (mem f).length c')/\SW b w0 (rowOb 111 12 (.slice A' (mem f).length c') (mem f).length ((mem f).flatMap RvO.enc)::l) W')):
 Calls Tryz.prog 51 #[.agg #[.slice A m cm,.slice B nb cb],.agg #[.int .i64 kp,.int .i64 bf],.slice K nk ck] w (fun e w'=>∃ A' c',e= .returned (.tuple #[.slice A' (selOf (selAll kp bf (keptOf ks) mem fs) rs).length c',.int .i64 0])/\SW b w0 (rowOb 111 12 (.slice A' (selOf (selAll kp bf (keptOf ks) mem fs) rs).length c') (selOf (selAll kp bf (keptOf ks) mem fs) rs).length ((selOf (selAll kp bf (keptOf ks) mem fs) rs).flatMap Rv.enc)::l) w'):=by
 have HKO:=hid hko;have HRV:=hid hrv;have HDO:=hid hdo;have HM:=hid hm;have HKN:=hid hkn;clear hko hrv hdo hm hkn;have hmk1:∀ (W:World),(Instr.makeMap 146 none).run Tryz.prog W= .ok (.map (some W.heap.size)) (W.alloc (.map #[] 0)):=fun W=>by simp [Instr.makeMap,run_underlying Tryz.underlying146]
 have hmk2:∀ (W:World),(Instr.makeMap 164 none).run Tryz.prog W= .ok (.map (some W.heap.size)) (W.alloc (.map #[] 0)):=fun W=>by simp [Instr.makeMap,run_underlying Tryz.underlying164]
 have S0:Hid (SW b w0 (cellOb (w.heap.size+1) 109 #[.int .i64 kp,.int .i64 bf]::cellOb w.heap.size 96 #[.slice A m cm,.slice B nb cb]::l) _):=hid ((h.newCell 96 #[.slice A m cm,.slice B nb cb]).newCellAt 109 #[.int .i64 kp,.int .i64 bf] (H:=w.heap.size+1) (by simp));clear h;refine (callsIn_wide (n:=6)).1 ?_;refine callsIn_of_wp_marks Tryz.func51 rfl trivial ?_ rfl;refine wpIn_wide.2 (wp_mono (Q:=calm _) ?_ calm_le);simp only [Tryz.ntmps51,List.size_toArray,List.length_cons,List.length_nil,Nat.reduceAdd,Nat.reduceSub,Array.replicate_succ,Array.replicate_zero,List.push_toArray,List.append_toArray,List.nil_append,List.cons_append];go_upto_region 1 with fail
 obtain ⟨w1,HW⟩:∃ W,Hid ((w.alloc (.cells #[.slice A m cm,.slice B nb cb] 96)).alloc (.cells #[.int .i64 kp,.int .i64 bf] 109)=W):=⟨_,rfl⟩;rw [HW.out] at S0 |-; clear HW;obtain ⟨g4,HG4⟩:∃ x,Hid (w.heap.size+1=x):=⟨_,rfl⟩;rw [HG4.out] at S0 |-; clear HG4;obtain ⟨g3,HG3⟩:∃ x,Hid (w.heap.size=x):=⟨_,rfl⟩;rw [HG3.out] at S0 |-; clear HG3;have c0:w1.cell? ⟨g4,0,none⟩=some (.int .i64 kp):=(S0.out.cell 0 rfl).cell 0;have c1:w1.cell? ⟨g4,1,none⟩=some (.int .i64 bf):=(S0.out.cell 0 rfl).cell 1;have k1:¬ kp<1:=by omega
 have k2:¬ bf<0:=by omega
 go_upto_region 4 with fail
 clear hmk1;have S1a:=hid ((S0.out.addMp (ok:=okID) (kv:=vID) (vv:=vB1)).newCellAt 146 #[.map (some w1.heap.size)] (H:=w1.heap.size+1) (by simp));obtain ⟨w2,HW⟩:∃ W,Hid (((w1.alloc (Obj.map #[] 0)).alloc (Obj.cells #[Value.map (some w1.heap.size)] 146))=W):=⟨_,rfl⟩;rw [HW.out] at S1a |-; clear HW S0 c0 c1 k1 k2;obtain ⟨g8,HG8⟩:∃ x,Hid (w1.heap.size+1=x):=⟨_,rfl⟩;rw [HG8.out] at S1a |-; clear HG8;obtain ⟨mK,HMK⟩:∃ x,Hid (w1.heap.size=x):=⟨_,rfl⟩;rw [HMK.out] at S1a |-; clear HMK;go_wp2_with fail
 go_loopw [31] (fun s31 wr=>∃ j:Nat,s31= .int .i64 (j:Int)/\j<=nk/\SW b w0 (cellOb g8 146 #[.map (some mK)]::mpOb okID vID vB1 mK (keptOf (ks.take j))::cellOb g4 109 #[.int .i64 kp,.int .i64 bf]::cellOb g3 96 #[.slice A m cm,.slice B nb cb]::l) wr) (fun s31 _=>nk-(intOf s31).toNat)
 case atStart=>exact ⟨0,rfl,Nat.zero_le _,S1a.out⟩
 obtain ⟨j,rfl,hjn,hs⟩:=hrel;clear S1a;by_cases hlt:j<nk
 · obtain ⟨g,i,hA,hg,hij,hc0,hc1⟩:=ids_at (hs.1.holds _ (List.mem_cons_of_mem _ (List.mem_cons_of_mem _ (List.mem_cons_of_mem _ (List.mem_cons_of_mem _ HKO.out))))) HKN.out hlt;subst hA;have hoi:okID i:=hki i (List.mem_of_getElem? hij);have S2:=hid (hs.newCell 36 #[.int .u64 i.1,.int .i64 i.2]);have d8:(wr.alloc (.cells #[.int .u64 i.1,.int .i64 i.2] 36)).cell? ⟨g8,0,none⟩=some (.map (some mK)):=(S2.out.cell 1 rfl).cell 0;obtain ⟨w3,hup,hmp,hgr,hsz⟩:=MapIs.update mkI Tryz.underlying146 (S2.out.get 2 rfl:MapIs okID vID vB1 (wr.alloc (.cells #[.int .u64 i.1,.int .i64 i.2] 36)) mK (keptOf (ks.take j))) hoi true;have S3:=hid (S2.out.updMp 2 rfl hmp hgr);clear S2 hmp hgr hsz hs;go_wp2_with fail
   go_roundw
   case rel=>
    refine ⟨j+1,by go_num,by omega,?_⟩;rw [keptOf_take hij];exact S3.out.tail
   simp [intOf];omega
 obtain ⟨e,he⟩:∃ e,Hid (e=j):=⟨_,rfl⟩;obtain rfl:nk=j:=by omega
 clear he e;have hkt:ks.take nk=ks:=List.take_of_length_le (by rw [HKN.out];exact Nat.le_refl _);rw [hkt] at hs;have S4a:=hid ((hs.addMp (ok:=okID) (kv:=vID) (vv:=vB1)).newCellAt 146 #[.map (some wr.heap.size)] (H:=wr.heap.size+1) (by simp));clear hs hkt;have hmk1:∀ (W:World),(Instr.makeMap 146 none).run Tryz.prog W= .ok (.map (some W.heap.size)) (W.alloc (.map #[] 0)):=fun W=>by simp [Instr.makeMap,run_underlying Tryz.underlying146]
 go_upto_region 10 with fail
 obtain ⟨w3,HW⟩:∃ W,Hid (((wr.alloc (Obj.map #[] 0)).alloc (Obj.cells #[Value.map (some wr.heap.size)] 146))=W):=⟨_,rfl⟩;rw [HW.out] at S4a |-; clear HW hmk1;obtain ⟨g11,HG⟩:∃ x,Hid (wr.heap.size+1=x):=⟨_,rfl⟩;rw [HG.out] at S4a |-; clear HG;obtain ⟨mS,HMS⟩:∃ x,Hid (wr.heap.size=x):=⟨_,rfl⟩;rw [HMS.out] at S4a |-; clear HMS;have S5a:=hid ((S4a.out.addMp (ok:=okF) (kv:=vF) (vv:=vB1)).newCellAt 164 #[.map (some w3.heap.size)] (H:=w3.heap.size+1) (by simp));clear S4a;go_upto_region 11 with fail
 obtain ⟨w4,HW⟩:∃ W,Hid (((w3.alloc (Obj.map #[] 0)).alloc (Obj.cells #[Value.map (some w3.heap.size)] 164))=W):=⟨_,rfl⟩;rw [HW.out] at S5a |-; clear HW hmk2;obtain ⟨g12,HG⟩:∃ x,Hid (w3.heap.size+1=x):=⟨_,rfl⟩;rw [HG.out] at S5a |-; clear HG;obtain ⟨mO,HMO⟩:∃ x,Hid (w3.heap.size=x):=⟨_,rfl⟩;rw [HMO.out] at S5a |-; clear HMO;have e0:w4.cell? ⟨g3,0,none⟩=some (.slice A m cm):=(S5a.out.cell 7 rfl).cell 0;have e1:w4.cell? ⟨g3,1,none⟩=some (.slice B nb cb):=(S5a.out.cell 7 rfl).cell 1;have HLS:=hid (HLs b w0 w4 _ S5a.out (List.mem_cons_of_mem _ (List.mem_cons_of_mem _ (List.mem_cons_of_mem _ (List.mem_cons_of_mem _ (List.mem_cons_of_mem _ (List.mem_cons_of_mem _ (List.mem_cons_of_mem _ (List.mem_cons_of_mem _ HDO.out)))))))));clear HLs S5a;go_wp2_with (go_at_call 102;(with_reducible refine HLS.out.mono ?_);refine halt_ ?_)
 rintro e w5 ⟨LA,lc,rfl,s5⟩;have S5:=hid s5;clear s5 HLS e0 e1;obtain ⟨n,hn⟩:∃ n,Hid (fs.length=n):=⟨_,rfl⟩;rw [hn.out] at S5 hfl |-; go_wp2_with fail
 refine wp_loop (fun a W=>∃ (j:Nat) (L:List Nat) (v14 v44 v45 v46 v47 v48 v49 v78:Value),j<=n/\L.Nodup/\SW b w0 (dfOb L::rowOb 168 2 (.slice LA n lc) n (fs.flatMap encF)::cellOb g12 164 #[.map (some mO)]::mpOb okF vF vB1 mO (selAll kp bf (keptOf ks) mem (fs.take j)).2::cellOb g11 146 #[.map (some mS)]::mpOb okID vID vB1 mS (selAll kp bf (keptOf ks) mem (fs.take j)).1::cellOb g8 146 #[.map (some mK)]::mpOb okID vID vB1 mK (keptOf ks)::cellOb g4 109 #[.int .i64 kp,.int .i64 bf]::cellOb g3 96 #[.slice A m cm,.slice B nb cb]::l) W/\a={ tmps:=List.toArray (.agg #[.slice A m cm,.slice B nb cb]:: .agg #[.int .i64 kp,.int .i64 bf]:: .slice K nk ck::vPtr g3::vPtr g4::undef:: .slice none 0 0:: .int .i64 0::vPtr g8::undef::u10::vPtr g11::vPtr g12::undef::v14::undef::undef::undef::undef::undef::vPtr g4:: .int .i64 kp:: .bool false:: .bool false:: .pointer (some ⟨g4,1,none⟩):: .int .i64 bf:: .bool false:: .bool false:: .map (some mK):: .slice K nk ck:: .int .i64 (nk:Int):: .int .i64 (nk:Int):: .bool false::u33::u34::u35::u36::u37:: .map (some mS):: .map (some mO):: .agg #[.slice A m cm,.slice B nb cb]:: .slice LA n lc:: .int .i64 (n:Int):: .int .i64 (j:Int)::v44::v45::v46::v47::v48::v49::undef::undef::undef::undef::undef::undef::undef::undef::undef::undef::undef::undef::undef::undef::undef::undef::undef::undef::undef::undef::undef::undef::undef::undef::undef::undef::undef::undef::v78::undef::undef::undef::undef::undef::undef::undef::undef::undef::undef::undef::undef::undef::undef::undef::undef::undef::undef::undef::undef::undef::undef::undef::undef::[]),defers:=marks L }) (fun a _=>n-(intOf (a.tmps.getD 43 undef)).toNat) ⟨0,[],undef,undef,undef,undef,undef,undef,undef,undef,Nat.zero_le _,List.nodup_nil,?_,rfl⟩ ?_
 · refine S5.out.also (fun i hi=>by cases hi) (fun i hi=>by cases hi) (fun i hi=>hi.elim) (fun i hi=>hi.elim)
 clear S5;rintro a W ⟨j,L,v14,v44,v45,v46,v47,v48,v49,v78,hjn,hnd,hs,rfl⟩;by_cases hlt2:j<n
 · obtain ⟨gl,f,hLA,hgl,hfj,hc0,hc1⟩:=files_at (RowV.of (hs.get 1 rfl)) hn.out hlt2;subst hLA;have hfm:f∈fs:=List.mem_of_getElem? hfj;have S1:=hid (hs.newCell 168 #[.string f.1,.int .i64 f.2]);clear hs;go_upto_region 14 with fail
   obtain ⟨w6,HW⟩:∃ W',Hid (W.alloc (Obj.cells #[Value.string f.1,Value.int .i64 f.2] 168)=W'):=⟨_,rfl⟩;rw [HW.out] at S1 |-; clear HW hc0 hc1;obtain ⟨g14,HG⟩:∃ x,Hid (W.heap.size=x):=⟨_,rfl⟩;rw [HG.out] at S1 |-; clear HG;have c0:w6.cell? ⟨g14,0,none⟩=some (.string f.1):=(S1.out.cell 0 rfl).cell 0;have c1:w6.cell? ⟨g14,1,none⟩=some (.int .i64 f.2):=(S1.out.cell 0 rfl).cell 1;have e0:w6.cell? ⟨g3,0,none⟩=some (.slice A m cm):=(S1.out.cell 10 rfl).cell 0;have e1:w6.cell? ⟨g3,1,none⟩=some (.slice B nb cb):=(S1.out.cell 10 rfl).cell 1;have S2a:=hid ((S1.out.newCell 96 #[.slice A m cm,.slice B nb cb]).newCellAt 168 #[.string f.1,.int .i64 f.2] (H:=w6.heap.size+1) (by simp));go_wp2_with (go_at_call 103;(with_reducible refine (backwards_any w6 (.slice A m cm) (.slice B nb cb) f.1 f.2).mono ?_);refine halt_ ?_)
   rintro e w7 ⟨rfl,HW⟩;rw [<- HW] at S2a;have S2:=S2a;clear S2a c0 c1 e0 e1 S1 HW;obtain ⟨gb,HG⟩:∃ x,Hid (w6.heap.size=x):=⟨_,rfl⟩;rw [HG.out] at S2 |-; clear HG;go_wp2_with fail
   have ib1:IsB w7 gb 96 #[.slice A m cm,.slice B nb cb]:=S2.out.cell 1 rfl;have ib2:IsB w7 (gb+1) 168 #[.string f.1,.int .i64 f.2]:=S2.out.cell 0 rfl;have HDS:=hid (S2.out.reader (List.mem_cons_of_mem _ (List.mem_cons_of_mem _ (List.mem_cons_of_mem _ (List.mem_cons_of_mem _ (List.mem_cons_of_mem _ (List.mem_cons_of_mem _ (List.mem_cons_of_mem _ (List.mem_cons_of_mem _ (List.mem_cons_of_mem _ (List.mem_cons_of_mem _ (List.mem_cons_of_mem _ (List.mem_cons_of_mem _ (List.mem_cons_of_mem _ HDO.out))))))))))))) hdn);have HLF:=hid (HLn f hfm);have hmlf:=hml f hfm
   have HIT:Hid (SeqStopsK Fence.wide 5 Tryz.prog 141 #[vPtr gb,vPtr (gb+1)] (fun x:Nat×RvO=> #[.int .i64 (x.1:Int),x.2.1.val]) KpC (fun xs=>xs=backL (mem f)) (fun pre=>pre <+: backL (mem f)) (mem f).length w7):=by
    refine back_stops 4 gb (gb+1) w7 (.slice A m cm) (.slice B nb cb) f.1 f.2 (mem f) (by unfold maxLen;omega) ib1 ib2 (fun W' hW'=>?_);refine (HLF.out W'.heap.size W' W' [dO] ((HDS.out.on hW').atSelf (fun o ho=>by rw [List.mem_singleton.1 ho];exact hdn)) (List.mem_singleton.2 rfl)).mono ?_;rintro e W2 ⟨A',c',rfl,s⟩;exact ⟨A',c',rfl,RowV.of (s.get 0 rfl),s.2⟩
   have S3:=hid S2.out.tail.tail;have HIN:=hid S3.out.inside;have hb7:=S3.out.1.base;clear S2 ib1 ib2 HDS HLF;refine (wpIn_wide (n:=6)).1 ?_
   refine wpIn_rangeFunc_ownH (α:=Nat×RvO) (F:=Fence.wide) (n:=6) rfl (by omega) (gf:=141) (lb:= #[vPtr gb,vPtr (gb+1)]) rfl trivial (enters_of Tryz.func141 (by kernel_rfl) rfl) HIT.out KpC.trans (kpC_b (w:=w7)) (Below.refl _ _) (fun _=>rfl)
    (fun pre W'=>SW b w0 (cellOb g14 168 #[.string f.1,.int .i64 f.2]::dfOb L::rowOb 168 2 (.slice (some ⟨gl,0,none⟩) n lc) n (fs.flatMap encF)::cellOb g12 164 #[.map (some mO)]::mpOb okF vF vB1 mO (pre.foldl (selStep kp bf (keptOf ks)) (selAll kp bf (keptOf ks) mem (fs.take j))).2::cellOb g11 146 #[.map (some mS)]::mpOb okID vID vB1 mS (pre.foldl (selStep kp bf (keptOf ks)) (selAll kp bf (keptOf ks) mem (fs.take j))).1::cellOb g8 146 #[.map (some mK)]::mpOb okID vID vB1 mK (keptOf ks)::cellOb g4 109 #[.int .i64 kp,.int .i64 bf]::cellOb g3 96 #[.slice A m cm,.slice B nb cb]::l) W'/\w7.heap.size<=W'.heap.size) (fun _ _ _=>False)
    (OwnFrom.and (SW.ownFrom (fun pre=>inside_of HIN.out ?inside) hb7) (fun _ _ _ _ h hg _=>Nat.le_trans h hg.size)) (fun _ _ _ _ _ hs _ _=>hs) ⟨S3.out,Nat.le_refl _⟩
    (fun x a' W'=>∃ Bx,w7.heap.size<=Bx/\IsB W' Bx 111 #[.string x.2.1.p,.int .i64 x.2.1.n,.int .i64 x.2.1.c,.int .i64 x.2.1.a,.int .i64 x.2.1.tb,.bool x.2.1.f1,.bool x.2.1.f2,.bool x.2.1.f3,.int .u64 x.2.1.sm,.int .i64 x.2.1.sz,.string x.2.1.fp,.int .i64 x.2.1.fn]/\a'={ tmps:=List.toArray (.agg #[.slice A m cm,.slice B nb cb]:: .agg #[.int .i64 kp,.int .i64 bf]:: .slice K nk ck::vPtr g3::vPtr g4::undef:: .slice none 0 0:: .int .i64 0::vPtr g8::undef::u10::vPtr g11::vPtr g12::undef::vPtr g14:: .int .i64 (x.1:Int)::vPtr Bx::undef::undef::undef::vPtr g4:: .int .i64 kp:: .bool false:: .bool false:: .pointer (some ⟨g4,1,none⟩):: .int .i64 bf:: .bool false:: .bool false:: .map (some mK):: .slice K nk ck:: .int .i64 (nk:Int):: .int .i64 (nk:Int):: .bool false::u33::u34::u35::u36::u37:: .map (some mS):: .map (some mO):: .agg #[.slice A m cm,.slice B nb cb]:: .slice (some ⟨gl,0,none⟩) n lc:: .int .i64 (n:Int):: .int .i64 (j:Int):: .bool true:: .pointer (some ⟨gl,j*2,none⟩):: .agg #[.string f.1,.int .i64 f.2]:: .agg #[.slice A m cm,.slice B nb cb]:: .agg #[.string f.1,.int .i64 f.2]:: .func (.func 141) #[] #[vPtr gb,vPtr (gb+1)]:: .int .i64 (x.1:Int)::x.2.1.val::undef::undef::undef::undef::undef::undef::undef::undef::undef::undef::undef::undef::undef::undef::undef::undef::undef::undef::undef::undef::undef::undef::undef::undef::undef::undef::v78::undef::undef::undef::undef::undef::undef::undef::undef::undef::undef::undef::undef::undef::undef::undef::undef::undef::undef::undef::undef::undef::undef::undef::undef::[]),defers:=[] })
    (fun x a' _ W1 W2 row h hg hr=>?hAx) ?assign ?body ?done ?stop
   case inside=>exact ⟨⟨fun _=>Iff.rfl,fun _=>Iff.rfl⟩,⟨⟨fun _=>Iff.rfl,fun _=>Iff.rfl⟩,⟨⟨fun _=>Iff.rfl,fun _=>Iff.rfl⟩,⟨⟨fun _=>Iff.rfl,fun _=>Iff.rfl⟩,⟨⟨fun _=>Iff.rfl,fun _=>Iff.rfl⟩,⟨⟨fun _=>Iff.rfl,fun _=>Iff.rfl⟩,⟨⟨fun _=>Iff.rfl,fun _=>Iff.rfl⟩,same_refl _⟩⟩⟩⟩⟩⟩⟩
   case hAx=>
    obtain ⟨Bx,h1,h2,h3⟩:=h;exact ⟨Bx,h1,(grownBy_keeps_cells hg (fun r e=>(hr r e).2) h2 rfl).trans h2,h3⟩
   case assign=>
    intro l' pre x W' K' hi hK;have HK':=hid hK;have HI':=hid hi;clear hK hi;gi_wp2
    refine HK'.out _ _ ((KeepsOthers.alloc _ _).from _) (KpC.of_below (bel1q _ _)) ⟨HI'.out.1.alloc _,by have:=HI'.out.2;simp;omega⟩ ⟨W'.heap.size,HI'.out.2,World.alloc_heap_new W' _,?_⟩;rfl
   case body=>
    rintro l' pre ⟨i,r,hok⟩ a' W' _ _ ⟨hs,hsz⟩ ⟨Bx,hBx,hx,rfl⟩ hlen;have S4:=hid hs;clear hs hlen;dsimp only at hx |-; have HFO:=hid (show (pre++[(i,(⟨r,hok⟩:RvO))]).foldl (selStep kp bf (keptOf ks)) (selAll kp bf (keptOf ks) mem (fs.take j))=selStep kp bf (keptOf ks) (pre.foldl (selStep kp bf (keptOf ks)) (selAll kp bf (keptOf ks) mem (fs.take j))) (i,⟨r,hok⟩) by rw [List.foldl_append,List.foldl_cons,List.foldl_nil]);obtain ⟨s,HSP⟩:∃ s,Hid (pre.foldl (selStep kp bf (keptOf ks)) (selAll kp bf (keptOf ks) mem (fs.take j))=s):=⟨_,rfl⟩;rw [HSP.out] at S4 HFO;clear HSP;have p0:W'.cell? ⟨Bx,0,none⟩=some (.string r.p):=hx.cell 0;have p1:W'.cell? ⟨Bx,1,none⟩=some (.int .i64 r.n):=hx.cell 1;have p2:W'.cell? ⟨Bx,2,none⟩=some (.int .i64 r.c):=hx.cell 2;have p3:W'.cell? ⟨Bx,3,none⟩=some (.int .i64 r.a):=hx.cell 3;have p4:W'.cell? ⟨Bx,4,none⟩=some (.int .i64 r.tb):=hx.cell 4;have p5:W'.cell? ⟨Bx,5,none⟩=some (.bool r.f1):=hx.cell 5;have p6:W'.cell? ⟨Bx,6,none⟩=some (.bool r.f2):=hx.cell 6;have p7:W'.cell? ⟨Bx,7,none⟩=some (.bool r.f3):=hx.cell 7;have p8:W'.cell? ⟨Bx,8,none⟩=some (.int .u64 r.sm):=hx.cell 8;have p9:W'.cell? ⟨Bx,9,none⟩=some (.int .i64 r.sz):=hx.cell 9;have p10:W'.cell? ⟨Bx,10,none⟩=some (.string r.fp):=hx.cell 10;have p11:W'.cell? ⟨Bx,11,none⟩=some (.int .i64 r.fn):=hx.cell 11
    have q0:W'.cell? ⟨g4,0,none⟩=some (.int .i64 kp):=(S4.out.cell 9 rfl).cell 0;have q1:W'.cell? ⟨g4,1,none⟩=some (.int .i64 bf):=(S4.out.cell 9 rfl).cell 1;have q2:W'.cell? ⟨g8,0,none⟩=some (.map (some mK)):=(S4.out.cell 7 rfl).cell 0;have q3:W'.cell? ⟨g11,0,none⟩=some (.map (some mS)):=(S4.out.cell 5 rfl).cell 0;have q4:W'.cell? ⟨g12,0,none⟩=some (.map (some mO)):=(S4.out.cell 3 rfl).cell 0;by_cases h3:r.a=3
    · have hst:selStep kp bf (keptOf ks) s (i,⟨r,hok⟩)=s:=if_pos h3;rw [hst] at HFO;clear hst
      have SF:Hid (SW b w0 (cellOb g14 168 #[.string f.1,.int .i64 f.2]::dfOb L::rowOb 168 2 (.slice (some ⟨gl,0,none⟩) n lc) n (fs.flatMap encF)::cellOb g12 164 #[.map (some mO)]::mpOb okF vF vB1 mO ((pre++[(i,(⟨r,hok⟩:RvO))]).foldl (selStep kp bf (keptOf ks)) (selAll kp bf (keptOf ks) mem (fs.take j))).2::cellOb g11 146 #[.map (some mS)]::mpOb okID vID vB1 mS ((pre++[(i,(⟨r,hok⟩:RvO))]).foldl (selStep kp bf (keptOf ks)) (selAll kp bf (keptOf ks) mem (fs.take j))).1::cellOb g8 146 #[.map (some mK)]::mpOb okID vID vB1 mK (keptOf ks)::cellOb g4 109 #[.int .i64 kp,.int .i64 bf]::cellOb g3 96 #[.slice A m cm,.slice B nb cb]::l) W'):=by
       rw [Hid,HFO.out];exact S4.out
      clear S4 HFO;gi_wp2
      exact ⟨KeepsFrom.refl _ _,KpC.refl _,SF.out,hsz⟩
    obtain ⟨hlk,HLK⟩:∃ x,Hid (inS (keptOf ks) r.id=x):=⟨_,rfl⟩
    have hl:(Instr.lookup 146 (.map (some mK)) (.agg #[.int .u64 r.sm,.int .i64 r.sz]) false).run Tryz.prog W'= .ok (.bool hlk) W':=by
     rw [<- HLK.out];exact MapIs.lookB mkI Tryz.underlying146 (S4.out.get 8 rfl:MapIs okID vID vB1 W' mK (keptOf ks)) hok.1
    have hcase:(stayB kp bf (keptOf ks) (i,⟨r,hok⟩)=true/\(bf<=r.c∨(¬ bf<=r.c/\(i:Int)<kp)∨(¬ bf<=r.c/\¬ (i:Int)<kp/\hlk=true)))∨(stayB kp bf (keptOf ks) (i,⟨r,hok⟩)=false/\¬ bf<=r.c/\¬ (i:Int)<kp/\hlk=false):=by
     unfold stayB;dsimp only;rw [HLK.out];by_cases h1:bf<=r.c<;>by_cases h2:(i:Int)<kp<;>cases hlk<;>simp [h1,h2]
    rcases hcase with ⟨hst,hc⟩ | ⟨hst,h1,h2,rfl⟩
    · have hst2:selStep kp bf (keptOf ks) s (i,⟨r,hok⟩)=(setL s.1 r.id true,s.2):=by
       unfold selStep;rw [if_neg h3,if_pos hst]
      rw [hst2] at HFO;clear hst hst2;obtain ⟨w8,hup,hmp,hgr,hsz8⟩:=MapIs.update mkI Tryz.underlying146 (S4.out.get 6 rfl:MapIs okID vID vB1 W' mS s.1) hok.1 true;have S5:=hid (S4.out.updMp 6 rfl hmp hgr);have HG:=hid hgr;have hmS:mS<w7.heap.size:=HIN.out (mpOb okID vID vB1 mS (selAll kp bf (keptOf ks) mem (fs.take j)).1) (by simp) mS (.inl rfl);clear hmp hgr;have hup2:(Instr.mapUpdate 146 (.map (some mS)) (.agg #[.int .u64 r.sm,.int .i64 r.sz]) (.bool true)).run Tryz.prog W'= .ok () w8:=hup;clear hup
      have SF:Hid (SW b w0 (cellOb g14 168 #[.string f.1,.int .i64 f.2]::dfOb L::rowOb 168 2 (.slice (some ⟨gl,0,none⟩) n lc) n (fs.flatMap encF)::cellOb g12 164 #[.map (some mO)]::mpOb okF vF vB1 mO ((pre++[(i,(⟨r,hok⟩:RvO))]).foldl (selStep kp bf (keptOf ks)) (selAll kp bf (keptOf ks) mem (fs.take j))).2::cellOb g11 146 #[.map (some mS)]::mpOb okID vID vB1 mS ((pre++[(i,(⟨r,hok⟩:RvO))]).foldl (selStep kp bf (keptOf ks)) (selAll kp bf (keptOf ks) mem (fs.take j))).1::cellOb g8 146 #[.map (some mK)]::mpOb okID vID vB1 mK (keptOf ks)::cellOb g4 109 #[.int .i64 kp,.int .i64 bf]::cellOb g3 96 #[.slice A m cm,.slice B nb cb]::l) w8):=by
       rw [Hid,HFO.out];exact S5.out
      have HKF:=hid (KeepsFrom.of_grownBy HG.out (fun k e=>by injection e with e;rw [<- e];exact hmS))
      have HKC:Hid (KpC W' w8):=hid ⟨HG.out.size,fun k o hk hc=>(HG.out.block k (Array.getElem?_eq_some_iff.1 hk).1 (fun e=>by
       injection e with e;obtain ⟨es,clock,hb,_⟩:MapIs okID vID vB1 W' mS s.1:=S4.out.get 6 rfl;rw [e,hb] at hk;injection hk with hk;rw [<- hk] at hc;cases hc)).trans hk⟩
      clear S4 S5 HFO HG;rcases hc with h1 | ⟨h1,h2⟩ | ⟨h1,h2,rfl⟩
      · gi_wp2
        exact ⟨HKF.out,HKC.out,SF.out,by omega⟩
      · gi_wp2
        exact ⟨HKF.out,HKC.out,SF.out,by omega⟩
      gi_wp2
      exact ⟨HKF.out,HKC.out,SF.out,by omega⟩
    have hst2:selStep kp bf (keptOf ks) s (i,⟨r,hok⟩)=(s.1,setL s.2 r.fi true):=by
     unfold selStep;rw [if_neg h3,if_neg (by rw [hst];decide)]
    rw [hst2] at HFO;clear hst hst2;have HFI:=hid (fileOf_all r);have hmO:mO<w7.heap.size:=HIN.out (mpOb okF vF vB1 mO (selAll kp bf (keptOf ks) mem (fs.take j)).2) (by simp) mO (.inl rfl)
    have HUP:Hid (∀ w9,Below W'.heap.size W' w9->w9.cell? ⟨g12,0,none⟩=some (.map (some mO))/\∃ w10,(Instr.mapUpdate 164 (.map (some mO)) (vF r.fi) (.bool true)).run Tryz.prog w9= .ok () w10/\(KeepsFrom w7.heap.size W' w10/\KpC W' w10/\SW b w0 (cellOb g14 168 #[.string f.1,.int .i64 f.2]::dfOb L::rowOb 168 2 (.slice (some ⟨gl,0,none⟩) n lc) n (fs.flatMap encF)::cellOb g12 164 #[.map (some mO)]::mpOb okF vF vB1 mO ((pre++[(i,(⟨r,hok⟩:RvO))]).foldl (selStep kp bf (keptOf ks)) (selAll kp bf (keptOf ks) mem (fs.take j))).2::cellOb g11 146 #[.map (some mS)]::mpOb okID vID vB1 mS ((pre++[(i,(⟨r,hok⟩:RvO))]).foldl (selStep kp bf (keptOf ks)) (selAll kp bf (keptOf ks) mem (fs.take j))).1::cellOb g8 146 #[.map (some mK)]::mpOb okID vID vB1 mK (keptOf ks)::cellOb g4 109 #[.int .i64 kp,.int .i64 bf]::cellOb g3 96 #[.slice A m cm,.slice B nb cb]::l) w10/\w7.heap.size<=w10.heap.size)):=hid (fun w9 hb=>by
     have S5:=S4.out.on hb;obtain ⟨w10,hup,hmp,hgr,hsz10⟩:=MapIs.update mkF Tryz.underlying164 (S5.get 4 rfl:MapIs okF vF vB1 w9 mO s.2) hok.2 true;refine ⟨(S5.cell 3 rfl).cell 0,w10,hup,?_,?_,?_,?_⟩
     · refine KeepsFrom.trans ⟨hb.size,fun k o _ hk _=>(hb.block k (Array.getElem?_eq_some_iff.1 hk).1).trans hk⟩ (KeepsFrom.of_grownBy hgr (fun k e=>by injection e with e;rw [<- e];exact hmO))
     · refine (KpC.of_below hb).trans ⟨hgr.size,fun k o hk hc=>(hgr.block k (Array.getElem?_eq_some_iff.1 hk).1 (fun e=>by
        injection e with e;obtain ⟨es,clock,hb2,_⟩:MapIs okF vF vB1 w9 mO s.2:=S5.get 4 rfl;rw [e,hb2] at hk;injection hk with hk;rw [<- hk] at hc;cases hc)).trans hk⟩
     · rw [HFO.out];exact S5.updMp 4 rfl hmp hgr
     have:=hb.size;have:=hgr.size;omega)
    clear S4 HFO;gi_wp2
    gi_region_with (refine ⟨trivial,?_⟩;gi_at_call 104;(with_reducible refine (CallsIn.inRound l' (callsIn_wide.2 (HFI.out _))).mono ?_);rintro e w9 ⟨rfl,hb⟩;obtain ⟨q4',w10,hup,hq⟩:=HUP.out w9 ((Below.refl _ W').drew.trans hb);have HQ:=hid hq;clear hq)
    all_goals exact HQ.out
   case done=>
    rintro D xs W' hD rfl ⟨hs,hsz⟩ hK
    have hDL:D ∉ L:=fun h=>by
     have:=HIN.out (dfOb L) (by simp) D (.inl h);omega
    have S4:=hid (hs.tail.mark (D:=D) (fun o ho=>by
     refine inside_of HIN.out (l':=cellOb g14 168 #[.string f.1,.int .i64 f.2]::dfOb L::_) ?_ o (List.mem_cons_of_mem _ (List.mem_cons_of_mem _ ho));exact ⟨⟨fun _=>Iff.rfl,fun _=>Iff.rfl⟩,⟨⟨fun _=>Iff.rfl,fun _=>Iff.rfl⟩,⟨⟨fun _=>Iff.rfl,fun _=>Iff.rfl⟩,⟨⟨fun _=>Iff.rfl,fun _=>Iff.rfl⟩,⟨⟨fun _=>Iff.rfl,fun _=>Iff.rfl⟩,⟨⟨fun _=>Iff.rfl,fun _=>Iff.rfl⟩,⟨⟨fun _=>Iff.rfl,fun _=>Iff.rfl⟩,same_refl _⟩⟩⟩⟩⟩⟩⟩) hD hb7 hK)
    have hmk:marks (D::L)={ target:=.collected D,args:= #[] }::marks L:=rfl;clear hs hK HIT S3 HIN;dsimp only;rw [<- hmk];clear hmk;go_wp2_with fail
    refine ⟨⟨j+1,D::L,_,_,_,_,_,_,_,_,by omega,List.nodup_cons.2 ⟨hDL,hnd⟩,?_,rfl⟩,?_⟩
    · rw [selAll_take hfj];exact S4.out
    simp [intOf];omega
   case stop=>
    rintro D c pre W' _ _ h _;exact h.elim
 obtain ⟨e,he⟩:∃ e,Hid (e=j):=⟨_,rfl⟩;obtain rfl:n=j:=by omega
 clear he e;have hkt:fs.take n=fs:=List.take_of_length_le (by rw [hn.out];exact Nat.le_refl _);rw [hkt] at hs;have S1:=hid hs;clear hs hkt;obtain ⟨SE,HSE⟩:∃ s,Hid (selAll kp bf (keptOf ks) mem fs=s):=⟨_,rfl⟩;rw [HSE.out] at S1;have e0:W.cell? ⟨g3,0,none⟩=some (.slice A m cm):=(S1.out.cell 9 rfl).cell 0;have e1:W.cell? ⟨g3,1,none⟩=some (.slice B nb cb):=(S1.out.cell 9 rfl).cell 1;have S2:Hid (SW b w0 (rowOb 111 12 (.slice none 0 0) 0 []::dfOb L::cellOb g12 164 #[.map (some mO)]::mpOb okF vF vB1 mO SE.2::cellOb g11 146 #[.map (some mS)]::mpOb okID vID vB1 mS SE.1::cellOb g3 96 #[.slice A m cm,.slice B nb cb]::l) W):=hid (SW.newRow (SW.few (pre:=[_,_,_,_,_,_,_,_,_,_]) S1.out [0,2,3,4,5,9] (n:=10) rfl (by decide) (by decide)) 111 12);go_wp2_with fail
 clear e0 e1 S1;go_loopw [17,82] (fun s17 s82 wr=>∃ (j:Nat) (RA:Option Addr) (q rc:Nat),s82= .int .i64 (j:Int)/\j<=m/\s17= .slice RA q rc/\q=(selOf SE (rs.take j)).length/\SW b w0 (rowOb 111 12 (.slice RA q rc) q ((selOf SE (rs.take j)).flatMap Rv.enc)::dfOb L::cellOb g12 164 #[.map (some mO)]::mpOb okF vF vB1 mO SE.2::cellOb g11 146 #[.map (some mS)]::mpOb okID vID vB1 mS SE.1::cellOb g3 96 #[.slice A m cm,.slice B nb cb]::l) wr) (fun _ s82 _=>m-(intOf s82).toNat)
 case atStart=>exact ⟨0,none,0,0,rfl,Nat.zero_le _,rfl,rfl,S2.out⟩
 obtain ⟨j,RA,q,rc,rfl,hjm,rfl,hq0,hs⟩:=hrel;have hq:=hid hq0;clear hq0;clear S2;by_cases hlt3:j<m
 · obtain ⟨r,hrj⟩:∃ r,rs[j]? =some r:=⟨rs[j]'(by rw [HM.out];exact hlt3),List.getElem?_eq_getElem _⟩;have hok:okR r:=hro r (List.mem_of_getElem? hrj);obtain ⟨gr,hA,hgr,hc⟩:=(hs.1.holds _ (List.mem_cons_of_mem _ (List.mem_cons_of_mem _ (List.mem_cons_of_mem _ (List.mem_cons_of_mem _ (List.mem_cons_of_mem _ (List.mem_cons_of_mem _ (List.mem_cons_of_mem _ HRV.out))))))):RowV wr 111 12 A m (rs.flatMap Rv.enc)).at (by omega);subst hA
   have hcc:∀ c,c<12->wr.cell? ⟨gr,j*12+c,none⟩=r.enc[c]? :=fun c h=>by
    have hj2:j<rs.length:=by rw [HM.out];exact hlt3
    rw [hc _ (by omega),flat_at Rv.enc_len r rs j c hj2 h,List.getD_eq_getElem?_getD,hrj];rfl
   clear hc;have p0:wr.cell? ⟨gr,j*12,none⟩=some (.string r.p):=hcc 0 (by omega);have p1:wr.cell? ⟨gr,j*12+1,none⟩=some (.int .i64 r.n):=hcc 1 (by omega);have p2:wr.cell? ⟨gr,j*12+2,none⟩=some (.int .i64 r.c):=hcc 2 (by omega);have p3:wr.cell? ⟨gr,j*12+3,none⟩=some (.int .i64 r.a):=hcc 3 (by omega);have p4:wr.cell? ⟨gr,j*12+4,none⟩=some (.int .i64 r.tb):=hcc 4 (by omega);have p5:wr.cell? ⟨gr,j*12+5,none⟩=some (.bool r.f1):=hcc 5 (by omega);have p6:wr.cell? ⟨gr,j*12+6,none⟩=some (.bool r.f2):=hcc 6 (by omega);have p7:wr.cell? ⟨gr,j*12+7,none⟩=some (.bool r.f3):=hcc 7 (by omega);have p8:wr.cell? ⟨gr,j*12+8,none⟩=some (.int .u64 r.sm):=hcc 8 (by omega);have p9:wr.cell? ⟨gr,j*12+9,none⟩=some (.int .i64 r.sz):=hcc 9 (by omega);have p10:wr.cell? ⟨gr,j*12+10,none⟩=some (.string r.fp):=hcc 10 (by omega);have p11:wr.cell? ⟨gr,j*12+11,none⟩=some (.int .i64 r.fn):=hcc 11 (by omega);clear hcc;have S3a:=hid (hs.newCell 111 #[.string r.p,.int .i64 r.n,.int .i64 r.c,.int .i64 r.a,.int .i64 r.tb,.bool r.f1,.bool r.f2,.bool r.f3,.int .u64 r.sm,.int .i64 r.sz,.string r.fp,.int .i64 r.fn]);clear hs;go_upto_region 26 with fail
   obtain ⟨w3,HW⟩:∃ W',Hid (wr.alloc (Obj.cells #[.string r.p,.int .i64 r.n,.int .i64 r.c,.int .i64 r.a,.int .i64 r.tb,.bool r.f1,.bool r.f2,.bool r.f3,.int .u64 r.sm,.int .i64 r.sz,.string r.fp,.int .i64 r.fn] 111)=W'):=⟨_,rfl⟩;obtain ⟨g19,HG⟩:∃ x,Hid (wr.heap.size=x):=⟨_,rfl⟩;rw [HW.out,HG.out] at S3a |-; clear HW HG p0 p1 p2 p3 p4 p5 p6 p7 p8 p9 p10 p11;have S3:=S3a;clear S3a;obtain ⟨iO,HIO⟩:∃ x,Hid (inS SE.2 r.fi=x):=⟨_,rfl⟩
   have hqj:q<=j:=by
    rw [hq.out];exact Nat.le_trans (List.length_filter_le _ _) (by simp;omega)
   cases iO
   · refine wp_region_held_tail [(0,true),(1,true),(2,false),(3,true),(4,true),(5,true),(6,true),(7,true)] (SW b w0 (cellOb g19 111 #[.string r.p,.int .i64 r.n,.int .i64 r.c,.int .i64 r.a,.int .i64 r.tb,.bool r.f1,.bool r.f2,.bool r.f3,.int .u64 r.sm,.int .i64 r.sz,.string r.fp,.int .i64 r.fn]::rowOb 111 12 (.slice RA q rc) q ((selOf SE (rs.take j)).flatMap Rv.enc)::dfOb L::cellOb g12 164 #[.map (some mO)]::mpOb okF vF vB1 mO SE.2::cellOb g11 146 #[.map (some mS)]::mpOb okID vID vB1 mS SE.1::cellOb g3 96 #[.slice (some ⟨gr,0,none⟩) m cm,.slice B nb cb]::l)) (by kernel_rfl) (fun _ _ d _ _ h=>by cases d<;>exact h) (by kernel_rfl) (S3.out.drew) ?_;simp only [picked,List.map_cons,List.map_nil,List.getD_cons_succ,List.getD_cons_zero]
     (refine wpHeld_take (v:=?_) (Or.inl ⟨by rfl,?_⟩) ?_
      rotate_left
      · (intro w' hSw;have hv0:w'.cell? ⟨g19,0,none⟩=some (.string r.p):=(hSw.cell 0 rfl).cell 0;have hv1:w'.cell? ⟨g19,1,none⟩=some (.int .i64 r.n):=(hSw.cell 0 rfl).cell 1;have hv2:w'.cell? ⟨g19,2,none⟩=some (.int .i64 r.c):=(hSw.cell 0 rfl).cell 2;have hv3:w'.cell? ⟨g19,3,none⟩=some (.int .i64 r.a):=(hSw.cell 0 rfl).cell 3;have hv4:w'.cell? ⟨g19,4,none⟩=some (.int .i64 r.tb):=(hSw.cell 0 rfl).cell 4;have hv5:w'.cell? ⟨g19,5,none⟩=some (.bool r.f1):=(hSw.cell 0 rfl).cell 5;have hv6:w'.cell? ⟨g19,6,none⟩=some (.bool r.f2):=(hSw.cell 0 rfl).cell 6;have hv7:w'.cell? ⟨g19,7,none⟩=some (.bool r.f3):=(hSw.cell 0 rfl).cell 7;have hv8:w'.cell? ⟨g19,8,none⟩=some (.int .u64 r.sm):=(hSw.cell 0 rfl).cell 8;have hv9:w'.cell? ⟨g19,9,none⟩=some (.int .i64 r.sz):=(hSw.cell 0 rfl).cell 9;have hv10:w'.cell? ⟨g19,10,none⟩=some (.string r.fp):=(hSw.cell 0 rfl).cell 10;have hv11:w'.cell? ⟨g19,11,none⟩=some (.int .i64 r.fn):=(hSw.cell 0 rfl).cell 11;have hm1:w'.cell? ⟨g12,0,none⟩=some (.map (some mO)):=(hSw.cell 3 rfl).cell 0;have hm2:w'.cell? ⟨g11,0,none⟩=some (.map (some mS)):=(hSw.cell 5 rfl).cell 0;have hl1:(Instr.lookup 164 (.map (some mO)) (vF r.fi) false).run Tryz.prog w'= .ok (.bool false) w':=(MapIs.lookB mkF Tryz.underlying164 (hSw.get 4 rfl:MapIs okF vF vB1 w' mO SE.2) hok.2).trans (by rw [HIO.out]);go_simp;try with_reducible rfl)
      try simp only [Act.put,List.setIfInBounds_toArray,List.set])
     (refine wpHeld_take (v:=?_) (Or.inl ⟨by rfl,?_⟩) ?_
      rotate_left
      · (intro w' hSw;have hv0:w'.cell? ⟨g19,0,none⟩=some (.string r.p):=(hSw.cell 0 rfl).cell 0;have hv1:w'.cell? ⟨g19,1,none⟩=some (.int .i64 r.n):=(hSw.cell 0 rfl).cell 1;have hv2:w'.cell? ⟨g19,2,none⟩=some (.int .i64 r.c):=(hSw.cell 0 rfl).cell 2;have hv3:w'.cell? ⟨g19,3,none⟩=some (.int .i64 r.a):=(hSw.cell 0 rfl).cell 3;have hv4:w'.cell? ⟨g19,4,none⟩=some (.int .i64 r.tb):=(hSw.cell 0 rfl).cell 4;have hv5:w'.cell? ⟨g19,5,none⟩=some (.bool r.f1):=(hSw.cell 0 rfl).cell 5;have hv6:w'.cell? ⟨g19,6,none⟩=some (.bool r.f2):=(hSw.cell 0 rfl).cell 6;have hv7:w'.cell? ⟨g19,7,none⟩=some (.bool r.f3):=(hSw.cell 0 rfl).cell 7;have hv8:w'.cell? ⟨g19,8,none⟩=some (.int .u64 r.sm):=(hSw.cell 0 rfl).cell 8;have hv9:w'.cell? ⟨g19,9,none⟩=some (.int .i64 r.sz):=(hSw.cell 0 rfl).cell 9;have hv10:w'.cell? ⟨g19,10,none⟩=some (.string r.fp):=(hSw.cell 0 rfl).cell 10;have hv11:w'.cell? ⟨g19,11,none⟩=some (.int .i64 r.fn):=(hSw.cell 0 rfl).cell 11;have hm1:w'.cell? ⟨g12,0,none⟩=some (.map (some mO)):=(hSw.cell 3 rfl).cell 0;have hm2:w'.cell? ⟨g11,0,none⟩=some (.map (some mS)):=(hSw.cell 5 rfl).cell 0;have hl1:(Instr.lookup 164 (.map (some mO)) (vF r.fi) false).run Tryz.prog w'= .ok (.bool false) w':=(MapIs.lookB mkF Tryz.underlying164 (hSw.get 4 rfl:MapIs okF vF vB1 w' mO SE.2) hok.2).trans (by rw [HIO.out]);go_simp;try with_reducible rfl)
      try simp only [Act.put,List.setIfInBounds_toArray,List.set])
     refine wpHeld_run (fun K hK=>?_);go_simp;go_at_call 104
     (with_reducible refine (fileOf_all r _).mono ?_)
     rintro e w4 ⟨rfl,hb4⟩;have S4:=hid (S3.out.drew.on hb4);clear hb4 S3;go_wp2_with fail
     refine hK.out _ _ S4.out ?_;clear hK K;try simp only [Act.put,List.setIfInBounds_toArray,List.set]
     (refine wpHeld_take (v:=?_) (Or.inl ⟨by rfl,?_⟩) ?_
      rotate_left
      · (intro w' hSw;have hv0:w'.cell? ⟨g19,0,none⟩=some (.string r.p):=(hSw.cell 0 rfl).cell 0;have hv1:w'.cell? ⟨g19,1,none⟩=some (.int .i64 r.n):=(hSw.cell 0 rfl).cell 1;have hv2:w'.cell? ⟨g19,2,none⟩=some (.int .i64 r.c):=(hSw.cell 0 rfl).cell 2;have hv3:w'.cell? ⟨g19,3,none⟩=some (.int .i64 r.a):=(hSw.cell 0 rfl).cell 3;have hv4:w'.cell? ⟨g19,4,none⟩=some (.int .i64 r.tb):=(hSw.cell 0 rfl).cell 4;have hv5:w'.cell? ⟨g19,5,none⟩=some (.bool r.f1):=(hSw.cell 0 rfl).cell 5;have hv6:w'.cell? ⟨g19,6,none⟩=some (.bool r.f2):=(hSw.cell 0 rfl).cell 6;have hv7:w'.cell? ⟨g19,7,none⟩=some (.bool r.f3):=(hSw.cell 0 rfl).cell 7;have hv8:w'.cell? ⟨g19,8,none⟩=some (.int .u64 r.sm):=(hSw.cell 0 rfl).cell 8;have hv9:w'.cell? ⟨g19,9,none⟩=some (.int .i64 r.sz):=(hSw.cell 0 rfl).cell 9;have hv10:w'.cell? ⟨g19,10,none⟩=some (.string r.fp):=(hSw.cell 0 rfl).cell 10;have hv11:w'.cell? ⟨g19,11,none⟩=some (.int .i64 r.fn):=(hSw.cell 0 rfl).cell 11;have hm1:w'.cell? ⟨g12,0,none⟩=some (.map (some mO)):=(hSw.cell 3 rfl).cell 0;have hm2:w'.cell? ⟨g11,0,none⟩=some (.map (some mS)):=(hSw.cell 5 rfl).cell 0;have hl1:(Instr.lookup 164 (.map (some mO)) (vF r.fi) false).run Tryz.prog w'= .ok (.bool false) w':=(MapIs.lookB mkF Tryz.underlying164 (hSw.get 4 rfl:MapIs okF vF vB1 w' mO SE.2) hok.2).trans (by rw [HIO.out]);go_simp;try with_reducible rfl)
      try simp only [Act.put,List.setIfInBounds_toArray,List.set])
     (refine wpHeld_take (v:=?_) (Or.inl ⟨by rfl,?_⟩) ?_
      rotate_left
      · (intro w' hSw;have hv0:w'.cell? ⟨g19,0,none⟩=some (.string r.p):=(hSw.cell 0 rfl).cell 0;have hv1:w'.cell? ⟨g19,1,none⟩=some (.int .i64 r.n):=(hSw.cell 0 rfl).cell 1;have hv2:w'.cell? ⟨g19,2,none⟩=some (.int .i64 r.c):=(hSw.cell 0 rfl).cell 2;have hv3:w'.cell? ⟨g19,3,none⟩=some (.int .i64 r.a):=(hSw.cell 0 rfl).cell 3;have hv4:w'.cell? ⟨g19,4,none⟩=some (.int .i64 r.tb):=(hSw.cell 0 rfl).cell 4;have hv5:w'.cell? ⟨g19,5,none⟩=some (.bool r.f1):=(hSw.cell 0 rfl).cell 5;have hv6:w'.cell? ⟨g19,6,none⟩=some (.bool r.f2):=(hSw.cell 0 rfl).cell 6;have hv7:w'.cell? ⟨g19,7,none⟩=some (.bool r.f3):=(hSw.cell 0 rfl).cell 7;have hv8:w'.cell? ⟨g19,8,none⟩=some (.int .u64 r.sm):=(hSw.cell 0 rfl).cell 8;have hv9:w'.cell? ⟨g19,9,none⟩=some (.int .i64 r.sz):=(hSw.cell 0 rfl).cell 9;have hv10:w'.cell? ⟨g19,10,none⟩=some (.string r.fp):=(hSw.cell 0 rfl).cell 10;have hv11:w'.cell? ⟨g19,11,none⟩=some (.int .i64 r.fn):=(hSw.cell 0 rfl).cell 11;have hm1:w'.cell? ⟨g12,0,none⟩=some (.map (some mO)):=(hSw.cell 3 rfl).cell 0;have hm2:w'.cell? ⟨g11,0,none⟩=some (.map (some mS)):=(hSw.cell 5 rfl).cell 0;have hl1:(Instr.lookup 164 (.map (some mO)) (vF r.fi) false).run Tryz.prog w'= .ok (.bool false) w':=(MapIs.lookB mkF Tryz.underlying164 (hSw.get 4 rfl:MapIs okF vF vB1 w' mO SE.2) hok.2).trans (by rw [HIO.out]);go_simp;try with_reducible rfl)
      try simp only [Act.put,List.setIfInBounds_toArray,List.set])
     iterate 3
      (refine wpHeld_take (v:=undef) (Or.inr ⟨by rfl,rfl⟩) ?_
       try simp only [Act.put,List.setIfInBounds_toArray,List.set])
     refine wpHeld_nil ?_;simp only [List.length_cons,List.length_nil,List.drop_succ_cons,List.drop_zero];have hsel:selOf SE (rs.take (j+1))=selOf SE (rs.take j):=selOf_no hrj (by unfold selIs;rw [HIO.out];rfl);have SF:=hid S4.out.tail
     have SF':Hid (SW b w0 (rowOb 111 12 (.slice RA q rc) q ((selOf SE (rs.take (j+1))).flatMap Rv.enc)::dfOb L::cellOb g12 164 #[.map (some mO)]::mpOb okF vF vB1 mO SE.2::cellOb g11 146 #[.map (some mS)]::mpOb okID vID vB1 mS SE.1::cellOb g3 96 #[.slice (some ⟨gr,0,none⟩) m cm,.slice B nb cb]::l) w4):=by
      rw [Hid,hsel];exact SF.out
     have hq':Hid (q=(selOf SE (rs.take (j+1))).length):=by
      rw [Hid,hsel];exact hq.out
     clear SF hq;clear S4 hsel;go_wp2_with fail
     go_roundw
     case rel=>exact ⟨j+1,RA,q,rc,by go_num,by omega,rfl,hq'.out,SF'.out⟩
     simp [intOf];omega
   refine wp_region_held_tail [(0,true),(1,true),(2,false),(3,true),(4,true),(5,true),(6,true),(7,true)] (SW b w0 (cellOb g19 111 #[.string r.p,.int .i64 r.n,.int .i64 r.c,.int .i64 r.a,.int .i64 r.tb,.bool r.f1,.bool r.f2,.bool r.f3,.int .u64 r.sm,.int .i64 r.sz,.string r.fp,.int .i64 r.fn]::rowOb 111 12 (.slice RA q rc) q ((selOf SE (rs.take j)).flatMap Rv.enc)::dfOb L::cellOb g12 164 #[.map (some mO)]::mpOb okF vF vB1 mO SE.2::cellOb g11 146 #[.map (some mS)]::mpOb okID vID vB1 mS SE.1::cellOb g3 96 #[.slice (some ⟨gr,0,none⟩) m cm,.slice B nb cb]::l)) (by kernel_rfl) (fun _ _ d _ _ h=>by cases d<;>exact h) (by kernel_rfl) (S3.out.drew) ?_;simp only [picked,List.map_cons,List.map_nil,List.getD_cons_succ,List.getD_cons_zero]
   (refine wpHeld_take (v:=?_) (Or.inl ⟨by rfl,?_⟩) ?_
    rotate_left
    · (intro w' hSw;have hv0:w'.cell? ⟨g19,0,none⟩=some (.string r.p):=(hSw.cell 0 rfl).cell 0;have hv1:w'.cell? ⟨g19,1,none⟩=some (.int .i64 r.n):=(hSw.cell 0 rfl).cell 1;have hv2:w'.cell? ⟨g19,2,none⟩=some (.int .i64 r.c):=(hSw.cell 0 rfl).cell 2;have hv3:w'.cell? ⟨g19,3,none⟩=some (.int .i64 r.a):=(hSw.cell 0 rfl).cell 3;have hv4:w'.cell? ⟨g19,4,none⟩=some (.int .i64 r.tb):=(hSw.cell 0 rfl).cell 4;have hv5:w'.cell? ⟨g19,5,none⟩=some (.bool r.f1):=(hSw.cell 0 rfl).cell 5;have hv6:w'.cell? ⟨g19,6,none⟩=some (.bool r.f2):=(hSw.cell 0 rfl).cell 6;have hv7:w'.cell? ⟨g19,7,none⟩=some (.bool r.f3):=(hSw.cell 0 rfl).cell 7;have hv8:w'.cell? ⟨g19,8,none⟩=some (.int .u64 r.sm):=(hSw.cell 0 rfl).cell 8;have hv9:w'.cell? ⟨g19,9,none⟩=some (.int .i64 r.sz):=(hSw.cell 0 rfl).cell 9;have hv10:w'.cell? ⟨g19,10,none⟩=some (.string r.fp):=(hSw.cell 0 rfl).cell 10;have hv11:w'.cell? ⟨g19,11,none⟩=some (.int .i64 r.fn):=(hSw.cell 0 rfl).cell 11;have hm1:w'.cell? ⟨g12,0,none⟩=some (.map (some mO)):=(hSw.cell 3 rfl).cell 0;have hm2:w'.cell? ⟨g11,0,none⟩=some (.map (some mS)):=(hSw.cell 5 rfl).cell 0;have hl1:(Instr.lookup 164 (.map (some mO)) (vF r.fi) false).run Tryz.prog w'= .ok (.bool true) w':=(MapIs.lookB mkF Tryz.underlying164 (hSw.get 4 rfl:MapIs okF vF vB1 w' mO SE.2) hok.2).trans (by rw [HIO.out]);go_simp;try with_reducible rfl)
    try simp only [Act.put,List.setIfInBounds_toArray,List.set])
   (refine wpHeld_take (v:=?_) (Or.inl ⟨by rfl,?_⟩) ?_
    rotate_left
    · (intro w' hSw;have hv0:w'.cell? ⟨g19,0,none⟩=some (.string r.p):=(hSw.cell 0 rfl).cell 0;have hv1:w'.cell? ⟨g19,1,none⟩=some (.int .i64 r.n):=(hSw.cell 0 rfl).cell 1;have hv2:w'.cell? ⟨g19,2,none⟩=some (.int .i64 r.c):=(hSw.cell 0 rfl).cell 2;have hv3:w'.cell? ⟨g19,3,none⟩=some (.int .i64 r.a):=(hSw.cell 0 rfl).cell 3;have hv4:w'.cell? ⟨g19,4,none⟩=some (.int .i64 r.tb):=(hSw.cell 0 rfl).cell 4;have hv5:w'.cell? ⟨g19,5,none⟩=some (.bool r.f1):=(hSw.cell 0 rfl).cell 5;have hv6:w'.cell? ⟨g19,6,none⟩=some (.bool r.f2):=(hSw.cell 0 rfl).cell 6;have hv7:w'.cell? ⟨g19,7,none⟩=some (.bool r.f3):=(hSw.cell 0 rfl).cell 7;have hv8:w'.cell? ⟨g19,8,none⟩=some (.int .u64 r.sm):=(hSw.cell 0 rfl).cell 8;have hv9:w'.cell? ⟨g19,9,none⟩=some (.int .i64 r.sz):=(hSw.cell 0 rfl).cell 9;have hv10:w'.cell? ⟨g19,10,none⟩=some (.string r.fp):=(hSw.cell 0 rfl).cell 10;have hv11:w'.cell? ⟨g19,11,none⟩=some (.int .i64 r.fn):=(hSw.cell 0 rfl).cell 11;have hm1:w'.cell? ⟨g12,0,none⟩=some (.map (some mO)):=(hSw.cell 3 rfl).cell 0;have hm2:w'.cell? ⟨g11,0,none⟩=some (.map (some mS)):=(hSw.cell 5 rfl).cell 0;have hl1:(Instr.lookup 164 (.map (some mO)) (vF r.fi) false).run Tryz.prog w'= .ok (.bool true) w':=(MapIs.lookB mkF Tryz.underlying164 (hSw.get 4 rfl:MapIs okF vF vB1 w' mO SE.2) hok.2).trans (by rw [HIO.out]);go_simp;try with_reducible rfl)
    try simp only [Act.put,List.setIfInBounds_toArray,List.set])
   refine wpHeld_run (fun K hK=>?_);go_simp;go_at_call 104
   (with_reducible refine (fileOf_all r _).mono ?_)
   rintro e w4 ⟨rfl,hb4⟩;have S4:=hid (S3.out.drew.on hb4);clear hb4 S3;go_wp2_with fail
   refine hK.out _ _ S4.out ?_;clear hK K;try simp only [Act.put,List.setIfInBounds_toArray,List.set]
   iterate 5
    (refine wpHeld_take (v:=?_) (Or.inl ⟨by rfl,?_⟩) ?_
     rotate_left
     · (intro w' hSw;have hv0:w'.cell? ⟨g19,0,none⟩=some (.string r.p):=(hSw.cell 0 rfl).cell 0;have hv1:w'.cell? ⟨g19,1,none⟩=some (.int .i64 r.n):=(hSw.cell 0 rfl).cell 1;have hv2:w'.cell? ⟨g19,2,none⟩=some (.int .i64 r.c):=(hSw.cell 0 rfl).cell 2;have hv3:w'.cell? ⟨g19,3,none⟩=some (.int .i64 r.a):=(hSw.cell 0 rfl).cell 3;have hv4:w'.cell? ⟨g19,4,none⟩=some (.int .i64 r.tb):=(hSw.cell 0 rfl).cell 4;have hv5:w'.cell? ⟨g19,5,none⟩=some (.bool r.f1):=(hSw.cell 0 rfl).cell 5;have hv6:w'.cell? ⟨g19,6,none⟩=some (.bool r.f2):=(hSw.cell 0 rfl).cell 6;have hv7:w'.cell? ⟨g19,7,none⟩=some (.bool r.f3):=(hSw.cell 0 rfl).cell 7;have hv8:w'.cell? ⟨g19,8,none⟩=some (.int .u64 r.sm):=(hSw.cell 0 rfl).cell 8;have hv9:w'.cell? ⟨g19,9,none⟩=some (.int .i64 r.sz):=(hSw.cell 0 rfl).cell 9;have hv10:w'.cell? ⟨g19,10,none⟩=some (.string r.fp):=(hSw.cell 0 rfl).cell 10;have hv11:w'.cell? ⟨g19,11,none⟩=some (.int .i64 r.fn):=(hSw.cell 0 rfl).cell 11;have hm1:w'.cell? ⟨g12,0,none⟩=some (.map (some mO)):=(hSw.cell 3 rfl).cell 0;have hm2:w'.cell? ⟨g11,0,none⟩=some (.map (some mS)):=(hSw.cell 5 rfl).cell 0;have hl1:(Instr.lookup 164 (.map (some mO)) (vF r.fi) false).run Tryz.prog w'= .ok (.bool true) w':=(MapIs.lookB mkF Tryz.underlying164 (hSw.get 4 rfl:MapIs okF vF vB1 w' mO SE.2) hok.2).trans (by rw [HIO.out]);go_simp;try with_reducible rfl)
     try simp only [Act.put,List.setIfInBounds_toArray,List.set])
   refine wpHeld_nil ?_;simp only [List.length_cons,List.length_nil,List.drop_succ_cons,List.drop_zero];obtain ⟨iS,HIS⟩:∃ x,Hid (inS SE.1 r.id=x):=⟨_,rfl⟩;have hl2:(Instr.lookup 146 (.map (some mS)) (.agg #[.int .u64 r.sm,.int .i64 r.sz]) false).run Tryz.prog w4= .ok (.bool iS) w4:=(MapIs.lookB mkI Tryz.underlying146 (S4.out.get 6 rfl:MapIs okID vID vB1 w4 mS SE.1) hok.1).trans (by rw [HIS.out]);cases iS
   · have hsel:selOf SE (rs.take (j+1))=selOf SE (rs.take j)++[r]:=selOf_yes hrj (by unfold selIs;rw [HIO.out,HIS.out];rfl);have p0:w4.cell? ⟨g19,0,none⟩=some (.string r.p):=(S4.out.cell 0 rfl).cell 0;have p1:w4.cell? ⟨g19,1,none⟩=some (.int .i64 r.n):=(S4.out.cell 0 rfl).cell 1;have p2:w4.cell? ⟨g19,2,none⟩=some (.int .i64 r.c):=(S4.out.cell 0 rfl).cell 2;have p3:w4.cell? ⟨g19,3,none⟩=some (.int .i64 r.a):=(S4.out.cell 0 rfl).cell 3;have p4:w4.cell? ⟨g19,4,none⟩=some (.int .i64 r.tb):=(S4.out.cell 0 rfl).cell 4;have p5:w4.cell? ⟨g19,5,none⟩=some (.bool r.f1):=(S4.out.cell 0 rfl).cell 5;have p6:w4.cell? ⟨g19,6,none⟩=some (.bool r.f2):=(S4.out.cell 0 rfl).cell 6;have p7:w4.cell? ⟨g19,7,none⟩=some (.bool r.f3):=(S4.out.cell 0 rfl).cell 7;have p8:w4.cell? ⟨g19,8,none⟩=some (.int .u64 r.sm):=(S4.out.cell 0 rfl).cell 8;have p9:w4.cell? ⟨g19,9,none⟩=some (.int .i64 r.sz):=(S4.out.cell 0 rfl).cell 9;have p10:w4.cell? ⟨g19,10,none⟩=some (.string r.fp):=(S4.out.cell 0 rfl).cell 10;have p11:w4.cell? ⟨g19,11,none⟩=some (.int .i64 r.fn):=(S4.out.cell 0 rfl).cell 11;have S5:=hid (S4.out.newCell 111 #[.string r.p,.int .i64 r.n,.int .i64 r.c,.int .i64 r.a,.int .i64 r.tb,.bool r.f1,.bool r.f2,.bool r.f3,.int .u64 r.sm,.int .i64 r.sz,.string r.fp,.int .i64 r.fn]);clear S4;obtain ⟨i0,hi,hz0,hz1,hz2⟩:=info_parts info111
     go_wp2_with (at_builtin;(refine wpList_rowS (t:=93) (e:=111) (size:=12) (bytes:=96) (i:=i0) S5.out 2 rfl (by rfl) (.tmp 97) (.tmp 99) (by rfl) Tryz.underlying93 hi hz0 hz1 hz2 rfl (by omega) (by rfl) ⟨w4.heap.size,0,none⟩ 1 [.string r.p,.int .i64 r.n,.int .i64 r.c,.int .i64 r.a,.int .i64 r.tb,.bool r.f1,.bool r.f2,.bool r.f3,.int .u64 r.sm,.int .i64 r.sz,.string r.fp,.int .i64 r.fn] (by rfl) rfl (fun j u hu=>by rw [lit_add,Nat.zero_add,(S5.out.cell 0 rfl).cell, <- Array.getElem?_toList];exact hu) (fun u hu=>by simp only [List.mem_cons,List.not_mem_nil,or_false] at hu;rcases hu with rfl | rfl | rfl | rfl | rfl | rfl | rfl | rfl | rfl | rfl | rfl | rfl<;>rfl) (by unfold maxLen;omega) (by omega) ?_);refine halt_ ?_)
     intro v2 w5x s7;obtain ⟨A3,c3,rfl⟩:=own_slice (s7.get 2 rfl:w5x.ownsRow 0 111 12 v2 _ _)
     have S7:Hid (SW b w0 (rowOb 111 12 (.slice A3 (q+1) c3) (q+1) ((selOf SE (rs.take (j+1))).flatMap Rv.enc)::dfOb L::cellOb g12 164 #[.map (some mO)]::mpOb okF vF vB1 mO SE.2::cellOb g11 146 #[.map (some mS)]::mpOb okID vID vB1 mS SE.1::cellOb g3 96 #[.slice (some ⟨gr,0,none⟩) m cm,.slice B nb cb]::l) w5x):=by
      rw [Hid,hsel,List.flatMap_append];exact s7.tail.tail
     have hq2:Hid (q+1=(selOf SE (rs.take (j+1))).length):=by
      rw [Hid,hsel,List.length_append,hq.out];rfl
     clear s7 S5 hsel p0 p1 p2 p3 p4 p5 p6 p7 p8 p9 p10 p11;go_wp2_with fail
     go_roundw
     case rel=>exact ⟨j+1,A3,q+1,c3,by go_num,by omega,rfl,hq2.out,S7.out⟩
     simp [intOf];omega
   have hsel:selOf SE (rs.take (j+1))=selOf SE (rs.take j):=selOf_no hrj (by unfold selIs;rw [HIO.out,HIS.out];rfl);have SF:=hid S4.out.tail
   have SF':Hid (SW b w0 (rowOb 111 12 (.slice RA q rc) q ((selOf SE (rs.take (j+1))).flatMap Rv.enc)::dfOb L::cellOb g12 164 #[.map (some mO)]::mpOb okF vF vB1 mO SE.2::cellOb g11 146 #[.map (some mS)]::mpOb okID vID vB1 mS SE.1::cellOb g3 96 #[.slice (some ⟨gr,0,none⟩) m cm,.slice B nb cb]::l) w4):=by
    rw [Hid,hsel];exact SF.out
   have hq':Hid (q=(selOf SE (rs.take (j+1))).length):=by
    rw [Hid,hsel];exact hq.out
   clear SF hq S4 hsel;go_wp2_with fail
   go_roundw
   case rel=>exact ⟨j+1,RA,q,rc,by go_num,by omega,rfl,hq'.out,SF'.out⟩
   simp [intOf];omega
 obtain ⟨e,he⟩:∃ e,Hid (e=j):=⟨_,rfl⟩;obtain rfl:m=j:=by omega
 clear he e;have hkt:rs.take m=rs:=List.take_of_length_le (by rw [HM.out];exact Nat.le_refl _);rw [hkt] at hs;have hq2:=hq.out;rw [hkt] at hq2;have HQ2:=hid hq2;clear hq2 hq;have S9:=hid hs;clear hs hkt;go_wp2_with fail
 refine leaves_marks L wr hnd (S9.out.get 1 rfl) (fun w9 hk9 hs9 h91 h92 h93=>?_);have S10:=SW.few (pre:=[_,_,_,_,_,_,_]) S9.out [1,0] (n:=7) rfl (by decide) (by decide);have S11:=SW.unmark (L:=L) S10 hk9 hs9 h91 h92 h93;refine ⟨_,results_tmp2 rfl _ _ _,?_⟩;rw [HSE.out, <- HQ2.out];exact ⟨RA,rc,rfl,S11⟩
end
end Go.Proofs.YtmiknfneeipkeaaGreat
