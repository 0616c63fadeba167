/- Contracts of the walk, part 12. -/
import Derived.Test.YtmiknfneeipkeaaGreatS11
import Derived.Test.YtmiknfneeipkeaaGreatS09
import Derived.Test.YtmiknfneeipkeaaGreatS05
namespace Go.Proofs.YtmiknfneeipkeaaGreat
open Go.RowKit Go.MapKept Go.ChangeMaps
attribute [local go_sem] wext_cell
theorem putsR_spec (u:List CT):∀ {t:List CT},Asc t->(u.map (·.1)).Nodup->Asc (u.foldl (fun t c=>putR t c.1 c.2) t)/\∀ i,asc (u.foldl (fun t c=>putR t c.1 c.2) t) i=if i∈u.map (·.1) then some (nAt t i+nAt u i) else asc t i:=by
 induction u with
 | nil=>intro t h _;exact ⟨h,fun i=>by simp⟩
 | cons c u ih=>
  intro t h hn;simp only [List.map_cons,List.nodup_cons] at hn;have h1:=ih (putR_asc h c.1 c.2) hn.2;refine ⟨h1.1,fun i=>?_⟩;rw [List.foldl_cons,h1.2 i]
  have hk:∀ j,nAt (putR t c.1 c.2) j=if c.1=j then nAt t j+c.2 else nAt t j:=by
   intro j;conv=>lhs;unfold nAt
   rw [asc_putR h];split
   · rename_i e;rw [<- e];rfl
   rfl
  by_cases hi:i∈u.map (·.1)
  · rw [if_pos hi,if_pos (by simp only [List.map_cons,List.mem_cons];exact .inr hi),hk];have hne:c.1≠i:=fun e=>hn.1 (e ▸ hi);rw [if_neg hne];simp only [nAt,asc,if_neg hne]
  rw [if_neg hi,asc_putR h];by_cases e:c.1=i
  · subst e;rw [if_pos rfl,if_pos (by simp)];simp [nAt,asc]
  rw [if_neg e,if_neg];simp only [List.map_cons,List.mem_cons];rintro (h | h)
  · exact e h.symm
  exact hi h
theorem asc_isSome {L:List CT} {i:ID} (h:i∈L.map (·.1)):∃ n,asc L i=some n:=by
 induction L with
 | nil=>cases h
 | cons c L ih=>
  rw [asc];split
  · exact ⟨_,rfl⟩
  rename_i e
  rw [List.map_cons,List.mem_cons] at h;rcases h with h | h
  · exact absurd h.symm e
  exact ih h
theorem key_of_asc {L:List CT} {i:ID} {n:Int} (h:asc L i=some n):i∈L.map (·.1):=List.mem_map.2 ⟨_,mem_of_asc h,rfl⟩
theorem asc_none_iff {L:List CT} {i:ID}:asc L i=none↔i ∉ L.map (·.1):=by
 constructor
 · intro h hm;obtain ⟨n,e⟩:=asc_isSome hm;rw [h] at e;cases e
 intro h;exact asc_none (fun c hc e=>h (e ▸ List.mem_map.2 ⟨c,hc,rfl⟩))
theorem putN_nodup {L:List CT} (h:(L.map (·.1)).Nodup) (i:ID) (n:Int):((putN L i n).map (·.1)).Nodup:=setL_nodup h _ _
theorem asc_putN (L:List CT) (i j:ID) (n:Int):asc (putN L i n) j=if i=j then some (nAt L i+n) else asc L j:=by unfold putN;rw [asc_setL]
theorem addIDs_spec (l:List ID):∀ {L:List CT},(L.map (·.1)).Nodup->((addIDs L l).map (·.1)).Nodup/\∀ i,asc (addIDs L l) i=if i∈l then some (nAt L i+(l.count i:Nat)) else asc L i:=by
 induction l with
 | nil=>intro L h;exact ⟨h,fun i=>by simp [addIDs]⟩
 | cons a l ih=>
  intro L h;have h1:=ih (putN_nodup h a 1);refine ⟨h1.1,fun i=>?_⟩;show asc (addIDs (putN L a 1) l) i=_;rw [h1.2 i,nAt_putN,asc_putN];by_cases e:a=i
  · subst e;simp only [if_true,List.mem_cons,true_or,List.count_cons_self];by_cases ha:a∈l
    · rw [if_pos ha];congr 1;push_cast;omega
    rw [if_neg ha,List.count_eq_zero_of_not_mem ha];rfl
  have e':¬ i=a:=fun h=>e h.symm;have ec:(a::l).count i=l.count i:=by rw [List.count_cons];simp [e]
  simp only [if_neg e,List.mem_cons,e',false_or,ec]
theorem allR_spec (l:List ID):∀ {t:List CT},Asc t->Asc (allR t l)/\∀ i,asc (allR t l) i=if i∈l then some (nAt t i+(l.count i:Nat)) else asc t i:=by
 induction l with
 | nil=>intro t h;exact ⟨h,fun i=>by simp [allR]⟩
 | cons a l ih=>
  intro t h;have h1:=ih (putR_asc h a 1);refine ⟨h1.1,fun i=>?_⟩;show asc (allR (putR t a 1) l) i=_
  have hk:nAt (putR t a 1) i=if a=i then nAt t i+1 else nAt t i:=by
   conv=>lhs;unfold nAt
   rw [asc_putR h];split
   · rename_i e;rw [<- e];rfl
   rfl
  rw [h1.2 i,hk,asc_putR h];by_cases e:a=i
  · subst e;simp only [if_true,List.mem_cons,true_or,List.count_cons_self];by_cases ha:a∈l
    · rw [if_pos ha];congr 1;push_cast;omega
    rw [if_neg ha,List.count_eq_zero_of_not_mem ha];rfl
  have e':¬ i=a:=fun h=>e h.symm;have ec:(a::l).count i=l.count i:=by rw [List.count_cons];simp [e]
  simp only [if_neg e,List.mem_cons,e',false_or,ec]
def idsOf (ms:List Man):List ID:=ms.flatMap (·.ids)
theorem chunk_of_err {ms:List Man} (h:errM ms=0):∀ i∈idsOf ms,chunkB i=true:=by
 induction ms with
 | nil=>simp [idsOf]
 | cons m ms ih=>
  simp only [errM] at h;split at h
  · rename_i e
    intro i hi;rw [idsOf,List.flatMap_cons,List.mem_append] at hi;rcases hi with hi | hi
    · exact List.all_eq_true.1 (manE_all e) i hi
    exact ih h i hi
  rename_i e;exact absurd h e
theorem TwoC.from {x:Nat} {p:List CT×Int} {w0 w:World} {e:Ending} {w':World} (hb:Below w0.heap.size w0 w) (h:TwoC x p w e w'):TwoC x p w0 e w':=by
 obtain ⟨A,c,h1,h2,h3,h4⟩:=h;exact ⟨A,c,h1,h2,h3,hb.trans (h4.mono hb.size)⟩
theorem idsOf_len {ms:List Man} (h:errM ms=0):(idsOf ms).length<=1024*ms.length:=by
 induction ms with
 | nil=>simp [idsOf]
 | cons m ms ih=>
  simp only [errM] at h;split at h
  · rename_i e
    have h1:=ih h;have h2:=manE_len e;have:idsOf (m::ms)=m.ids++idsOf ms:=by simp [idsOf]
    rw [this,List.length_append,List.length_cons];omega
  rename_i e;exact absurd h e
theorem MapIs.two {w:World} {b:Nat} {L L':List CT} (h:Mp w b L) (e:L=L'):Mp w b L':=e ▸ h
end Go.Proofs.YtmiknfneeipkeaaGreat
namespace Go.Proofs.YtmiknfneeipkeaaGreat
open Go.RowKit Go.MapKept Go.ChangeMaps Go.Shelf Go.Sort
section
variable {α:Type} [Inhabited α] {enc:α->List Value} {k:Nat} {d:α}
theorem own_of_holds (hk:∀ y,(enc y).length=k) {w:World} {base g n cap:Nat} {e:TypeId} {ys:List α} {cur:Array Value} (hb:base<=g) (hi:IsB w g e cur) (hc:n<=cap) (hm:cap<=maxLen) (hs:cur.size=cap*k) (hn:ys.length=n) (hH:HoldsK enc k w g 0 ys.toArray):
 w.ownsRow base e k (.slice (some ⟨g,0,none⟩) n cap) n (ys.flatMap enc):=by
 refine ⟨by rw [flat_len hk,hn],.inr ⟨g,cap,cur,rfl,hb,hi,hc,hm,hs,?_⟩⟩;have hnk:n*k<=cap*k:=Nat.mul_le_mul_right _ hc;refine List.ext_getElem? (fun j=>?_);by_cases hj:j<n*k
 · have hk0:0<k:=by
    rcases Nat.eq_zero_or_pos k with h | h
    · subst h;simp at hj
    exact h
   have hq:j / k<ys.length:=by rw [Nat.div_lt_iff_lt_mul hk0,hn];exact hj
   have hm:j % k<k:=Nat.mod_lt _ hk0;have hdm:j / k*k+j % k=j:=by rw [Nat.mul_comm];exact Nat.div_add_mod j k
   have h0:=(hH.cell (i:=j / k) (c:=j % k) (by simpa using hq) hm).1;rw [Nat.zero_add,hdm,hi.cell,bang_getD (d:=default) ys _ hq] at h0;have h1:=flat_at hk default ys (j / k) (j % k) hq hm;rw [hdm] at h1;have hlt:j % k<(enc (ys.getD (j / k) default)).length:=by rw [hk];exact hm
   rw [List.getElem?_take_of_lt hj,Array.getElem?_toList,h0,h1,List.getElem?_eq_getElem hlt,getElem!_pos (enc (ys.getD (j / k) default)) (j % k) hlt]
 rw [List.getElem?_eq_none (by simp;omega),List.getElem?_eq_none (by rw [flat_len hk,hn];omega)]
abbrev SortOwn (enc:α->List Value) (k:Nat) (cf:α->α->Int) (base g n cap:Nat) (e:TypeId) (xs:List α) (w:World) (en:Ending) (w':World):Prop:=
 en= .returned (.tuple #[])/\∃ ys:List α,ys.Perm xs/\ys.Pairwise (fun a b=>ltOf cf b a=false)/\w'.ownsRow base e k (.slice (some ⟨g,0,none⟩) n cap) n (ys.flatMap enc)/\w.grownBy w' (some g)
theorem sort_own (hk:∀ y,(enc y).length=k) {cf:α->α->Int} {f:FuncId} {base g n cap:Nat} {e:TypeId} {xs:List α} {w:World} {gv:Value} (h:w.ownsRow base e k (.slice (some ⟨g,0,none⟩) n cap) n (xs.flatMap enc)) (hk0:0<k)
 (hcon:Calls Tryz.prog f #[.slice (some ⟨g,0,none⟩) xs.toArray.size cap,gv] w fun e w'=>e= .returned (.tuple #[])/\∃ d' m os,PermIn 0 xs.toArray.size xs.toArray d'/\SortedIn (ltOf cf) 0 xs.toArray.size d'/\w'=sortWorldK enc k w g 0 m d' os):
 Calls Tryz.prog f #[.slice (some ⟨g,0,none⟩) n cap,gv] w (SortOwn enc k cf base g n cap e xs w):=by
 have hl:=h.1;rw [flat_len hk] at hl
 have hnx:n=xs.toArray.size:=by
  have:xs.length=n:=Nat.eq_of_mul_eq_mul_right hk0 hl;simp [this]
 have hg:=h.lt g rfl;rw [<- hnx] at hcon;refine Calls.mono hcon ?_;rintro en w' ⟨he,d',m,os,hp,hs,rfl⟩;obtain ⟨hsz,_,hperm⟩:=hp;have hsz0:=hsz;rw [hnx,Array.extract_size,show xs.toArray.size=d'.size from hsz.symm,Array.extract_size] at hperm;have hH:=holdsK_putRowK (enc:=enc) (k:=k) (Sort.ahead w m) g 0 xs.toArray d' (holdsK_of_own hk hk0 h) hsz
 have hgrow:w.grownBy (sortWorldK enc k w g 0 m d' os) (some g):=by
  refine ⟨rfl,rfl,rfl,by simp [sortWorldK,putRowK],fun j hj hne=>?_⟩;unfold sortWorldK;rw [heap_grow_old _ _ (by simpa [putRowK] using hj)];have:g≠j:=fun e=>hne (by rw [e]);simp [putRowK,putRow,mapBlock,Sort.ahead,Array.getElem?_modify,this]
 have hH2:=holdsK_grow (enc:=enc) (k:=k) _ os _ _ _ (by simpa [putRowK] using hg.2) hH;have hpm:d'.toList.Perm xs:=by simpa using hperm
 obtain ⟨_,hown⟩:=h;rcases hown with ⟨hv,_⟩ | ⟨g',cap',cur,hv,h0,hh,hc1,hc2,hcs,_⟩
 · cases hv
 injection hv with e1 e2 e3;injection e1 with e1;injection e1 with e1;subst e1 e3
 have hI:IsB (sortWorldK enc k w g 0 m d' os) g e (putCells id (0) (flatK enc k d') cur):=by
  unfold IsB sortWorldK;rw [heap_grow_old _ _ (by simpa [putRowK] using hg.2)];simp [putRowK,putRow,mapBlock,Sort.ahead,Array.getElem?_modify,hh,onCells]
 refine ⟨he,d'.toList,hpm,?_,own_of_holds hk h0 hI hc1 hc2 (by simp [putCells,hcs]) (by have:=hpm.length_eq;rw [this,hnx];simp) (by rw [show d'.toList.toArray=d' from by simp];exact hH2),hgrow⟩;rw [List.pairwise_iff_getElem];intro i j hi hj hij;have hi':i<d'.size:=by simpa using hi
 have hj':j<d'.size:=by simpa using hj
 have:=hs i j (Nat.zero_le _) hij (by omega);rw [getElem!_pos d' i hi',getElem!_pos d' j hj'] at this;simpa using this
end
theorem sortP_any (base g n cap:Nat) (xs:List ID) (w:World) (h:w.ownsRow base 36 2 (.slice (some ⟨g,0,none⟩) n cap) n (xs.flatMap encID)) (hn:xs.length<=4294967296):
 Calls Tryz.prog 82 #[.slice (some ⟨g,0,none⟩) n cap,.func (.func 55) #[] #[]] w (SortOwn encID 2 cmpID base g n cap 36 xs w):=by
 have hg:=h.lt g rfl;have eg:∀ args w,(callFunc 55 args).run Tryz.prog w= .ok (.enter 55 args) w:=enters_of Tryz.func55 (by kernel_rfl) rfl
 exact sort_own encID_len h (by omega) (AnyQ.slices_SortFunc Tryz.lay82 2 Tryz.isAgg36 Tryz.sizeOf36 encID (fun _=>rfl) encID_one cmpID swoID 55 #[] g 0 cap xs.toArray w eg
  (fun _ _ _ _ x y=>acmp_grow x.1 x.2 y.1 y.2 _) (holdsK_of_own encID_len (by omega) h) hg.2 (by simp;omega))
theorem sortP_none (p:Option Addr) (cap:Nat) (w:World):Calls Tryz.prog 82 #[.slice p 0 cap,.func (.func 55) #[] #[]] w fun e w'=>e= .returned (.tuple #[])/\w'=w:=
 AnyF.slices_SortFunc_none { Tryz.lay82 with } p cap _ w
end Go.Proofs.YtmiknfneeipkeaaGreat
namespace Go.Proofs.YtmiknfneeipkeaaGreat
open Go.RowKit Go.MapKept Go.ChangeMaps Go.Shelf Go.Sort
attribute [local go_sem] wext_cell
abbrev CH:=ID×BS
def vBS (e:BS):Value:=.slice e.d.A e.d.len e.d.cap
def encCH (e:CH):List Value:=[.int .u64 e.1.1,.int .i64 e.1.2,vBS e.2]
def ch0:CH:=(id0,bs0)
theorem encCH_len (e:CH):(encCH e).length=3:=rfl
theorem encCH_one (e:CH):∀ u∈encCH e,u.oneCell'=true:=by
 intro u hu;simp [encCH,vBS] at hu;rcases hu with rfl | rfl | rfl<;>rfl
def msOb (rs:List MR) (ms:List Man):Ob where
 own:=fun _=>False
 rd:=fun i=>∃ j,j<ms.length/\0<(ms.getD j man0).ids.length/\∃ o,(rs.getD j mr0).A=some ⟨i,o,none⟩
 holds:=fun w=>rs.length=ms.length/\∀ j,j<ms.length->Link w w.heap.size (rs.getD j mr0) (ms.getD j man0)
 stable:=fun w w' h hs hk=>by
  obtain ⟨h2,h3⟩:=h;refine ⟨h2,fun j hj=>?_⟩;obtain ⟨l1,l2,l3,l4⟩:=h3 j hj;refine ⟨l1,l2,l3,fun hp=>?_⟩;obtain ⟨b,o,e,hb,_,hc⟩:=l4 hp;have hB:=hk b (.inr ⟨j,hj,hp,o,e⟩);refine ⟨b,o,e,Nat.lt_of_lt_of_le hb hs.2.2.2,by have:=hs.2.2.2;omega,fun j hj i v hv=>?_⟩;rw [<- hc j hj i v hv];simp [World.cell?, hB]
section
variable {b:Nat} {w0 w w':World} {l t:List Ob} {o o':Ob}
theorem SW.noMans (h:SW b w0 l w):SW b w0 (msOb [] []::l) w:=SW.fuse (pre:=[]) h ⟨rfl,fun j hj=>by cases hj⟩ (fun _ h=>h) (fun i hi=>by
 obtain ⟨j,hj,_⟩:=hi;cases hj)
theorem SW.fuseM {B:Option Addr} {ids:List ID} {rs:List MR} {ms:List Man} (h:SW b w0 (riOb B ids::msOb rs ms::l) w) (z:Int) (c:Nat) (hc:ids.length<=c):SW b w0 (msOb (rs++[⟨z,B,ids.length,c⟩]) (ms++[⟨z,ids⟩])::l) w:=by
 have hm:(msOb rs ms).holds w:=h.get 1 (o:=msOb rs ms) rfl;refine SW.fuse (pre:=[riOb B ids,msOb rs ms]) h ⟨by rw [List.length_append,List.length_append,hm.1];rfl,fun j hj=>?_⟩ (fun _ h=>h) (fun i hi=>?_)
 · rw [List.length_append] at hj;by_cases hlt:j<ms.length
   · rw [getD_snoc_lt _ _ _ _ hlt,getD_snoc_lt _ _ _ _ (by rw [hm.1];exact hlt)];exact hm.2 j hlt
   have e:j=ms.length:=by simp at hj;omega
   rw [getD_snoc_eq _ _ _ _ e,getD_snoc_eq _ _ _ _ (by rw [hm.1];exact e)];exact ⟨rfl,rfl,hc,rdID_of (h.get 0 (o:=riOb B ids) rfl)⟩
 obtain ⟨j,hj,hp,o,e⟩:=hi;rw [List.length_append] at hj;by_cases hlt:j<ms.length
 · rw [getD_snoc_lt _ _ _ _ hlt] at hp;rw [getD_snoc_lt _ _ _ _ (by rw [hm.1];exact hlt)] at e;exact ⟨msOb rs ms,by simp,.inr ⟨j,hlt,hp,o,e⟩⟩
 have ej:j=ms.length:=by simp at hj;omega
 rw [getD_snoc_eq _ _ _ _ (by rw [hm.1];exact ej)] at e;rw [getD_snoc_eq _ _ _ _ ej] at hp;have hri:(riOb B ids).holds w:=h.get 0 (o:=riOb B ids) rfl;refine ⟨riOb B ids,by simp,.inr ?_⟩;obtain ⟨g,e2,_⟩:=hri.2 _ e;injection e2 with e2 e3;show B=some ⟨i,0,none⟩;have e:B=some ⟨i,o,none⟩:=e;rw [e,e3]
end
def imOb (A:Option Addr) (rs:List MR) (ms:List Man):Ob where
 own:=fun _=>False
 rd:=fun i=>(0<rs.length/\∃ o,A=some ⟨i,o,none⟩)∨∃ j,j<ms.length/\0<(ms.getD j man0).ids.length/\∃ o,(rs.getD j mr0).A=some ⟨i,o,none⟩
 holds:=fun w=>Rd encMR 2 mr0 w w.heap.size A rs/\rs.length=ms.length/\∀ j,j<ms.length->Link w w.heap.size (rs.getD j mr0) (ms.getD j man0)
 stable:=fun w w' h hs hk=>by
  obtain ⟨h1,h2,h3⟩:=h;refine ⟨fun hp=>?_,h2,fun j hj=>?_⟩
  · obtain ⟨b,o,rfl,hb,_,hc⟩:=h1 hp;have hB:=hk b (.inr (.inl ⟨hp,o,rfl⟩));refine ⟨b,o,rfl,Nat.lt_of_lt_of_le hb hs.2.2.2,by have:=hs.2.2.2;omega,fun j hj i v hv=>?_⟩;rw [<- hc j hj i v hv];simp [World.cell?, hB]
  obtain ⟨l1,l2,l3,l4⟩:=h3 j hj;refine ⟨l1,l2,l3,fun hp=>?_⟩;obtain ⟨b,o,e,hb,_,hc⟩:=l4 hp;have hB:=hk b (.inr (.inr ⟨j,hj,hp,o,e⟩));refine ⟨b,o,e,Nat.lt_of_lt_of_le hb hs.2.2.2,by have:=hs.2.2.2;omega,fun j hj i v hv=>?_⟩;rw [<- hc j hj i v hv];simp [World.cell?, hB]
section
variable {b:Nat} {w0 w w':World} {l t:List Ob} {o o':Ob}
theorem SW.fuseIm {A:Option Addr} {c:Nat} {rs:List MR} {ms:List Man} (h:SW b w0 (rowOb 33 2 (.slice A ms.length c) ms.length (rs.flatMap encMR)::msOb rs ms::l) w):SW b w0 (imOb A rs ms::l) w:=by
 have hm:(msOb rs ms).holds w:=h.get 1 (o:=msOb rs ms) rfl;have hr:w.ownsRow 0 33 2 (.slice A ms.length c) ms.length (rs.flatMap encMR):=h.get 0 rfl
 have hrd:Rd encMR 2 mr0 w w.heap.size A rs:=by
  intro hp;have hx:∀ g,A=some ⟨g,0,none⟩->g<w.heap.size:=fun g e=>(hr.lt g (by rw [e];rfl)).2;rcases hr.2 with ⟨hv,h0⟩ | ⟨g,cap,cur,hv,_⟩
  · have:=hm.1;omega
  injection hv with e1 e2 e3;subst e1;subst e3;refine ⟨g,0,rfl,hx g rfl,by have:=hx g rfl;omega,fun j hj i v hi=>?_⟩
  have hi2:i<2:=by
   have:=(List.getElem?_eq_some_iff.1 hi).1;rwa [encMR_len] at this
  rw [Nat.zero_add,hr.cellAt (j*2+i) (by rw [<- hm.1];omega),flat_at encMR_len mr0 rs j i hj hi2];exact hi
 refine SW.fuse (pre:=[rowOb 33 2 (.slice A ms.length c) ms.length (rs.flatMap encMR),msOb rs ms]) h ⟨hrd,hm.1,hm.2⟩ (fun _ h=>h) (fun i hi=>?_);rcases hi with ⟨hp,o,e⟩ | hi
 · refine ⟨_,List.mem_cons_self .., .inl ?_⟩;show (Value.slice A ms.length c).ownBlock=some i;rw [e];rfl
 exact ⟨msOb rs ms,by simp,.inr hi⟩
theorem rd_src {x:Nat} {A:Option Addr} {ids:List ID} (h:RdID w x A ids):0<ids.length->∃ ad,A=some ad/\∀ j u,(ids.flatMap encID)[j]? =some u->w.cell? (ad.add j)=some u:=fun hp=>by
 obtain ⟨q,o,rfl,_,_,_⟩:=h hp;exact ⟨_,rfl,(Rd.opt encID_len (by omega) h).2 _ rfl⟩
theorem own_slL {e:TypeId} {size n:Nat} {v:Value} {xs:List Value} (h:w.ownsRow 0 e size v n xs):∃ A c,v= .slice A n c:=by
 rcases h.2 with ⟨hv,h2⟩ | ⟨g,cap,cur,hv,_⟩
 · exact ⟨none,0,by rw [hv,h2]⟩
 exact ⟨some ⟨g,0,none⟩,cap,hv⟩
theorem rd_top {x:Nat} {A:Option Addr} {ids:List ID} (h:RdID w x A ids):RdID w w.heap.size A ids:=fun hp=>by
 obtain ⟨q,o,e,hb,_,hc⟩:=h hp;exact ⟨q,o,e,hb,by omega,hc⟩
end
end Go.Proofs.YtmiknfneeipkeaaGreat
namespace Go.Proofs.YtmiknfneeipkeaaGreat
open Go.RowKit Go.MapKept Go.ChangeMaps Go.Shelf Go.Sort
def dd (l:List ID):List ID:=l.foldl (fun a x=>if a.getLast? =some x then a else a++[x]) []
theorem dd_snoc (l:List ID) (x:ID):dd (l++[x])=if (dd l).getLast? =some x then dd l else dd l++[x]:=by
 unfold dd;rw [List.foldl_append];rfl
theorem snocRec {p:List ID->Prop} (h0:p []) (h1:∀ l x,p l->p (l++[x])) (l:List ID):p l:=by
 have h:∀ l:List ID,p l.reverse:=fun l=>by
  induction l with
  | nil=>exact h0
  | cons x l ih=>
   rw [List.reverse_cons];exact h1 _ _ ih
 have:=h l.reverse;rwa [List.reverse_reverse] at this
theorem dd_last (l:List ID):(dd l).getLast? =l.getLast? :=by
 refine snocRec (p:=fun l=>(dd l).getLast? =l.getLast?) rfl (fun l x ih=>?_) l;show (dd (l++[x])).getLast? =_;rw [dd_snoc];split
 · rename_i h
   rw [h];simp
 simp
theorem dd_mem (l:List ID) (i:ID):i∈dd l↔i∈l:=by
 refine snocRec (p:=fun l=>i∈dd l↔i∈l) (by simp [dd]) (fun l x ih=>?_) l;show i∈dd (l++[x])↔_;rw [dd_snoc];split
 · rename_i h
   have hx:x∈l:=by
    rw [dd_last] at h;exact List.mem_of_getLast? h
   rw [ih];simp only [List.mem_append,List.mem_singleton];exact ⟨.inl,fun h=>h.elim id (fun e=>e ▸ hx)⟩
 rw [List.mem_append,ih,List.mem_append]
theorem dd_len (l:List ID):(dd l).length<=l.length:=by
 refine snocRec (p:=fun l=>(dd l).length<=l.length) (Nat.le_refl _) (fun l x ih=>?_) l;show (dd (l++[x])).length<=_;rw [dd_snoc];split
 · simp;omega
 simp;omega
theorem dd_snoc_same {l:List ID} {x:ID} (h:l.getLast? =some x):dd (l++[x])=dd l:=by rw [dd_snoc,dd_last,if_pos h]
theorem dd_snoc_other {l:List ID} {x:ID} (h:l.getLast? ≠some x):dd (l++[x])=dd l++[x]:=by rw [dd_snoc,dd_last,if_neg h]
theorem dd_strict {l:List ID}:l.Pairwise (fun a b=>ltOf cmpID b a=false)->(dd l).Pairwise (fun a b=>ltID a b=true):=by
 refine snocRec (p:=fun l=>l.Pairwise (fun a b=>ltOf cmpID b a=false)->(dd l).Pairwise (fun a b=>ltID a b=true)) (fun _=>List.Pairwise.nil) (fun l x ih h=>?_) l
 · obtain ⟨h1,_,h3⟩:=List.pairwise_append.1 h;show (dd (l++[x])).Pairwise _;rw [dd_snoc];split
   · exact ih h1
   rename_i hne
   refine List.pairwise_append.2 ⟨ih h1,List.pairwise_singleton _ _,fun a ha b hb=>?_⟩;rw [List.mem_singleton.1 hb];have ha':=(dd_mem l a).1 ha;have hle:=h3 a ha' x (by simp);rw [lt_cmpID] at hle;refine ltID_tri hle (fun e=>?_); -- x=a:then a is the last one
   subst e
   obtain ⟨b,hb⟩:∃ b,l.getLast? =some b:=by
    cases hl:l.getLast? with
    | none=>rw [List.getLast?_eq_none_iff] at hl;subst hl;cases ha'
    | some b=>exact ⟨b,rfl⟩
   have hb2:=h3 b (List.mem_of_getLast? hb) x (by simp);rw [lt_cmpID] at hb2; -- b is not above x,and x,which is in the list,is not above b
   have:ltID b x=false:=by
    obtain ⟨l',rfl⟩:∃ l',l=l'++[b]:=by
     rw [List.getLast?_eq_some_iff] at hb;exact hb
    rcases List.mem_append.1 ha' with hm | hm
    · have:=(List.pairwise_append.1 h1).2.2 x hm b (by simp);rwa [lt_cmpID] at this
    rw [List.mem_singleton.1 hm];exact ltID_irrefl b
   rw [dd_last,hb] at hne;refine hne ?_;by_cases e:b=x
   · rw [e]
   have:=ltID_tri this e;rw [this] at hb2;cases hb2
theorem clear2 (w:World) (b o n c:Nat) (ty:TypeId) (hn:0<n) (hc:∀ j,j<n*2->(w.cell? ⟨b,o+j,none⟩).isSome=true) (hf:∀ j,j<n*2->w.frozen? ⟨b,o+j,none⟩=false):
 ∃ L:List Value,(Builtin.clear_ #[31] ty #[.slice (some ⟨b,o,none⟩) n c]).run Tryz.prog w= .ok (.tuple #[]) (w.setCells b o L):=by
 refine ⟨(Builtin.zeroCells #[.int .u64 0,.int .i64 0] n).toList,?_⟩;have hlen:(Builtin.zeroCells #[.int .u64 0,.int .i64 0] n).toList.length=n*2:=by simp [Builtin.zeroCells]
 have h1:∀ v∈(Builtin.zeroCells #[.int .u64 0,.int .i64 0] n).toList,v.oneCell'=true:=by
  intro v hv;simp [Builtin.zeroCells] at hv;obtain ⟨i,hi,rfl⟩:=hv;have:i % 2=0∨i % 2=1:=by omega
  rcases this with h | h<;>simp [h,Value.oneCell']
 have hst:=run_storeCells_cells (P:=Tryz.prog) b o (Builtin.zeroCells #[.int .u64 0,.int .i64 0] n).toList 0 w (by rw [hlen];simpa using hc) (by rw [hlen];simpa using hf) h1;simp only [Nat.add_zero] at hst;obtain ⟨m,rfl⟩:∃ m,n=m+1:=⟨n-1,by omega⟩;simp [Builtin.clear_,run_underlying Tryz.underlying31,Result.andThen,Value.cells,hst]
theorem grown_setCells {a:World} {g:Nat}:∀ (vs:List Value) (o:Nat) (w:World),a.grownBy w (some g)->a.grownBy (w.setCells g o vs) (some g)
 | [],_,_,h=>h
 | v::r,o,_,h=>grown_setCells r (o+1) _ (g_set (p:=⟨g,o,none⟩) h (.inl rfl) v)
theorem isB_setCells {g:Nat} {t:TypeId}:∀ (vs:List Value) (o:Nat) (w:World) (cs:Array Value),IsB w g t cs->∃ cs',IsB (w.setCells g o vs) g t cs'/\cs'.size=cs.size
 | [],_,_,cs,h=>⟨cs,h,rfl⟩
 | v::r,o,_,cs,h=>by
  obtain ⟨cs',h1,h2⟩:=isB_setCells r (o+1) _ _ (h.set_ o v);exact ⟨cs',h1,h2.trans (by simp)⟩
theorem RowI.cleared {w:World} {g:Nat} {X:List ID} (h:RowI w g X) {k:Nat} (hk:k<=X.length) (L:List Value):RowI (w.setCells g (k*2) L) g (X.take k):=by
 obtain ⟨cur,h1,h2,h3⟩:=h;obtain ⟨cs',h4,h5⟩:=isB_setCells L (k*2) w cur h1;refine ⟨cs',h4,by rw [List.length_take,h5];omega,fun j hj=>?_⟩;rw [List.length_take] at hj;have e1:(X.take k).getD j id0=X.getD j id0:=by rw [List.getD_eq_getElem?_getD,List.getElem?_take_of_lt (by omega),List.getD_eq_getElem?_getD]
 rw [e1];obtain ⟨c0,c1⟩:=h3 j (by omega);rw [<- h4.cell, <- h4.cell,World.cell?_setCells_out g L (k*2) w _ (fun _ _=> .inl (by simp only;omega)),World.cell?_setCells_out g L (k*2) w _ (fun _ _=> .inl (by simp only;omega)),h1.cell,h1.cell];exact ⟨c0,c1⟩
theorem take_last {l:List ID} {k:Nat} (hk:k<l.length):(l.take (k+1)).getLast? =some (l.getD k id0):=by
 rw [take_snoc _ id0 _ hk];simp
set_option maxRecDepth 100000 in
set_option maxHeartbeats 8000000 in
theorem compact_any (g c:Nat) (xs:List ID) (w:World) (h:RowI w g xs) (hn:xs.length<=4294967296) (hg:g<w.heap.size) (hc:xs.length<=c):
 Calls Tryz.prog 83 #[.slice (some ⟨g,0,none⟩) xs.length c] w (fun e w'=>e= .returned (.slice (some ⟨g,0,none⟩) (dd xs).length c)/\RowI w' g (dd xs)/\w.grownBy w' (some g)):=by
 have H:=Lib.hid h;clear h;by_cases h2:xs.length<2
 · have hd:dd xs=xs:=by
    match xs,h2 with
    | [],_=>rfl
    | [a],_=>rfl
    | a::b::l,h2=>simp at h2;omega
   rw [hd];clear hd;generalize hN:xs.length=N at *; go_enter Tryz.func83,Tryz.ntmps83;go_wp2_with fail
   go_ret;exact ⟨rfl,H.out,g_refl _ _⟩
 have h2n:decide ((xs.length:Int)<2)=false:=decide_eq_false (by omega);go_enter Tryz.func83,Tryz.ntmps83;go_wp2_with fail
 go_loopw [3] (fun v wr=>∃ k:Nat,1<=k/\k<=xs.length/\v= .int .i64 (k:Int)/\Hid (dd (xs.take k)=xs.take k)/\RowI wr g xs/\w.grownBy wr (some g)) (fun v _=>xs.length-(intOf v).toNat)
 case atStart=>
  refine ⟨1,Nat.le_refl _,by omega,rfl,?_,H.out,g_refl _ _⟩;match xs,h2 with
  | [],h2=>simp at h2
  | a::l,_=>rfl
 obtain ⟨k,hk1,hk,rfl,HD,hr,hgr⟩:=hrel;have RR:=Lib.hid hr;have GG:=Lib.hid hgr;clear hr hgr;by_cases hlt:k<xs.length
 · obtain ⟨m,rfl⟩:∃ m,k=m+1:=⟨k-1,by omega⟩;obtain ⟨x,HX⟩:∃ x,Hid (xs.getD (m+1) id0=x):=⟨_,rfl⟩;obtain ⟨y,HY⟩:∃ y,Hid (xs.getD m id0=y):=⟨_,rfl⟩;obtain ⟨a0,a1,_,_⟩:=RR.out.cells hlt HX.out;obtain ⟨b0,b1,_,_⟩:=RR.out.cells (j:=m) (by omega) HY.out;have HLA:Hid ((xs.take (m+1)).getLast? =some y):=by rw [Hid,take_last (by omega),HY.out]
   have HTS:Hid (xs.take (m+1+1)=xs.take (m+1)++[x]):=by rw [Hid,take_snoc _ id0 _ hlt,HX.out]
   by_cases he:x=y
   · subst he
     have HS:Hid (dd (xs.take (m+1+1))=xs.take (m+1)):=by
      rw [Hid,HTS.out,dd_snoc_same HLA.out,HD.out]
     have hm0:(m:Int)+1<(xs.length:Int):=by omega
     have hck:¬ c=m+1:=by omega
     go_wp2_with fail
     go_quiet (fail)
     have RR2:Hid (RowI (wr.drewN nq) g xs):=RR.out.on (bdrewN (Below.refl _ _) _);have GG2:Hid (w.grownBy (wr.drewN nq) (some g)):=g_drewN GG.out _;clear a0 a1 b0 b1 RR GG;generalize wr.drewN nq=wz at RR2 GG2 |-; go_wp2_with fail
     rename World=>wa;go_loopw [3,5] (fun v3 v5 wr=>∃ (p q:Nat) (X:List ID),m+1+(p+1)<=xs.length/\v5= .int .i64 ((p:Int)+1)/\v3= .int .i64 (q:Int)/\q<=m+1+p/\X.length=xs.length/\Hid (X.take q=dd (xs.take (m+1+(p+1)))/\(dd (xs.take (m+1+(p+1)))).length=q)/\Hid (∀ j,m+1+p<=j->j<xs.length->X.getD j id0=xs.getD j id0)/\RowI wr g X/\w.grownBy wr (some g)) (fun _ v _=>xs.length-(intOf v).toNat)
     case atStart=>exact ⟨0,m+1,xs,by omega,rfl,by go_num,by omega,rfl,⟨HS.out.symm,by rw [HS.out,List.length_take];omega⟩,fun _ _ _=>rfl,RR2.out,GG2.out⟩
     obtain ⟨p,q,X,hp,rfl,rfl,hq,hX,HT,HO,hr,hgr⟩:=hrel;have R3:=Lib.hid hr;have G3:=Lib.hid hgr;have HXL:=Lib.hid hX;clear hr hgr RR2 GG2;by_cases hlt2:m+1+(p+1)<xs.length
     · obtain ⟨y2,HY2⟩:∃ y2,Hid (xs.getD (m+1+(p+1)) id0=y2):=⟨_,rfl⟩;obtain ⟨z2,HZ2⟩:∃ z2,Hid (xs.getD (m+1+p) id0=z2):=⟨_,rfl⟩;obtain ⟨a0,a1,_,_⟩:=R3.out.cells (j:=m+1+(p+1)) (by omega) ((HO.out _ (by omega) hlt2).trans HY2.out);obtain ⟨b0,b1,_,_⟩:=R3.out.cells (j:=m+1+p) (by omega) ((HO.out _ (by omega) (by omega)).trans HZ2.out)
       have HLA2:Hid ((xs.take (m+1+(p+1))).getLast? =some z2):=by
        rw [Hid,show m+1+(p+1)=m+1+p+1 by omega,take_last (by omega),HZ2.out]
       have HTS2:Hid (xs.take (m+1+(p+1+1))=xs.take (m+1+(p+1))++[y2]):=by
        rw [Hid,show m+1+(p+1+1)=m+1+(p+1)+1 by omega,take_snoc _ id0 _ hlt2,HY2.out]
       rw [show (m+1+(p+1))*2=(m+1)*2+(p+1)*2 by omega] at a0 a1;rw [show (m+1+p)*2=(m+1)*2+p*2 by omega] at b0 b1;have hi1:(p:Int)+1<((xs.length-(m+1):Nat):Int):=by omega
       have hi2:(p:Int)<((xs.length-(m+1):Nat):Int):=by omega
       clear hX;by_cases he:y2=z2
       · subst he
         have HT2:Hid (X.take q=dd (xs.take (m+1+(p+1+1)))/\(dd (xs.take (m+1+(p+1+1)))).length=q):=by
          rw [Hid,HTS2.out,dd_snoc_same HLA2.out];exact HT.out
         go_wp2_with fail
         go_quiet (fail)
         go_wp2_with fail
         go_roundw
         case rel=>exact ⟨p+1,q,X,by omega,by go_num,rfl,by omega,HXL.out,HT2,fun j h1 h2=>HO.out j (by omega) h2,R3.out.on (bdrewN (Below.refl _ _) _),g_drewN G3.out _⟩
         simp [intOf];omega
       have HT2:Hid ((X.set q y2).take (q+1)=dd (xs.take (m+1+(p+1+1)))/\(dd (xs.take (m+1+(p+1+1)))).length=q+1):=by
        rw [Hid,HTS2.out,dd_snoc_other (by rw [HLA2.out];intro e;injection e with e;exact he e.symm)];refine ⟨?_,by rw [List.length_append,HT.out.2];rfl⟩;rw [take_snoc _ id0 _ (by rw [List.length_set,HXL.out];omega),List.take_set_of_le (Nat.le_refl _),HT.out.1,List.getD_eq_getElem?_getD,List.getElem?_set_self (by rw [HXL.out];omega)];rfl
       have hcase:(y2.1==z2.1)=false∨((y2.1==z2.1)=true/\(y2.2==z2.2)=false):=by
        by_cases e0:y2.1=z2.1
        · refine .inr ⟨beq_iff_eq.2 e0,beq_eq_false_iff_ne.2 (fun e1=>he (Prod.ext e0 e1))⟩
        exact .inl (beq_eq_false_iff_ne.2 e0)
       clear he;rcases hcase with hne | ⟨hne1,hne⟩
       all_goals (
        go_wp2_with fail
        go_quiet (fail)
        have R4:Hid (RowI (wr.drewN nq) g X):=R3.out.on (bdrewN (Below.refl _ _) _);have G4:Hid (w.grownBy (wr.drewN nq) (some g)):=g_drewN G3.out _;clear a0 a1 b0 b1 R3 G3;generalize wr.drewN nq=wy at R4 G4 |-; obtain ⟨a0,a1,_,_⟩:=R4.out.cells (j:=m+1+(p+1)) (by rw [HXL.out];omega) ((HO.out _ (by omega) hlt2).trans HY2.out);obtain ⟨d0,d1,f0,f1⟩:=R4.out.cells (j:=q) (by rw [HXL.out];omega) rfl;rw [show (m+1+(p+1))*2=(m+1)*2+(p+1)*2 by omega] at a0 a1;have hi3:(q:Int)<(xs.length:Int):=by omega
        go_wp2_with fail
        go_roundw
        case rel=>
         refine ⟨p+1,q+1,X.set q y2,by omega,by go_num,by go_num,by omega,by rw [List.length_set];exact HXL.out,HT2,fun j h1 h2=>?_,R4.out.put q (by rw [HXL.out];omega) y2,?_⟩
         · have:=HO.out j (by omega) h2;rw [List.getD_eq_getElem?_getD,List.getElem?_set_ne (by omega), <- List.getD_eq_getElem?_getD];exact this
         have hgg:=g_set (p:=⟨g,q*2+1,none⟩) (g_set (p:=⟨g,q*2,none⟩) G4.out (.inl rfl) (.int .u64 y2.1)) (.inl rfl) (.int .i64 y2.2);exact ⟨hgg.os,hgg.tape,hgg.output,hgg.size,hgg.block⟩
        simp [intOf];omega)
     obtain hpe:m+1+(p+1)=xs.length:=by omega
     have hT:=HT.out;rw [hpe,List.take_length] at hT;have HT3:=Lib.hid hT;have hi2:¬ ((p:Int)+1<((xs.length-(m+1):Nat):Int)):=by omega
     clear hT hX;have hcq:¬ c=q:=by omega
     obtain ⟨L,hL⟩:=clear2 wr g (q*2) (xs.length-q) (c-q) 0 (by omega) (fun j hj=>by
      obtain ⟨c0,c1,_,_⟩:=R3.out.cells (j:=q+j / 2) (by rw [HXL.out];omega) rfl;have:j % 2=0∨j % 2=1:=by omega
      rcases this with e | e
      · rw [show q*2+j=(q+j / 2)*2 by omega,c0];rfl
      · rw [show q*2+j=(q+j / 2)*2+1 by omega,c1];rfl) (fun j hj=>by
      obtain ⟨_,_,c0,c1⟩:=R3.out.cells (j:=q+j / 2) (by rw [HXL.out];omega) rfl;have:j % 2=0∨j % 2=1:=by omega
      rcases this with e | e
      · rw [show q*2+j=(q+j / 2)*2 by omega,c0]
      rw [show q*2+j=(q+j / 2)*2+1 by omega,c1])
     have hcl2:∀ ty,(Builtin.clear_ #[31] ty #[.slice (some ⟨g,q*2,none⟩) (xs.length-q) (c-q)]).run Tryz.prog wr= .ok (.tuple #[]) (wr.setCells g (q*2) L):=fun _=>hL
     have RC:Hid (RowI (wr.setCells g (q*2) L) g (dd xs)):=by
      have:=R3.out.cleared (k:=q) (by rw [HXL.out];omega) L;rwa [HT3.out.1] at this
     have GC:Hid (w.grownBy (wr.setCells g (q*2) L) (some g)):=grown_setCells _ _ _ G3.out;have hql:q<=xs.length:=by omega
     have hqc:q<=c:=by omega
     clear hL;go_wp2_with fail
     go_ret;exact ⟨by rw [HT3.out.2];rfl,RC.out,GC.out⟩
   have HN:Hid (dd (xs.take (m+1+1))=xs.take (m+1+1)):=by
    rw [Hid,HTS.out,dd_snoc_other (by rw [HLA.out];intro e;injection e with e;exact he e.symm),HD.out]
   have hcase:(x.1==y.1)=false∨((x.1==y.1)=true/\(x.2==y.2)=false):=by
    by_cases e0:x.1=y.1
    · refine .inr ⟨beq_iff_eq.2 e0,beq_eq_false_iff_ne.2 (fun e1=>he (Prod.ext e0 e1))⟩
    exact .inl (beq_eq_false_iff_ne.2 e0)
   clear he;have hm0:(m:Int)+1<(xs.length:Int):=by omega
   rcases hcase with hne | ⟨hne1,hne⟩
   all_goals (
    go_wp2_with fail
    go_quiet (fail)
    go_wp2_with fail
    go_roundw
    case rel=>exact ⟨m+1+1,by omega,by omega,by go_num,HN,RR.out.on (bdrewN (Below.refl _ _) _),g_drewN GG.out _⟩
    simp [intOf];omega)
 obtain rfl:k=xs.length:=by omega
 have hd:=HD.out;rw [List.take_length] at hd;have HD2:=Lib.hid hd;clear hd;go_wp2_with fail
 go_ret;exact ⟨by rw [HD2.out];rfl,by rw [HD2.out];exact RR.out,GG.out⟩
end Go.Proofs.YtmiknfneeipkeaaGreat
