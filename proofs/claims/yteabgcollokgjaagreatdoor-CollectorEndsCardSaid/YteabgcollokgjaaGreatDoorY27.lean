/- Q -/
import Derived.Test.YteabgcollokgjaaGreatDoorY26
set_option linter.unusedSimpArgs false
set_option linter.unusedVariables false
set_option maxRecDepth 100000
set_option maxHeartbeats 32000000
open List renaming mem_cons_of_mem → zA,mem_cons_self → zB,map_cons → zC,map_append → zD,mem_append → zE,mem_singleton → zF
namespace Go.Proofs.YteabgcollokgjaaGreatDoor
section
open Go.RowKit Go.MapKept Go.ChangeMaps Go.Shelf Go.Sort
def bitsL:Nat->List (List UInt8)
 | 0=>[[]]
 | n+1=>(bitsL n).flatMap fun t=>[0::t,1::t]
def allTexts:List (List UInt8):=bitsL 1++bitsL 2++bitsL 3++bitsL 4
structure IsText (bs:List UInt8):Prop where
 lo:1<=bs.length
 hi:bs.length<=4
 bit:∀ c∈bs,c=0∨c=1
theorem mem_bitsL:∀ (bs:List UInt8),(∀ c∈bs,c=0∨c=1)->bs∈bitsL bs.length
 | [],_=>by simp [bitsL]
 | c::bs,h=>by
  have ih:=mem_bitsL bs (fun d hd=>h d (zA _ hd));rw [List.length_cons,bitsL];refine List.mem_flatMap.2 ⟨bs,ih,?_⟩;rcases h c (zB ..) with rfl | rfl<;>simp
theorem IsText.mem {bs:List UInt8} (h:IsText bs):bs∈allTexts:=by
 have hm:=mem_bitsL bs h.bit;have h1:=h.lo;have h2:=h.hi;unfold allTexts;simp only [zE];have:bs.length=1∨bs.length=2∨bs.length=3∨bs.length=4:=by omega
 rcases this with e | e | e | e<;>rw [e] at hm
 · exact .inl (.inl (.inl hm))
 · exact .inl (.inl (.inr hm))
 · exact .inl (.inr hm)
 exact .inr hm
theorem texts_nodup:(allTexts.map fpOf).Nodup:=by decide+kernel
theorem inj_of_nodup {α β:Type} (f:α->β):∀ (l:List α),(l.map f).Nodup->∀ a∈l,∀ b∈l,f a=f b->a=b
 | [],_,a,ha,_,_,_=>by cases ha
 | x::l,h,a,ha,b,hb,e=>by
  rw [zC,List.nodup_cons] at h;rcases List.mem_cons.1 ha with ha' | ha'
  · rcases List.mem_cons.1 hb with hb' | hb'
    · rw [ha',hb']
    exact absurd (List.mem_map.2 ⟨b,hb',by rw [<- e,ha']⟩) h.1
  rcases List.mem_cons.1 hb with hb' | hb'
  · exact absurd (List.mem_map.2 ⟨a,ha',by rw [e,hb']⟩) h.1
  exact inj_of_nodup f l h.2 a ha' b hb' e
theorem text_inj {a b:List UInt8} (ha:IsText a) (hb:IsText b) (e:fpOf a=fpOf b):a=b:=inj_of_nodup fpOf allTexts texts_nodup a ha.mem b hb.mem e
theorem tbytes_bit (L:List Int) (n:Nat):∀ c,∀ x∈tbytes L n 2 c,x=0∨x=1
 | 0,x,h=>by cases h
 | c+1,x,h=>by
  rw [tbytes] at h;rcases List.mem_append.1 h with h | h
  · exact tbytes_bit L n c x h
  rw [zF] at h;obtain ⟨h0,h1⟩:=tnext_in L (n+c) 2;have h1:=h1 (by omega);have:(tnext L (n+c) 2).toNat=0∨(tnext L (n+c) 2).toNat=1:=by omega
  rcases this with e | e
  · left
    rw [h,e];rfl
  right
  rw [h,e];rfl
theorem textB_is (L:List Int) (n:Nat):IsText (textB L n):=by
 obtain ⟨h1,h2⟩:=textN_in L n;have hl:(textB L n).length=textN L n:=tbytes_len _ _ _ _;exact ⟨by omega,by omega,tbytes_bit _ _ _⟩
theorem IsText.size {bs:List UInt8} (h:IsText bs):(fpOf bs).2=bs.length:=rfl
structure TX (x:SR) (P:List (List UInt8)):Prop where
 has:∀ i,(asc x.C i).isSome=decide (i∈P.map fpOf)
 val:∀ bs∈P,valC x (fpOf bs)=some bs
 text:∀ bs∈P,IsText bs
theorem TX.empty {x:SR} (h:x.C=[]):TX x []:=⟨fun i=>by rw [h];simp [asc],fun _ h=>(by cases h),fun _ h=>(by cases h)⟩
theorem TX.key {x:SR} {P:List (List UInt8)} (h:TX x P) {i:ID} (hi:i∈x.C.map (·.1)):∃ bs∈P,fpOf bs=i/\IsText bs:=by
 have h1:=asc_key.2 hi;rw [h.has i,decide_eq_true_eq] at h1;obtain ⟨bs,hb,e⟩:=List.mem_map.1 h1;exact ⟨bs,hb,e,h.text bs hb⟩
theorem TX.len {x:SR} {P:List (List UInt8)} (h:TX x P) (hn:(x.C.map (·.1)).Nodup):x.C.length<=P.length:=by
 have:=len_le_sub (x.C.map (·.1)) (P.map fpOf) hn (fun i hi=>by
  obtain ⟨bs,hb,e,_⟩:=h.key hi;exact List.mem_map.2 ⟨bs,hb,e⟩)
 simpa using this
theorem TX.few {x:SR} {P:List (List UInt8)} (h:TX x P) (hn:(x.C.map (·.1)).Nodup):x.C.length<=30:=by
 have:=len_le_sub (x.C.map (·.1)) (allTexts.map fpOf) hn (fun i hi=>by
  obtain ⟨bs,hb,e,ht⟩:=h.key hi;exact List.mem_map.2 ⟨bs,ht.mem,e⟩)
 have e:(allTexts.map fpOf).length=30:=by decide+kernel
 rw [e] at this;simpa using this
theorem frSum_le:∀ (l:List ID),(∀ i∈l,i.2<=4)->frSum l<=32*l.length
 | [],_=>by simp [frSum]
 | i::l,h=>by
  have h1:=h i (zB ..);have ih:=frSum_le l (fun j hj=>h j (zA _ hj));have e:frSum (i::l)=28+i.2.toNat+frSum l:=by simp [frSum]
  rw [e,List.length_cons];omega
theorem TX.pends {x:SR} {P:List (List UInt8)} (h:TX x P):frSum (Go.Proofs.YteabgcollokgjaaGreatDoor.pends x.C)<=32*(Go.Proofs.YteabgcollokgjaaGreatDoor.pends x.C).length:=frSum_le _ (fun i hi=>by
 obtain ⟨d,bs,hm⟩:=pends_mem hi;obtain ⟨t,_,e,ht⟩:=h.key (List.mem_map.2 ⟨_,hm,rfl⟩);have e:fpOf t=i:=e;rw [<- e,ht.size];have:=ht.hi;omega)
theorem pends_le (C:Chs):(pends C).length<=C.length:=by
 unfold pends;rw [List.length_map];exact List.length_filter_le _ _
theorem TX.more {x:SR} {P:List (List UInt8)} (h:TX x P) {bs:List UInt8} (hb:bs∈P):TX x (P++[bs]):=by
 refine ⟨fun i=>?_,fun t ht=>?_,fun t ht=>?_⟩
 · rw [h.has i];congr 1
   simp only [zD,zC,List.map_nil,zE,zF,eq_iff_iff];constructor
   · exact .inl
   rintro (h1 | rfl)
   · exact h1
   exact List.mem_map.2 ⟨bs,hb,rfl⟩
 · rcases List.mem_append.1 ht with ht | ht
   · exact h.val t ht
   rw [List.mem_singleton.1 ht];exact h.val bs hb
 rcases List.mem_append.1 ht with ht | ht
 · exact h.text t ht
 rw [List.mem_singleton.1 ht];exact h.text bs hb
theorem TX.put {x:SR} {P:List (List UInt8)} (h:TX x P) {bs:List UInt8} (ht:IsText bs) (hn:asc x.C (fpOf bs)=none) (d:BD):TX (putS x (fpOf bs) d bs) (P++[bs]):=by
 have hni:fpOf bs ∉ P.map fpOf:=fun hm=>by
  have:=h.has (fpOf bs);rw [hn] at this;simp [hm] at this
 refine ⟨fun i=>?_,fun t hm=>?_,fun t hm=>?_⟩
 · show (asc (setL x.C (fpOf bs) (Pl.pend d bs)) i).isSome=_;rw [asc_setL];by_cases e:fpOf bs=i
   · rw [if_pos e];simp [e]
   rw [if_neg e,h.has i];congr 1
   simp only [zD,zC,List.map_nil,zE,zF,eq_iff_iff];constructor
   · exact .inl
   rintro (h1 | h1)
   · exact h1
   exact absurd h1.symm e
 · rw [put_val];rcases List.mem_append.1 hm with hm | hm
   · rw [if_neg (fun e=>hni (by rw [e];exact List.mem_map.2 ⟨t,hm,rfl⟩))];exact h.val t hm
   rw [List.mem_singleton.1 hm,if_pos rfl]
 rcases List.mem_append.1 hm with hm | hm
 · exact h.text t hm
 rw [List.mem_singleton.1 hm];exact ht
section
variable {ns:List ByteArray} {b:Nat} {w0 w:World} {x:SR} {l:List Ob}
abbrev PutTP (ns:List ByteArray) (b:Nat) (w0:World) (x:SR) (P:List (List UInt8)) (bs:List UInt8) (l:List Ob) (e:Ending) (w':World):Prop:=
 e= .returned (.tuple #[.agg #[.int .u64 (fpOf bs).1,.int .i64 (fpOf bs).2],.int .i64 0])/\∃ x',SW b w0 (x'.obs l) w'/\Cl ns x'/\TX x' (P++[bs])/\x'.ps=x.ps/\x'.p=x.p/\x'.nm=x.nm/\x'.F=x.F
theorem PutT_L (h:SW b w0 (x.obs l) w) (hc:Cl ns x) {P:List (List UInt8)} (hT:TX x P) (A:Option Addr) (c:Nat) (bs:List UInt8) (hs:RS w A bs) (ht:IsText bs):
 Calls Tryz.prog 23 #[vPtr x.ps,.slice A bs.length c] w (PutTP ns b w0 x P bs l):=by
 have h1:=ht.lo;have h2:=ht.hi;cases ha:asc x.C (fpOf bs) with
 | none=>
  have hf:=hT.few hc.keys;refine (PutN_L h hc A c bs hs (by omega) (by omega) ha (by omega)).mono ?_;rintro e w' ⟨rfl,d,s,hc'⟩;exact ⟨rfl,_,s,hc',hT.put ht ha d,rfl,rfl,rfl,rfl⟩
 | some pl=>
  have hm:fpOf bs∈P.map fpOf:=by
   have:=hT.has (fpOf bs);rw [ha] at this;exact of_decide_eq_true this.symm
  obtain ⟨t,ht',e⟩:=List.mem_map.1 hm;have e2:=text_inj (hT.text t ht') ht e;subst e2;refine (PutS_L h hc A c t hs (by omega) (by omega) (hT.val t ht')).mono ?_;rintro e w' ⟨rfl,s⟩;exact ⟨rfl,x,s,hc,hT.more ht',rfl,rfl,rfl,rfl⟩
end
theorem ltI_trans {a b c:ID} (h1:ltID a b=true) (h2:ltID b c=true):ltID a c=true:=by
 simp only [ltID,decide_eq_true_eq] at *; omega
theorem ltI_irr (a:ID):ltID a a=false:=by simp [ltID]
theorem ltI_asym {a b:ID} (h1:ltID a b=true):ltID b a=false:=by
 simp only [ltID,decide_eq_true_eq,decide_eq_false_iff_not] at *; omega
theorem ltI_tri {a b:ID} (h1:ltID a b=false) (h2:a≠b):ltID b a=true:=by
 obtain ⟨a1,a2⟩:=a;obtain ⟨b1,b2⟩:=b;simp only [ltID,decide_eq_true_eq,decide_eq_false_iff_not] at *; have:¬ (a1=b1/\a2=b2):=fun h=>h2 (by rw [h.1,h.2]);omega
abbrev SortE (E:List RE):Prop:=E.Pairwise fun a b=>ltID a.id b.id=true
theorem atI_split (E:List RE) (i:ID):E.take (atI E i)=E.takeWhile (fun e=>ltID e.id i)/\E.drop (atI E i)=E.dropWhile (fun e=>ltID e.id i):=by
 have h:=List.takeWhile_append_dropWhile (p:=fun e:RE=>ltID e.id i) (l:=E);unfold atI;constructor
 · conv=>lhs;rw [<- h]
   rw [List.take_left'];rw [h]
 conv=>lhs;rw [<- h]
 rw [List.drop_left'];rw [h]
theorem tw_lt {E:List RE} {i:ID} {e:RE} (h:e∈E.takeWhile (fun e=>ltID e.id i)):ltID e.id i=true:=by
 induction E with
 | nil=>cases h
 | cons x E ih=>
  rw [List.takeWhile_cons] at h;split at h
  · rename_i hx
    rcases List.mem_cons.1 h with rfl | h
    · exact hx
    exact ih h
  cases h
theorem dw_ge {E:List RE} (hs:SortE E) {i:ID} {e:RE} (h:e∈E.dropWhile (fun e=>ltID e.id i)):ltID e.id i=false:=by
 induction E with
 | nil=>cases h
 | cons x E ih=>
  obtain ⟨h1,h2⟩:=List.pairwise_cons.1 hs;rw [List.dropWhile_cons] at h;split at h
  · exact ih h2 h
  rename_i hx
  have hx:ltID x.id i=false:=by simpa using hx
  rcases List.mem_cons.1 h with rfl | h
  · exact hx
  cases hc:ltID e.id i with
  | false=>rfl
  | true=>
   have:=ltI_trans (h1 e h) hc;rw [hx] at this;cases this
theorem hasAt_iff {E:List RE} (hs:SortE E) (i:ID):hasAt E i=true↔i∈E.map (·.id):=by
 obtain ⟨h1,h2⟩:=atI_split E i
 have hd:E[atI E i]? =(E.dropWhile (fun e=>ltID e.id i)).head? :=by
  rw [<- h2,List.head?_drop]
 unfold hasAt;rw [hd];constructor
 · intro h;split at h
   · rename_i e he
     have hm:e∈E:=(List.dropWhile_sublist _).subset (List.mem_of_head? he);exact List.mem_map.2 ⟨e,hm,of_decide_eq_true h⟩
   cases h
 intro h;obtain ⟨e,he,hi⟩:=List.mem_map.1 h
 have hin:e∈E.dropWhile (fun e=>ltID e.id i):=by
  rw [<- List.takeWhile_append_dropWhile (p:=fun e:RE=>ltID e.id i) (l:=E)] at he;rcases List.mem_append.1 he with he | he
  · have:=tw_lt he;rw [hi,ltI_irr] at this;cases this
  exact he
 cases hdw:E.dropWhile (fun e=>ltID e.id i) with
 | nil=>rw [hdw] at hin;cases hin
 | cons x D=>
  simp only [List.head?_cons];have hxi:ltID x.id i=false:=dw_ge hs (by rw [hdw];exact zB ..);rw [decide_eq_true_eq];rw [hdw] at hin;rcases List.mem_cons.1 hin with rfl | hin
  · exact hi
  have hsd:SortE (x::D):=by rw [<- hdw];exact hs.sublist (List.dropWhile_sublist _)
  have:=(List.pairwise_cons.1 hsd).1 e hin;rw [hi] at this;rw [this] at hxi;cases hxi
def putE (E:List RE) (e:RE):List RE:=E.take (atI E e.id)++e::E.drop (atI E e.id)
theorem putE_mem {E:List RE} {e f:RE}:f∈putE E e↔f=e∨f∈E:=by
 unfold putE;have h:f∈E↔f∈E.take (atI E e.id)∨f∈E.drop (atI E e.id):=by rw [<- zE,List.take_append_drop]
 rw [h];simp only [zE,List.mem_cons];constructor
 · rintro (h | h | h)<;>simp [h]
 rintro (h | h | h)<;>simp [h]
theorem putE_sort {E:List RE} (hs:SortE E) {e:RE} (hn:e.id ∉ E.map (·.id)):SortE (putE E e):=by
 obtain ⟨h1,h2⟩:=atI_split E e.id;unfold putE;rw [h1,h2];have hs':=hs;rw [<- List.takeWhile_append_dropWhile (p:=fun f:RE=>ltID f.id e.id) (l:=E)] at hs';obtain ⟨p1,p2,p3⟩:=List.pairwise_append.1 hs';refine List.pairwise_append.2 ⟨p1,List.pairwise_cons.2 ⟨fun f hf=>?_,p2⟩,fun a ha f hf=>?_⟩
 · refine ltI_tri (dw_ge hs hf) (fun e'=>hn ?_);rw [<- e'];exact List.mem_map.2 ⟨f,(List.dropWhile_sublist _).subset hf,rfl⟩
 rcases List.mem_cons.1 hf with rfl | hf
 · exact tw_lt ha
 exact p3 a ha f hf
structure RTX (r:R3) (P:List (List UInt8)):Prop where
 sort:SortE r.E
 has:∀ i,i∈r.ids↔i∈P.map fpOf
 val:∀ e∈r.E,fpOf e.bs=e.id/\IsText e.bs
theorem RTX.put {r r':R3} {P:List (List UInt8)} (h:RTX r P) {bs:List UInt8} (ht:IsText bs) {d:BD} (he:r'.E=putE r.E ⟨fpOf bs,d,bs,true⟩) (hn:hasAt r.E (fpOf bs)=false):RTX r' (P++[bs]):=by
 have hni:fpOf bs ∉ r.ids:=fun hm=>by
  rw [(hasAt_iff h.sort _).2 hm] at hn;cases hn
 refine ⟨?_,fun i=>?_,fun e hm=>?_⟩
 · rw [he];exact putE_sort h.sort hni
 · show i∈r'.E.map (·.id)↔_;rw [he];have hh:=h.has i;simp only [zD,zC,List.map_nil,zE,zF, <- hh,List.mem_map];constructor
   · rintro ⟨f,hf,rfl⟩;rcases putE_mem.1 hf with rfl | hf
     · exact .inr rfl
     exact .inl ⟨f,hf,rfl⟩
   rintro (⟨f,hf,rfl⟩ | rfl)
   · exact ⟨f,putE_mem.2 (.inr hf),rfl⟩
   exact ⟨_,putE_mem.2 (.inl rfl),rfl⟩
 rw [he] at hm;rcases putE_mem.1 hm with rfl | hm
 · exact ⟨rfl,ht⟩
 exact h.val e hm
theorem RTX.more {r:R3} {P:List (List UInt8)} (h:RTX r P) {bs:List UInt8} (hn:hasAt r.E (fpOf bs)=true):RTX r (P++[bs]):=by
 have hm:=(hasAt_iff h.sort _).1 hn;refine ⟨h.sort,fun i=>?_,h.val⟩;have hh:=h.has i;simp only [zD,zC,List.map_nil,zE,zF, <- hh];constructor
 · exact .inl
 rintro (h1 | rfl)
 · exact h1
 exact hm
theorem sorted_uniq:∀ {a b:List ID},a.Pairwise (fun x y=>ltID x y=true)->b.Pairwise (fun x y=>ltID x y=true)->(∀ i,i∈a↔i∈b)->a=b
 | [],[],_,_,_=>rfl
 | [],y::b,_,_,h=>absurd ((h y).2 (zB ..)) (by simp)
 | x::a,[],_,_,h=>absurd ((h x).1 (zB ..)) (by simp)
 | x::a,y::b,ha,hb,h=>by
  obtain ⟨a1,a2⟩:=List.pairwise_cons.1 ha;obtain ⟨b1,b2⟩:=List.pairwise_cons.1 hb
  have exy:x=y:=by
   rcases List.mem_cons.1 ((h x).1 (zB ..)) with e | hx
   · exact e
   rcases List.mem_cons.1 ((h y).2 (zB ..)) with e | hy
   · exact e.symm
   have:=ltI_asym (b1 x hx);rw [a1 y hy] at this;cases this
  subst exy
  have:a=b:=sorted_uniq a2 b2 (fun i=>⟨fun hi=>by
   rcases List.mem_cons.1 ((h i).1 (zA _ hi)) with e | h1
   · have:=a1 i hi;rw [e,ltI_irr] at this;cases this
   · exact h1,fun hi=>by
   rcases List.mem_cons.1 ((h i).2 (zA _ hi)) with e | h1
   · have:=b1 i hi;rw [e,ltI_irr] at this;cases this
   exact h1⟩)
  rw [this]
theorem strict_of_sorted {a:List ID} (hs:SortedI a) (hn:a.Nodup):a.Pairwise (fun x y=>ltID x y=true):=by
 refine (hs.and hn).imp (fun h=>?_);exact ltI_tri h.1 (fun e=>h.2 e.symm)
end
end Go.Proofs.YteabgcollokgjaaGreatDoor
