/- Q -/
import Derived.Test.YteabgcollokgjaaGreatDoorQH29
set_option linter.unusedSimpArgs false
set_option linter.unusedVariables false
set_option maxRecDepth 100000
set_option maxHeartbeats 32000000
open List renaming mem_append → zA
namespace Go.Proofs.YteabgcollokgjaaGreatDoor
section
open Go.RowKit Go.MapKept Go.ChangeMaps Go.Shelf Go.Sort
theorem ltI_trans {a b c:ID} (h1:ltID a b=true) (h2:ltID b c=true):ltID a c=true:=by
 simp only [ltID,decide_eq_true_eq] at *; omega
theorem ltI_irr (a:ID):ltID a a=false:=by simp [ltID]
theorem ltI_asym {a b:ID} (h1:ltID a b=true):ltID b a=false:=by
 simp only [ltID,decide_eq_true_eq,decide_eq_false_iff_not] at *; omega
theorem ltI_tri {a b:ID} (h1:ltID a b=false) (h2:a≠b):ltID b a=true:=by
 obtain ⟨a1,a2⟩:=a;obtain ⟨b1,b2⟩:=b;simp only [ltID,decide_eq_true_eq,decide_eq_false_iff_not] at *; have:¬ (a1=b1/\a2=b2):=fun h=>h2 (by rw [h.1,h.2]);omega
abbrev SortE (E:List RE):Prop:=E.Pairwise fun a b=>ltID a.id b.id=true
theorem atI_split (E:List RE) (i:ID):E.take (atI E i)=E.takeWhile (fun e=>ltID e.id i)/\E.drop (atI E i)=E.dropWhile (fun e=>ltID e.id i):=by
 have h:=List.takeWhile_append_dropWhile (p:=fun e:RE=>ltID e.id i) (l:=E);unfold atI;constructor
 · conv=>lhs;rw [<- h]
   rw [List.take_left'];rw [h]
 conv=>lhs;rw [<- h]
 rw [List.drop_left'];rw [h]
theorem tw_lt {E:List RE} {i:ID} {e:RE} (h:e∈E.takeWhile (fun e=>ltID e.id i)):ltID e.id i=true:=by
 induction E with
 | nil=>cases h
 | cons x E ih=>
  rw [List.takeWhile_cons] at h;split at h
  · rename_i hx
    rcases List.mem_cons.1 h with rfl | h
    · exact hx
    exact ih h
  cases h
theorem dw_ge {E:List RE} (hs:SortE E) {i:ID} {e:RE} (h:e∈E.dropWhile (fun e=>ltID e.id i)):ltID e.id i=false:=by
 induction E with
 | nil=>cases h
 | cons x E ih=>
  obtain ⟨h1,h2⟩:=List.pairwise_cons.1 hs;rw [List.dropWhile_cons] at h;split at h
  · exact ih h2 h
  rename_i hx
  have hx:ltID x.id i=false:=by simpa using hx
  rcases List.mem_cons.1 h with rfl | h
  · exact hx
  cases hc:ltID e.id i with
  | false=>rfl
  | true=>
   have:=ltI_trans (h1 e h) hc;rw [hx] at this;cases this
theorem hasAt_iff {E:List RE} (hs:SortE E) (i:ID):hasAt E i=true↔i∈E.map (·.id):=by
 obtain ⟨h1,h2⟩:=atI_split E i
 have hd:E[atI E i]? =(E.dropWhile (fun e=>ltID e.id i)).head? :=by
  rw [<- h2,List.head?_drop]
 unfold hasAt;rw [hd];constructor
 · intro h;split at h
   · rename_i e he
     have hm:e∈E:=(List.dropWhile_sublist _).subset (List.mem_of_head? he);exact List.mem_map.2 ⟨e,hm,of_decide_eq_true h⟩
   cases h
 intro h;obtain ⟨e,he,hi⟩:=List.mem_map.1 h
 have hin:e∈E.dropWhile (fun e=>ltID e.id i):=by
  rw [<- List.takeWhile_append_dropWhile (p:=fun e:RE=>ltID e.id i) (l:=E)] at he;rcases List.mem_append.1 he with he | he
  · have:=tw_lt he;rw [hi,ltI_irr] at this;cases this
  exact he
 cases hdw:E.dropWhile (fun e=>ltID e.id i) with
 | nil=>rw [hdw] at hin;cases hin
 | cons x D=>
  simp only [List.head?_cons];have hxi:ltID x.id i=false:=dw_ge hs (by rw [hdw];exact List.mem_cons_self ..);rw [decide_eq_true_eq];rw [hdw] at hin;rcases List.mem_cons.1 hin with rfl | hin
  · exact hi
  have hsd:SortE (x::D):=by rw [<- hdw];exact hs.sublist (List.dropWhile_sublist _)
  have:=(List.pairwise_cons.1 hsd).1 e hin;rw [hi] at this;rw [this] at hxi;cases hxi
def putE (E:List RE) (e:RE):List RE:=E.take (atI E e.id)++e::E.drop (atI E e.id)
theorem putE_mem {E:List RE} {e f:RE}:f∈putE E e↔f=e∨f∈E:=by
 unfold putE;have h:f∈E↔f∈E.take (atI E e.id)∨f∈E.drop (atI E e.id):=by rw [<- zA,List.take_append_drop]
 rw [h];simp only [zA,List.mem_cons];constructor
 · rintro (h | h | h)<;>simp [h]
 rintro (h | h | h)<;>simp [h]
theorem putE_sort {E:List RE} (hs:SortE E) {e:RE} (hn:e.id ∉ E.map (·.id)):SortE (putE E e):=by
 obtain ⟨h1,h2⟩:=atI_split E e.id;unfold putE;rw [h1,h2];have hs':=hs;rw [<- List.takeWhile_append_dropWhile (p:=fun f:RE=>ltID f.id e.id) (l:=E)] at hs';obtain ⟨p1,p2,p3⟩:=List.pairwise_append.1 hs';refine List.pairwise_append.2 ⟨p1,List.pairwise_cons.2 ⟨fun f hf=>?_,p2⟩,fun a ha f hf=>?_⟩
 · refine ltI_tri (dw_ge hs hf) (fun e'=>hn ?_);rw [<- e'];exact List.mem_map.2 ⟨f,(List.dropWhile_sublist _).subset hf,rfl⟩
 rcases List.mem_cons.1 hf with rfl | hf
 · exact tw_lt ha
 exact p3 a ha f hf
structure RTX (r:R3) (P:List (List UInt8)):Prop where
 sort:SortE r.E
 has:∀ i,i∈r.ids↔i∈P.map fpOf
 val:∀ e∈r.E,fpOf e.bs=e.id/\IsText e.bs
theorem RTX.put {r r':R3} {P:List (List UInt8)} (h:RTX r P) {bs:List UInt8} (ht:IsText bs) {d:BD} (he:r'.E=putE r.E ⟨fpOf bs,d,bs,true⟩) (hn:hasAt r.E (fpOf bs)=false):RTX r' (P++[bs]):=by
 have hni:fpOf bs ∉ r.ids:=fun hm=>by
  rw [(hasAt_iff h.sort _).2 hm] at hn;cases hn
 refine ⟨?_,fun i=>?_,fun e hm=>?_⟩
 · rw [he];exact putE_sort h.sort hni
 · show i∈r'.E.map (·.id)↔_;rw [he];have hh:=h.has i;simp only [List.map_append,List.map_cons,List.map_nil,zA,List.mem_singleton, <- hh,List.mem_map];constructor
   · rintro ⟨f,hf,rfl⟩;rcases putE_mem.1 hf with rfl | hf
     · exact .inr rfl
     exact .inl ⟨f,hf,rfl⟩
   rintro (⟨f,hf,rfl⟩ | rfl)
   · exact ⟨f,putE_mem.2 (.inr hf),rfl⟩
   exact ⟨_,putE_mem.2 (.inl rfl),rfl⟩
 rw [he] at hm;rcases putE_mem.1 hm with rfl | hm
 · exact ⟨rfl,ht⟩
 exact h.val e hm
theorem RTX.more {r:R3} {P:List (List UInt8)} (h:RTX r P) {bs:List UInt8} (hn:hasAt r.E (fpOf bs)=true):RTX r (P++[bs]):=by
 have hm:=(hasAt_iff h.sort _).1 hn;refine ⟨h.sort,fun i=>?_,h.val⟩;have hh:=h.has i;simp only [List.map_append,List.map_cons,List.map_nil,zA,List.mem_singleton, <- hh];constructor
 · exact .inl
 rintro (h1 | rfl)
 · exact h1
 exact hm
theorem RTX.len {r:R3} {P:List (List UInt8)} (h:RTX r P):r.E.length<=P.length:=by
 have hn:r.ids.Nodup:=List.pairwise_map.2 (h.sort.imp (fun hlt e=>by rw [e,ltI_irr] at hlt;cases hlt));have:=len_le_sub r.ids (P.map fpOf) hn (fun i hi=>(h.has i).1 hi);simpa [R3.ids] using this
theorem IsText.ok {bs:List UInt8} (h:IsText bs):okID (fpOf bs):=okID_fp bs (by have:=h.hi;omega)
end
end Go.Proofs.YteabgcollokgjaaGreatDoor
