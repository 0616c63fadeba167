/- Contracts of the walk, part 17. -/
import Derived.Sort.LotA
import Derived.Sort.WalkA
import Derived.Sort.WalkA6
import Derived.Sort.AssemblyPlain
import Derived.BigRegion
import Derived.Deep.Cut
import Derived.Test.YtmiknfneeipkeaaGreatS10
import Derived.Test.YtmiknfneeipkeaaGreatS16
open Go.Lib (hid)
namespace Go.Proofs.YtmiknfneeipkeaaGreat
open Go.RowKit Go.MapKept Go.ChangeMaps Go.Shelf Go.Sort
abbrev MP:=MR×Man
def keyM (m:Man):ID:=wholeP m.ids
def cnOf (p:MP):CN:=(keyM p.2,p.1)
def OneM (ms:List Man):Prop:=∀ a∈ms,∀ b∈ms,keyM a=keyM b->a.ids=b.ids
def ConM (ms ys:List Man):Prop:=ys.Pairwise (fun a b=>ltID (keyM a) (keyM b)=true)/\∀ m,m∈ys↔m∈ms
theorem conM_uniq {ms ys zs:List Man} (h:ConM ms ys) (h':ConM ms zs):ys=zs:=by
 have key:∀ {a b:List Man},a.Pairwise (fun x y=>ltID (keyM x) (keyM y)=true)->b.Pairwise (fun x y=>ltID (keyM x) (keyM y)=true)->(∀ m,m∈a↔m∈b)->a=b:=by
  intro a;induction a with
  | nil=>
   intro b _ _ h;cases b with
   | nil=>rfl
   | cons x b=>exact absurd ((h x).2 (.head _)) (by simp)
  | cons x a ih=>
   intro b ha hb h;cases b with
   | nil=>exact absurd ((h x).1 (.head _)) (by simp)
   | cons y b=>
    obtain ⟨a1,a2⟩:=List.pairwise_cons.1 ha;obtain ⟨b1,b2⟩:=List.pairwise_cons.1 hb
    have hxy:x=y:=by
     rcases List.mem_cons.1 ((h x).1 (.head _)) with e | hx
     · exact e
     rcases List.mem_cons.1 ((h y).2 (.head _)) with e | hy
     · exact e.symm
     have h1:=b1 x hx;have h2:=a1 y hy;have:=swoID.trans (keyM x) (keyM y) (keyM x) (by rw [lt_cmpID];exact h2) (by rw [lt_cmpID];exact h1);rw [swoID.irrefl] at this;cases this
    subst hxy
    have hn:∀ (l:List Man),(∀ m∈l,ltID (keyM x) (keyM m)=true)->x ∉ l:=fun l hl hx=>by
     have:=hl x hx;rw [<- lt_cmpID,swoID.irrefl] at this;cases this
    rw [ih a2 b2 (fun m=>?_)];constructor
    · intro hm;rcases List.mem_cons.1 ((h m).1 (List.mem_cons_of_mem _ hm)) with e | h1
      · exact absurd (e ▸ hm) (hn a a1)
      exact h1
    intro hm;rcases List.mem_cons.1 ((h m).2 (List.mem_cons_of_mem _ hm)) with e | h1
    · exact absurd (e ▸ hm) (hn b b1)
    exact h1
 exact key h.1 h'.1 (fun m=>(h.2 m).trans (h'.2 m).symm)
theorem snocInd {α:Type} {P:List α->Prop} (h0:P []) (h1:∀ l a,P l->P (l++[a])) (l:List α):P l:=by
 have:∀ (n:Nat) (l:List α),l.length=n->P l:=by
  intro n;induction n with
  | zero=>intro l hl;rw [List.eq_nil_of_length_eq_zero hl];exact h0
  | succ n ih=>
   intro l hl;rcases List.eq_nil_or_concat l with rfl | ⟨l',a,rfl⟩
   · exact h0
   rw [List.concat_eq_append] at *; exact h1 _ _ (ih l' (by simpa using hl))
 exact this _ l rfl
def ddStep (acc:List MP) (p:MP):List MP:=if (acc.getLast?.map fun q=>keyM q.2)=some (keyM p.2) then acc else acc++[p]
def ddM (l:List MP):List MP:=l.foldl ddStep []
theorem ddM_snoc (l:List MP) (p:MP):ddM (l++[p])=ddStep (ddM l) p:=by simp [ddM]
theorem ddM_nil:ddM []=[]:=rfl
theorem ddM_len (l:List MP):(ddM l).length<=l.length:=by
 refine snocInd (P:=fun l=>(ddM l).length<=l.length) (by simp [ddM_nil]) (fun l p ih=>?_) l;rw [ddM_snoc,ddStep];split
 · simp;omega
 simp;omega
theorem ddM_sub (l:List MP):∀ p∈ddM l,p∈l:=by
 refine snocInd (P:=fun l=>∀ p∈ddM l,p∈l) (fun p hp=>by cases hp) (fun l p ih=>?_) l;intro q hq;rw [ddM_snoc,ddStep] at hq;split at hq
 · exact List.mem_append_left _ (ih q hq)
 rcases List.mem_append.1 hq with h | h
 · exact List.mem_append_left _ (ih q h)
 exact List.mem_append_right _ h
theorem ddM_key (l:List MP) (p:MP):((ddM (l++[p])).getLast?.map fun q=>keyM q.2)=some (keyM p.2):=by
 rw [ddM_snoc,ddStep];split
 · assumption
 simp
theorem ddM_mem (l:List MP):∀ p∈l,∃ q∈ddM l,keyM q.2=keyM p.2:=by
 refine snocInd (P:=fun l=>∀ p∈l,∃ q∈ddM l,keyM q.2=keyM p.2) (fun p hp=>by cases hp) (fun l p ih=>?_) l;intro r hr;rcases List.mem_append.1 hr with h | h
 · obtain ⟨q,hq,e⟩:=ih r h;refine ⟨q,?_,e⟩;rw [ddM_snoc,ddStep];split
   · exact hq
   exact List.mem_append_left _ hq
 rw [List.mem_singleton.1 h];have hk:=ddM_key l p;cases hl:(ddM (l++[p])).getLast? with
 | none=>
  rw [hl] at hk;cases hk
 | some q=>
  rw [hl] at hk;exact ⟨q,List.mem_of_getLast? hl,by simpa using hk⟩
theorem ltID_tot {x y:ID} (h1:ltID x y=false) (h2:ltID y x=false):x=y:=by
 simp only [ltID,decide_eq_false_iff_not] at h1 h2;exact Prod.ext (by omega) (by omega)
theorem ltID_irr (x:ID):ltID x x=false:=by simp [ltID]
theorem ltID_tr {x y z:ID} (h1:ltID x y=true) (h2:ltID y z=true):ltID x z=true:=by
 simp only [ltID,decide_eq_true_eq] at *; omega
def SortM (l:List MP):Prop:=l.Pairwise (fun a b=>ltID (keyM b.2) (keyM a.2)=false)
theorem ddM_asc (l:List MP):SortM l->(ddM l).Pairwise (fun a b=>ltID (keyM a.2) (keyM b.2)=true):=by
 refine snocInd (P:=fun l=>SortM l->(ddM l).Pairwise (fun a b=>ltID (keyM a.2) (keyM b.2)=true)) (fun _=> .nil) (fun l p ih hs=>?_) l;have hs1:=List.pairwise_append.1 hs;have ha:=ih hs1.1;rw [ddM_snoc,ddStep];split
 · exact ha
 rename_i hne
 refine List.pairwise_append.2 ⟨ha,List.pairwise_singleton _ _,fun q hq r hr=>?_⟩;rw [List.mem_singleton.1 hr];have h1:=hs1.2.2 q (ddM_sub l q hq) p (.head _);cases hlt:ltID (keyM q.2) (keyM p.2) with
 | true=>rfl
 | false=>
  have e:=ltID_tot hlt h1;exfalso
  have hnil:ddM l≠[]:=List.ne_nil_of_mem hq;have hd:=List.dropLast_concat_getLast hnil;have hlast:=List.getLast?_eq_some_getLast hnil;rw [hlast] at hne;have hne':keyM ((ddM l).getLast hnil).2≠keyM p.2:=fun h=>hne (by simp [h]);rw [<- hd] at hq;rcases List.mem_append.1 hq with h | h
  · rw [<- hd] at ha;have h2:=(List.pairwise_append.1 ha).2.2 q h _ (.head _);have h3:=hs1.2.2 _ (ddM_sub l _ (List.getLast_mem hnil)) p (.head _);rw [e] at h2;rw [h2] at h3;cases h3
  rw [List.mem_singleton.1 h] at e;exact hne' e
def GoodM (l:List MP):Prop:=∀ p∈l,∀ q∈ddM l,keyM q.2=keyM p.2->q.2.ids=p.2.ids
theorem good_same {l:List MP} {p q:MP} (hg:GoodM l) (hl:(ddM l).getLast? =some q) (hk:keyM q.2=keyM p.2) (hi:q.2.ids=p.2.ids):ddM (l++[p])=ddM l/\GoodM (l++[p]):=by
 have e:ddM (l++[p])=ddM l:=by rw [ddM_snoc,ddStep,if_pos (by rw [hl];simp [hk])]
 refine ⟨e,fun p' hp' q' hq' he=>?_⟩;rw [e] at hq';rcases List.mem_append.1 hp' with h | h
 · exact hg p' h q' hq' he
 rw [List.mem_singleton.1 h] at he |-; rw [<- hi];exact hg q (ddM_sub l q (List.mem_of_getLast? hl)) q' hq' (he.trans hk.symm)
theorem good_new {l:List MP} {p:MP} (hs:SortM (l++[p])) (hg:GoodM l) (hl:∀ q,(ddM l).getLast? =some q->keyM q.2≠keyM p.2):ddM (l++[p])=ddM l++[p]/\GoodM (l++[p]):=by
 have e:ddM (l++[p])=ddM l++[p]:=by
  rw [ddM_snoc,ddStep,if_neg];intro h;cases hq:(ddM l).getLast? with
  | none=>rw [hq] at h;cases h
  | some q=>
   rw [hq] at h;exact hl q hq (by simpa using h)
 have ha:=ddM_asc _ hs;rw [e] at ha
 have hne:∀ q∈ddM l,keyM q.2≠keyM p.2:=fun q hq h=>by
  have:=(List.pairwise_append.1 ha).2.2 q hq p (.head _);rw [h,ltID_irr] at this;cases this
 refine ⟨e,fun p' hp' q' hq' he=>?_⟩;rw [e] at hq';rcases List.mem_append.1 hp' with h | h<;>rcases List.mem_append.1 hq' with h' | h'
 · exact hg p' h q' h' he
 · rw [List.mem_singleton.1 h'] at he;obtain ⟨r,hr1,hr2⟩:=ddM_mem l p' h;exact absurd (hr2.trans he.symm) (hne r hr1)
 · rw [List.mem_singleton.1 h] at he;exact absurd he (hne q' h')
 rw [List.mem_singleton.1 h,List.mem_singleton.1 h']
theorem con_of_sorted {ms:List Man} {Z:List MP} (hv:∀ m∈ms,manE m=0) (hp:(Z.map (·.2)).Perm ms) (hs:SortM Z) (hg:GoodM Z):OneM ms/\ConM ms ((ddM Z).map (·.2)):=by
 have hin:∀ m∈ms,∃ p∈Z,p.2=m:=fun m hm=>by
  have:=hp.mem_iff.2 hm;obtain ⟨p,h1,h2⟩:=List.mem_map.1 this;exact ⟨p,h1,h2⟩
 have hout:∀ p∈Z,p.2∈ms:=fun p h=>hp.mem_iff.1 (List.mem_map.2 ⟨p,h,rfl⟩);have ha:=ddM_asc Z hs;refine ⟨fun a ha' b hb' he=>?_,List.pairwise_map.2 ha,fun m=>⟨fun hm=>?_,fun hm=>?_⟩⟩
 · obtain ⟨p,hp1,rfl⟩:=hin a ha';obtain ⟨q,hq1,rfl⟩:=hin b hb';obtain ⟨r,hr1,hr2⟩:=ddM_mem Z p hp1;rw [<- hg p hp1 r hr1 hr2, <- hg q hq1 r hr1 (hr2.trans he)]
 · obtain ⟨q,hq,rfl⟩:=List.mem_map.1 hm;exact hout q (ddM_sub Z q hq)
 obtain ⟨p,hp1,rfl⟩:=hin m hm;obtain ⟨r,hr1,hr2⟩:=ddM_mem Z p hp1;have he:=hg p hp1 r hr1 hr2;have h1:=(manE_zero (hv _ hm)).2.1;have h2:=(manE_zero (hv _ (hout r (ddM_sub Z r hr1)))).2.1;refine List.mem_map.2 ⟨r,hr1,?_⟩;show r.2=p.2;cases hr:r.2 with
 | mk rz ri=>
  cases hpp:p.2 with
  | mk pz pi=>
   rw [hr,hpp] at he;rw [hpp] at h1;rw [hr] at h2;simp only at he h1 h2;subst he;rw [h1,h2]
theorem perm_map_inv {α β:Type} (f:α->β) {l l':List β} (h:l.Perm l'):∀ P:List α,P.map f=l->∃ Z:List α,Z.Perm P/\Z.map f=l':=by
 induction h with
 | nil=>
  intro P hP;exact ⟨P,List.Perm.refl _,hP⟩
 | cons x _ ih=>
  intro P hP;cases P with
  | nil=>simp at hP
  | cons p P=>
   simp only [List.map_cons,List.cons.injEq] at hP;obtain ⟨Z,h1,h2⟩:=ih P hP.2;exact ⟨p::Z,h1.cons p,by simp [hP.1,h2]⟩
 | swap x y l=>
  intro P hP;match P,hP with
  | p::q::P,hP=>
   simp only [List.map_cons,List.cons.injEq] at hP;exact ⟨q::p::P,List.Perm.swap _ _ _,by simp [hP.1,hP.2.1,hP.2.2]⟩
 | trans _ _ ih1 ih2=>
  intro P hP;obtain ⟨Z,h1,h2⟩:=ih1 P hP;obtain ⟨Y,h3,h4⟩:=ih2 Z h2;exact ⟨Y,h3.trans h1,h4⟩
end Go.Proofs.YtmiknfneeipkeaaGreat
namespace Go.Proofs.YtmiknfneeipkeaaGreat
open Go.Sort
section
variable {α:Type} [Inhabited α]
def ixA (d:Array α) (f:Nat->Nat):Array α:=Array.ofFn (n:=d.size) (fun k=>d[f k.val]!)
theorem ixA_size (d:Array α) (f:Nat->Nat):(ixA d f).size=d.size:=by simp [ixA]
theorem ixA_get {d:Array α} {f:Nat->Nat} {k:Nat} (h:k<d.size):(ixA d f)[k]! =d[f k]! :=by
 rw [getElem!_pos (ixA d f) k (by rw [ixA_size];exact h)];simp [ixA]
theorem arr_ext {d d':Array α} (hs:d.size=d'.size) (h:∀ k,k<d.size->d[k]! =d'[k]!):d=d':=by
 refine Array.ext hs (fun i h1 h2=>?_);have:=h i h1;rwa [getElem!_pos d i h1,getElem!_pos d' i h2] at this
def rotI (a m b k:Nat):Nat:=if k<a∨b<=k then k else if k<a+(b-m) then k+(m-a) else k-(b-m)
def rotA (d:Array α) (a m b:Nat):Array α:=ixA d (rotI a m b)
def swI (x y n k:Nat):Nat:=if x<=k/\k<x+n then y+(k-x) else if y<=k/\k<y+n then x+(k-y) else k
def swR (d:Array α) (x y n:Nat):Array α:=ixA d (swI x y n)
theorem rotA_size (d:Array α) (a m b:Nat):(rotA d a m b).size=d.size:=ixA_size _ _
theorem swR_size (d:Array α) (x y n:Nat):(swR d x y n).size=d.size:=ixA_size _ _
theorem swR_zero (d:Array α) (x y:Nat):swR d x y 0=d:=by
 refine arr_ext (swR_size _ _ _ _) (fun k hk=>?_);rw [swR_size] at hk;rw [swR,ixA_get hk];congr 1
 unfold swI;rw [if_neg (by omega),if_neg (by omega)]
theorem swR_succ (d:Array α) {x y n:Nat} (h1:x+n<y) (h2:y+n<d.size):swp (swR d x y n) (x+n) (y+n)=swR d x y (n+1):=by
 refine arr_ext (by rw [size_swp,swR_size,swR_size]) (fun k hk=>?_);rw [size_swp,swR_size] at hk;rw [swp_get _ (by rw [swR_size];omega) (by rw [swR_size];omega)];unfold swR;rw [ixA_get (d:=d) (k:=x+n) (by omega),ixA_get (d:=d) (k:=y+n) (by omega),ixA_get hk,ixA_get hk];have e1:swI x y n (x+n)=x+n:=by unfold swI;rw [if_neg (by omega),if_neg (by omega)]
 have e2:swI x y n (y+n)=y+n:=by unfold swI;rw [if_neg (by omega),if_neg (by omega)]
 rw [e1,e2];by_cases k1:k=y+n
 · rw [if_pos k1];congr 1
   unfold swI;rw [if_neg (by omega),if_pos (by omega)];omega
 rw [if_neg k1];by_cases k2:k=x+n
 · rw [if_pos k2];congr 1
   unfold swI;rw [if_pos (by omega)];omega
 rw [if_neg k2];congr 1
 unfold swI;by_cases k3:x<=k/\k<x+n
 · rw [if_pos k3,if_pos (show x<=k/\k<x+(n+1) by omega)]
 rw [if_neg k3,if_neg (show ¬ (x<=k/\k<x+(n+1)) by omega)];by_cases k4:y<=k/\k<y+n
 · rw [if_pos k4,if_pos (show y<=k/\k<y+(n+1) by omega)]
 rw [if_neg k4,if_neg (show ¬ (y<=k/\k<y+(n+1)) by omega)]
theorem swR_perm (d:Array α) {a b x y:Nat} (ha:a<=x):∀ n,x+n<=y->y+n<=b->b<=d.size->PermIn a b d (swR d x y n):=by
 intro n;induction n with
 | zero=>intro _ _ _;rw [swR_zero];exact permIn_refl _ _ _
 | succ n ih=>
  intro h1 h2 h3;rw [<- swR_succ d (by omega) (by omega)];exact permIn_trans _ _ _ _ _ (ih (by omega) (by omega) h3) (swp_permIn _ _ _ _ _ (by omega) (by omega) (by omega) (by omega) (by rw [swR_size];exact h3))
theorem rotA_left (d:Array α) (a b:Nat) (h:a<=b):rotA d a a b=d:=by
 refine arr_ext (rotA_size _ _ _ _) (fun k hk=>?_);rw [rotA_size] at hk;rw [rotA,ixA_get hk];congr 1
 unfold rotI;split
 · rfl
 rw [if_pos (by omega)];omega
theorem rotA_right (d:Array α) (a b:Nat):rotA d a b b=d:=by
 refine arr_ext (rotA_size _ _ _ _) (fun k hk=>?_);rw [rotA_size] at hk;rw [rotA,ixA_get hk];congr 1
 unfold rotI;split
 · rfl
 rw [if_neg (by omega)];omega
theorem rot_step {d:Array α} {f g h:Nat->Nat} (hf:∀ k,k<d.size->g k<d.size) (e:∀ k,k<d.size->f (g k)=h k):ixA (ixA d f) g=ixA d h:=by
 refine arr_ext (by rw [ixA_size,ixA_size,ixA_size]) (fun k hk=>?_);rw [ixA_size,ixA_size] at hk;rw [ixA_get (by rw [ixA_size];exact hk),ixA_get (hf k hk),ixA_get hk,e k hk]
theorem rotI_lt {a m b k s:Nat} (h1:a<=m) (h2:m<=b) (h3:b<=s) (hk:k<s):rotI a m b k<s:=by
 unfold rotI;split
 · exact hk
 split<;>omega
theorem rot_big (d:Array α) {m i j:Nat} (hi:i<=m) (hji:j<i) (hs:m+j<=d.size):rotA (swR d (m-i) m j) (m-i+j) m (m+j)=rotA d (m-i) m (m+j):=by
 refine rot_step (fun k hk=>rotI_lt (by omega) (by omega) hs hk) (fun k hk=>?_);unfold rotI swI;by_cases h1:k<m-i∨m+j<=k
 · rw [if_pos (show k<m-i+j∨m+j<=k by omega),if_neg (by omega),if_neg (by omega),if_pos h1]
 rw [if_neg h1];by_cases h2:k<m-i+j
 · rw [if_pos (show k<m-i+j∨m+j<=k by omega),if_pos (by omega),if_pos (by omega)];omega
 rw [if_neg (show ¬ (k<m-i+j∨m+j<=k) by omega),if_neg (show ¬ k<m-i+(m+j-m) by omega)];by_cases h3:k<m-i+j+(m+j-m)
 · rw [if_pos h3,if_neg (by omega),if_pos (by omega)];omega
 rw [if_neg h3,if_neg (by omega),if_neg (by omega)]
theorem rot_small (d:Array α) {m i j:Nat} (hi:i<=m) (hij:i<j) (hs:m+j<=d.size):rotA (swR d (m-i) (m+j-i) i) (m-i) m (m+(j-i))=rotA d (m-i) m (m+j):=by
 refine rot_step (fun k hk=>rotI_lt (by omega) (by omega) (by omega) hk) (fun k hk=>?_);unfold rotI swI;by_cases h1:k<m-i∨m+j<=k
 · rw [if_pos (show k<m-i∨m+(j-i)<=k by omega),if_neg (by omega),if_neg (by omega),if_pos h1]
 rw [if_neg h1];by_cases h2:m+(j-i)<=k
 · rw [if_pos (show k<m-i∨m+(j-i)<=k by omega),if_neg (by omega),if_pos (by omega),if_neg (by omega)];omega
 rw [if_neg (show ¬ (k<m-i∨m+(j-i)<=k) by omega)];by_cases h3:k<m-i+(m+(j-i)-m)
 · rw [if_pos h3,if_pos (show k<m-i+(m+j-m) by omega)];by_cases h4:k+(m-(m-i))<m+j-i
   · rw [if_neg (by omega),if_neg (by omega)]
   rw [if_neg (by omega),if_pos (by omega)];omega
 rw [if_neg h3];by_cases h4:k<m-i+(m+j-m)
 · rw [if_pos h4,if_pos (by omega)];omega
 rw [if_neg h4,if_pos (by omega)];omega
theorem rot_same (d:Array α) {m i:Nat} (hi:i<=m) (hs:m+i<=d.size):swR d (m-i) m i=rotA d (m-i) m (m+i):=by
 refine arr_ext (by rw [swR_size,rotA_size]) (fun k hk=>?_);rw [swR_size] at hk;rw [swR,rotA,ixA_get hk,ixA_get hk];congr 1
 unfold rotI swI;by_cases h1:k<m-i∨m+i<=k
 · rw [if_neg (by omega),if_neg (by omega),if_pos h1]
 rw [if_neg h1];by_cases h2:k<m
 · rw [if_pos (by omega),if_pos (by omega)];omega
 rw [if_neg (by omega),if_pos (by omega),if_neg (by omega)];omega
theorem rotA_perm:∀ (n:Nat) (d:Array α) (A B m i j:Nat),i+j<=n->i<=m->A<=m-i->m+j<=B->B<=d.size->PermIn A B d (rotA d (m-i) m (m+j)):=by
 intro n;induction n with
 | zero=>
  intro d A B m i j h hi _ _ _;obtain rfl:i=0:=by omega
  rw [Nat.sub_zero,rotA_left d m (m+j) (by omega)];exact permIn_refl _ _ _
 | succ n ih=>
  intro d A B m i j h hi hA hB hs;by_cases hi0:i=0
  · subst hi0;rw [Nat.sub_zero,rotA_left d m (m+j) (by omega)];exact permIn_refl _ _ _
  by_cases hj0:j=0
  · subst hj0;rw [Nat.add_zero,rotA_right];exact permIn_refl _ _ _
  rcases Nat.lt_trichotomy i j with hij | hij | hij
  · rw [<- rot_small d hi hij (by omega)];refine permIn_trans _ _ _ _ _ (swR_perm d (a:=A) (b:=B) (x:=m-i) (y:=m+j-i) (by omega) i (by omega) (by omega) hs) ?_;exact ih _ A B m i (j-i) (by omega) hi hA (by omega) (by rw [swR_size];exact hs)
  · subst hij;rw [<- rot_same d hi (by omega)];exact swR_perm d (a:=A) (b:=B) (x:=m-i) (y:=m) (by omega) i (by omega) (by omega) hs
  rw [<- rot_big d hi hij (by omega)];refine permIn_trans _ _ _ _ _ (swR_perm d (a:=A) (b:=B) (x:=m-i) (y:=m) (by omega) j (by omega) (by omega) hs) ?_;have:=ih (swR d (m-i) m j) A B m (i-j) j (by omega) (by omega) (by omega) hB (by rw [swR_size];exact hs);rwa [show m-(i-j)=m-i+j by omega] at this
theorem rotA_permIn (d:Array α) {A B a m b:Nat} (h1:a<=m) (h2:m<=b) (hA:A<=a) (hB:b<=B) (hs:B<=d.size):PermIn A B d (rotA d a m b):=by
 have:=rotA_perm _ d A B m (m-a) (b-m) (Nat.le_refl _) (by omega) (by omega) (by omega) hs;rwa [show m-(m-a)=a by omega,show m+(b-m)=b by omega] at this
theorem rot_one_right (d:Array α) {a k:Nat} (hk:a+1<=k) (hs:k<d.size):swp (rotA d a (a+1) k) (k-1) k=rotA d a (a+1) (k+1):=by
 refine arr_ext (by rw [size_swp,rotA_size,rotA_size]) (fun q hq=>?_);rw [size_swp,rotA_size] at hq;rw [swp_get _ (by rw [rotA_size];omega) (by rw [rotA_size];omega)];unfold rotA;rw [ixA_get (d:=d) (k:=k-1) (by omega),ixA_get (d:=d) (k:=k) hs,ixA_get hq,ixA_get hq];have e1:rotI a (a+1) k (k-1)=a:=by unfold rotI;rw [if_neg (by omega),if_neg (by omega)];omega
 have e2:rotI a (a+1) k k=k:=by unfold rotI;rw [if_pos (by omega)]
 rw [e1,e2];by_cases q1:q=k
 · rw [if_pos q1];congr 1
   unfold rotI;rw [if_neg (by omega),if_neg (by omega)];omega
 rw [if_neg q1];by_cases q2:q=k-1
 · rw [if_pos q2];congr 1
   unfold rotI;rw [if_neg (by omega),if_pos (by omega)];omega
 rw [if_neg q2];congr 1
 unfold rotI;by_cases q3:q<a∨k<=q
 · rw [if_pos q3,if_pos (by omega)]
 rw [if_neg q3,if_neg (show ¬ (q<a∨k+1<=q) by omega),if_pos (show q<a+(k-(a+1)) by omega),if_pos (show q<a+(k+1-(a+1)) by omega)]
theorem rot_one_left (d:Array α) {k m:Nat} (h0:0<k) (hk:k<=m) (hs:m<d.size):swp (rotA d k m (m+1)) k (k-1)=rotA d (k-1) m (m+1):=by
 refine arr_ext (by rw [size_swp,rotA_size,rotA_size]) (fun q hq=>?_);rw [size_swp,rotA_size] at hq;rw [swp_get _ (by rw [rotA_size];omega) (by rw [rotA_size];omega)];unfold rotA;rw [ixA_get (d:=d) (k:=k-1) (by omega),ixA_get (d:=d) (k:=k) (by omega),ixA_get hq,ixA_get hq];have e1:rotI k m (m+1) k=m:=by unfold rotI;rw [if_neg (by omega),if_pos (by omega)];omega
 have e2:rotI k m (m+1) (k-1)=k-1:=by unfold rotI;rw [if_pos (by omega)]
 rw [e1,e2];by_cases q1:q=k-1
 · rw [if_pos q1];congr 1
   unfold rotI;rw [if_neg (by omega),if_pos (by omega)];omega
 rw [if_neg q1];by_cases q2:q=k
 · rw [if_pos q2];congr 1
   unfold rotI;rw [if_neg (by omega),if_neg (by omega)];omega
 rw [if_neg q2];congr 1
 unfold rotI;by_cases q3:q<k∨m+1<=q
 · rw [if_pos q3,if_pos (by omega)]
 rw [if_neg q3,if_neg (show ¬ (q<k-1∨m+1<=q) by omega),if_neg (show ¬ q<k+(m+1-m) by omega),if_neg (show ¬ q<k-1+(m+1-m) by omega)]
variable {lt:α->α->Bool}
def Cross (lt:α->α->Bool) (a m b:Nat) (d:Array α):Prop:=∀ x y,a<=x->x<m->m<=y->y<b->lt d[y]! d[x]! =false
theorem sorted_join {a m b:Nat} {d:Array α} (h1:SortedIn lt a m d) (h2:SortedIn lt m b d) (h3:Cross lt a m b d):SortedIn lt a b d:=by
 intro i j hi hij hj;by_cases c1:j<m
 · exact h1 i j hi hij c1
 by_cases c2:m<=i
 · exact h2 i j c2 hij hj
 exact h3 i j hi (by omega) (by omega) hj
theorem cross_left {a m b:Nat} {d d':Array α} (hp:PermIn a m d d') (hm:m<=d.size) (h:Cross lt a m b d):Cross lt a m b d':=by
 intro x y hx hxm hy hyb;have e:d'[y]! =d[y]! :=hp.2.1 y (.inr hy);rw [e];exact permIn_all d d' a m (fun v=>lt d[y]! v=false) hm hp (fun i h1 h2=>h i y h1 h2 hy hyb) x hx hxm
theorem cross_right {a m b:Nat} {d d':Array α} (hp:PermIn m b d d') (hb:b<=d.size) (h:Cross lt a m b d):Cross lt a m b d':=by
 intro x y hx hxm hy hyb;have e:d'[x]! =d[x]! :=hp.2.1 x (.inl hxm);rw [e];exact permIn_all d d' m b (fun v=>lt v d[x]! =false) hb hp (fun i h1 h2=>h x i hx hxm h1 h2) y hy hyb
theorem sorted_same {a b:Nat} {d d':Array α} (h:SortedIn lt a b d) (he:∀ i,a<=i->i<b->d'[i]! =d[i]!):SortedIn lt a b d':=by
 intro i j hi hij hj;rw [he i hi (by omega),he j (by omega) hj];exact h i j hi hij hj
theorem split_all {d:Array α} {a s m e b:Nat} (hs1:SortedIn lt a m d) (hs2:SortedIn lt m b d) (h1:a<=s) (h2:s<=m) (h3:m<=e) (h4:e<=b) (hb:b<=d.size)
 (H1:∀ x y,a<=x->x<s->e<=y->y<b->lt d[y]! d[x]! =false) (H2:∀ x y,m<=x->x<e->s<=y->y<m->lt d[y]! d[x]! =false):
 SortedIn lt a s (rotA d s m e)/\SortedIn lt s (s+(e-m)) (rotA d s m e)/\SortedIn lt (s+(e-m)) e (rotA d s m e)/\SortedIn lt e b (rotA d s m e)/\Cross lt a (s+(e-m)) b (rotA d s m e):=by
 have g1:∀ i,i<s->(rotA d s m e)[i]! =d[i]! :=fun i hi=>by
  rw [rotA,ixA_get (by omega),rotI,if_pos (by omega)]
 have g2:∀ i,s<=i->i<s+(e-m)->(rotA d s m e)[i]! =d[i+(m-s)]! :=fun i h5 h6=>by
  rw [rotA,ixA_get (by omega),rotI,if_neg (by omega),if_pos (by omega)]
 have g3:∀ i,s+(e-m)<=i->i<e->(rotA d s m e)[i]! =d[i-(e-m)]! :=fun i h5 h6=>by
  rw [rotA,ixA_get (by omega),rotI,if_neg (by omega),if_neg (by omega)]
 have g4:∀ i,e<=i->i<b->(rotA d s m e)[i]! =d[i]! :=fun i h5 h6=>by
  rw [rotA,ixA_get (by omega),rotI,if_pos (by omega)]
 refine ⟨fun i j hi hij hj=>?_,fun i j hi hij hj=>?_,fun i j hi hij hj=>?_,fun i j hi hij hj=>?_,fun x y hx hxm hy hyb=>?_⟩
 · rw [g1 i (by omega),g1 j hj];exact hs1 i j hi hij (by omega)
 · rw [g2 i hi (by omega),g2 j (by omega) hj];exact hs2 _ _ (by omega) (by omega) (by omega)
 · rw [g3 i hi (by omega),g3 j (by omega) hj];exact hs1 _ _ (by omega) (by omega) (by omega)
 · rw [g4 i hi (by omega),g4 j (by omega) hj];exact hs2 i j (by omega) hij hj
 by_cases c1:x<s
 · rw [g1 x c1];by_cases c2:y<e
   · rw [g3 y hy c2];exact hs1 _ _ hx (by omega) (by omega)
   rw [g4 y (by omega) hyb];exact H1 x y hx c1 (by omega) hyb
 rw [g2 x (by omega) hxm];by_cases c2:y<e
 · rw [g3 y hy c2];exact H2 _ _ (by omega) (by omega) (by omega) (by omega)
 rw [g4 y (by omega) hyb];exact hs2 _ _ (by omega) (by omega) (by omega)
theorem symm_cut (hS:SWO lt) {d:Array α} {a m b s0 r0 s mid:Nat} (hs1:SortedIn lt a m d) (hs2:SortedIn lt m b d) (ham:a<m) (hmb:m<b) (hmid:mid=(a+b) / 2)
 (hc:(mid<m/\s0=mid+m-b/\r0=mid)∨(m<=mid/\s0=a/\r0=m)) (hs0:s0<=s) (hsr:s<=r0)
 (hQ:s0<s->lt d[mid+m-1-(s-1)]! d[s-1]! =false) (hN:s<r0->lt d[mid+m-1-s]! d[s]! =true):
 a<=s/\s<=m/\m<=mid+m-s/\mid+m-s<=b/\s+(mid+m-s-m)=mid/\s<=mid/\(∀ x y,a<=x->x<s->mid+m-s<=y->y<b->lt d[y]! d[x]! =false)/\(∀ x y,m<=x->x<mid+m-s->s<=y->y<m->lt d[y]! d[x]! =false):=by
 have b1:a<=s/\s<=m/\s<=mid/\mid+m-s<=b:=by omega
 have le1:∀ x y,a<=x->x<=y->y<m->lt d[y]! d[x]! =false:=fun x y h1 h2 h3=>by
  rcases Nat.eq_or_lt_of_le h2 with rfl | h
  · exact hS.irrefl _
  exact hs1 x y h1 h h3
 have le2:∀ x y,m<=x->x<=y->y<b->lt d[y]! d[x]! =false:=fun x y h1 h2 h3=>by
  rcases Nat.eq_or_lt_of_le h2 with rfl | h
  · exact hS.irrefl _
  exact hs2 x y h1 h h3
 refine ⟨b1.1,b1.2.1,by omega,b1.2.2.2,by omega,b1.2.2.1,fun x y h1 h2 h3 h4=>?_,fun x y h1 h2 h3 h4=>?_⟩
 · by_cases c:s0<s
   · have q:=hQ c;rw [show mid+m-1-(s-1)=mid+m-s by omega] at q;have e1:=le1 x (s-1) h1 (by omega) (by omega);have e2:=le2 (mid+m-s) y (by omega) h3 h4;exact hS.ntrans _ _ _ e2 (hS.ntrans _ _ _ q e1)
   omega
 by_cases c:s<r0
 · have q:=hN c;have e1:=le2 x (mid+m-1-s) h1 (by omega) (by omega);have e2:=le1 s y (by omega) h3 h4;cases hc:lt d[y]! d[x]! with
   | false=>rfl
   | true=>
    exfalso
    cases hz:lt d[y]! d[s]! with
    | true=>rw [e2] at hz;cases hz
    | false=>
     -- d[e-1]<d[s]<=d[y]<d[x]<=d[e-1]
     have f1:lt d[mid+m-1-s]! d[x]! =true:=by
      cases hw:lt d[mid+m-1-s]! d[y]! with
      | true=>exact hS.trans _ _ _ hw hc
      | false=>
       have:=hS.ntrans _ _ _ hw hz;rw [q] at this;cases this
     rw [e1] at f1;cases f1
 omega
theorem ins_right (hS:SWO lt) {d:Array α} {a b i:Nat} (hs:SortedIn lt (a+1) b d) (h1:a+1<=i) (h2:i<=b) (hb:b<=d.size) (hi:a+1<i->lt d[i-1]! d[a]! =true) (hj:i<b->lt d[i]! d[a]! =false):SortedIn lt a b (rotA d a (a+1) i):=by
 have g2:∀ q,a<=q->q<i-1->(rotA d a (a+1) i)[q]! =d[q+1]! :=fun q h5 h6=>by
  rw [rotA,ixA_get (by omega),rotI,if_neg (by omega),if_pos (by omega),show a+1-a=1 by omega]
 have g3:(rotA d a (a+1) i)[i-1]! =d[a]! :=by
  rw [rotA,ixA_get (by omega),rotI,if_neg (by omega),if_neg (by omega)];congr 1
  omega
 have g4:∀ q,i<=q->q<b->(rotA d a (a+1) i)[q]! =d[q]! :=fun q h5 h6=>by
  rw [rotA,ixA_get (by omega),rotI,if_pos (by omega)]
 have low:∀ x,a+1<=x->x<i->lt d[a]! d[x]! =false:=fun x h3 h4=>by
  have q:=hi (by omega);cases hc:lt d[a]! d[x]! with
  | false=>rfl
  | true=>
   have:=hS.trans _ _ _ q hc;rcases Nat.eq_or_lt_of_le (show x<=i-1 by omega) with e | h
   · rw [<- e,hS.irrefl] at this;cases this
   rw [hs x (i-1) h3 h (by omega)] at this;cases this
 have high:∀ y,i<=y->y<b->lt d[y]! d[a]! =false:=fun y h3 h4=>by
  have q:=hj (by omega);rcases Nat.eq_or_lt_of_le h3 with e | h
  · rw [<- e];exact q
  exact hS.ntrans _ _ _ (hs i y (by omega) h h4) q
 intro p q hp hpq hq;by_cases c1:q<i-1
 · rw [g2 p hp (by omega),g2 q (by omega) c1];exact hs _ _ (by omega) (by omega) (by omega)
 by_cases c2:q=i-1
 · subst c2;rw [g3,g2 p hp hpq];exact low _ (by omega) (by omega)
 rw [g4 q (by omega) hq];by_cases c3:p<i-1
 · rw [g2 p hp c3];exact hs _ _ (by omega) (by omega) hq
 by_cases c4:p=i-1
 · subst c4;rw [g3];exact high q (by omega) hq
 rw [g4 p (by omega) (by omega)];exact hs _ _ (by omega) hpq hq
theorem ins_left (hS:SWO lt) {d:Array α} {a m i:Nat} (hs:SortedIn lt a m d) (h1:a<=i) (h2:i<=m) (hb:m<d.size) (hi:a<i->lt d[m]! d[i-1]! =false) (hj:i<m->lt d[m]! d[i]! =true):SortedIn lt a (m+1) (rotA d i m (m+1)):=by
 have g1:∀ q,q<i->(rotA d i m (m+1))[q]! =d[q]! :=fun q hq=>by
  rw [rotA,ixA_get (by omega),rotI,if_pos (by omega)]
 have g2:(rotA d i m (m+1))[i]! =d[m]! :=by
  rw [rotA,ixA_get (by omega),rotI,if_neg (by omega),if_pos (by omega)];congr 1
  omega
 have g3:∀ q,i<q->q<m+1->(rotA d i m (m+1))[q]! =d[q-1]! :=fun q h5 h6=>by
  rw [rotA,ixA_get (by omega),rotI,if_neg (by omega),if_neg (by omega),show m+1-m=1 by omega]
 have low:∀ x,a<=x->x<i->lt d[m]! d[x]! =false:=fun x h3 h4=>by
  have q:=hi (by omega);rcases Nat.eq_or_lt_of_le (show x<=i-1 by omega) with e | h
  · rw [e];exact q
  exact hS.ntrans _ _ _ q (hs x (i-1) h3 h (by omega))
 have high:∀ y,i<=y->y<m->lt d[y]! d[m]! =false:=fun y h3 h4=>by
  have q:=hj (by omega);cases hc:lt d[y]! d[m]! with
  | false=>rfl
  | true=>
   have:=hS.trans _ _ _ hc q;rcases Nat.eq_or_lt_of_le h3 with e | h
   · rw [<- e,hS.irrefl] at this;cases this
   rw [hs i y h1 h h4] at this;cases this
 intro p q hp hpq hq;by_cases c1:q<i
 · rw [g1 p (by omega),g1 q c1];exact hs _ _ hp hpq (by omega)
 by_cases c2:q=i
 · subst c2;rw [g2,g1 p hpq];exact low p hp hpq
 rw [g3 q (by omega) hq];by_cases c3:p<i
 · rw [g1 p c3];exact hs _ _ hp (by omega) (by omega)
 by_cases c4:p=i
 · subst c4;rw [g2];exact high _ (by omega) (by omega)
 rw [g3 p (by omega) (by omega)];exact hs _ _ (by omega) (by omega) (by omega)
end
end Go.Proofs.YtmiknfneeipkeaaGreat
namespace Go.Proofs.YtmiknfneeipkeaaGreat
open Go.RowKit Go.Shelf Go.Sort
attribute [local go_sem] wext_cell
def RowC (w:World) (g S:Nat) (d:Array CN):Prop:=∃ cur,IsB w g 85 cur/\cur.size=S/\d.size*4<=S/\∀ j,j<d.size->cur[j*4]? =some (.int .u64 d[j]!.1.1)/\cur[j*4+1]? =some (.int .i64 d[j]!.1.2)/\cur[j*4+2]? =some (.int .i64 d[j]!.2.size)/\cur[j*4+3]? =some (.slice d[j]!.2.A d[j]!.2.len d[j]!.2.cap)
def put4 (w:World) (g k:Nat) (x:CN):World:=(((w.setCell ⟨g,k*4,none⟩ (.int .u64 x.1.1)).setCell ⟨g,k*4+1,none⟩ (.int .i64 x.1.2)).setCell ⟨g,k*4+2,none⟩ (.int .i64 x.2.size)).setCell ⟨g,k*4+3,none⟩ (.slice x.2.A x.2.len x.2.cap)
theorem set_get (d:Array CN) (k j:Nat) (x:CN) (hk:k<d.size):(d.setIfInBounds k x)[j]! =if k=j then x else d[j]! :=by
 simp only [getElem!_def,Array.getElem?_setIfInBounds];by_cases h:k=j
 · subst h;simp [hk]
 simp [h]
section
variable {w w':World} {g S:Nat} {d:Array CN}
theorem RowC.on (h:RowC w g S d) (hb:Below w.heap.size w w'):RowC w' g S d:=by
 obtain ⟨cur,h1,h2⟩:=h;exact ⟨cur,h1.on hb,h2⟩
theorem RowC.at (h:RowC w g S d) {j:Nat} (hj:j<d.size) {x:CN} (hx:d[j]! =x):w.cell? ⟨g,j*4,none⟩=some (.int .u64 x.1.1)/\w.cell? ⟨g,j*4+1,none⟩=some (.int .i64 x.1.2)/\w.cell? ⟨g,j*4+2,none⟩=some (.int .i64 x.2.size)/\w.cell? ⟨g,j*4+3,none⟩=some (.slice x.2.A x.2.len x.2.cap):=by
 obtain ⟨cur,h1,_,_,h3⟩:=h;subst hx;obtain ⟨c0,c1,c2,c3⟩:=h3 j hj;exact ⟨(h1.cell _).trans c0,(h1.cell _).trans c1,(h1.cell _).trans c2,(h1.cell _).trans c3⟩
theorem RowC.fz (h:RowC w g S d) (o:Nat):w.frozen? ⟨g,o,none⟩=false:=by
 obtain ⟨cur,h1,_⟩:=h;exact h1.frozen _
theorem RowC.lt (h:RowC w g S d):g<w.heap.size:=by
 obtain ⟨cur,h1,_⟩:=h;exact h1.lt
theorem RowC.put (h:RowC w g S d) (k:Nat) (hk:k<d.size) (x:CN):RowC (put4 w g k x) g S (d.setIfInBounds k x):=by
 obtain ⟨cur,h1,h2,h4,h3⟩:=h;refine ⟨_,(((h1.set_ (k*4) (.int .u64 x.1.1)).set_ (k*4+1) (.int .i64 x.1.2)).set_ (k*4+2) (.int .i64 x.2.size)).set_ (k*4+3) (.slice x.2.A x.2.len x.2.cap),by simpa using h2,by simpa using h4,fun j hj=>?_⟩;rw [Array.size_setIfInBounds] at hj;rw [set_get d k j x hk];by_cases e:k=j
 · subst e;rw [if_pos rfl];refine ⟨?_,?_,?_,?_⟩
   · rw [Array.getElem?_setIfInBounds_ne (by omega),Array.getElem?_setIfInBounds_ne (by omega),Array.getElem?_setIfInBounds_ne (by omega),Array.getElem?_setIfInBounds_self_of_lt (by omega)]
   · rw [Array.getElem?_setIfInBounds_ne (by omega),Array.getElem?_setIfInBounds_ne (by omega),Array.getElem?_setIfInBounds_self_of_lt (by simp;omega)]
   · rw [Array.getElem?_setIfInBounds_ne (by omega),Array.getElem?_setIfInBounds_self_of_lt (by simp;omega)]
   rw [Array.getElem?_setIfInBounds_self_of_lt (by simp;omega)]
 rw [if_neg e];obtain ⟨c0,c1,c2,c3⟩:=h3 j hj;refine ⟨?_,?_,?_,?_⟩
 · rw [Array.getElem?_setIfInBounds_ne (by omega),Array.getElem?_setIfInBounds_ne (by omega),Array.getElem?_setIfInBounds_ne (by omega),Array.getElem?_setIfInBounds_ne (by omega)];exact c0
 · rw [Array.getElem?_setIfInBounds_ne (by omega),Array.getElem?_setIfInBounds_ne (by omega),Array.getElem?_setIfInBounds_ne (by omega),Array.getElem?_setIfInBounds_ne (by omega)];exact c1
 · rw [Array.getElem?_setIfInBounds_ne (by omega),Array.getElem?_setIfInBounds_ne (by omega),Array.getElem?_setIfInBounds_ne (by omega),Array.getElem?_setIfInBounds_ne (by omega)];exact c2
 rw [Array.getElem?_setIfInBounds_ne (by omega),Array.getElem?_setIfInBounds_ne (by omega),Array.getElem?_setIfInBounds_ne (by omega),Array.getElem?_setIfInBounds_ne (by omega)];exact c3
theorem RowC.swp (h:RowC w g S d) {i j:Nat} (hi:i<d.size) (hj:j<d.size) {x y:CN} (hx:d[i]! =x) (hy:d[j]! =y):RowC (put4 (put4 w g i y) g j x) g S (swp d i j):=by
 unfold Sort.swp;rw [hx,hy];exact (h.put i hi y).put j (by simpa using hj) x
theorem g_put4 {a:World} (h:a.grownBy w (some g)) (k:Nat) (x:CN):a.grownBy (put4 w g k x) (some g):=
 g_set (p:=⟨g,k*4+3,none⟩) (g_set (p:=⟨g,k*4+2,none⟩) (g_set (p:=⟨g,k*4+1,none⟩) (g_set (p:=⟨g,k*4,none⟩) h (.inl rfl) _) (.inl rfl) _) (.inl rfl) _) (.inl rfl) _
end
theorem RowC.drew {w:World} {g S:Nat} {d:Array CN} (h:RowC w g S d):RowC w.drew g S d:=by
 obtain ⟨cur,h1,h2⟩:=h;exact ⟨cur,h1,h2⟩
theorem g_drew1 {a w:World} {row:Option Nat} (h:a.grownBy w row):a.grownBy w.drew row:=⟨h.os,h.tape,h.output,h.size,h.block⟩
abbrev ltC:CN->CN->Bool:=ltOf cmpCN
set_option maxHeartbeats 1000000 in
theorem cmp85_any (x y:CN) (w:World):Calls Tryz.prog 85 #[.agg #[.int .u64 x.1.1,.int .i64 x.1.2,.int .i64 x.2.size,.slice x.2.A x.2.len x.2.cap],.agg #[.int .u64 y.1.1,.int .i64 y.1.2,.int .i64 y.2.size,.slice y.2.A y.2.len y.2.cap]] w (Gives (.int .i64 (cmpCN x y)) w):=by
 obtain ⟨⟨x1,x2⟩,⟨x3,x4,x5,x6⟩⟩:=x;obtain ⟨⟨y1,y2⟩,⟨y3,y4,y5,y6⟩⟩:=y;have HV:=hid (fun W=>acmp_any x1 x2 y1 y2 W);have HB:Hid (Below w.heap.size w ((w.alloc (.cells #[.int .u64 x1,.int .i64 x2,.int .i64 x3,.slice x4 x5 x6] 85)).alloc (.cells #[.int .u64 y1,.int .i64 y2,.int .i64 y3,.slice y4 y5 y6] 85))):=(bel1 w _).alloc (by simp) _;unfold cmpCN;generalize cmpID (x1,x2) (y1,y2)=r at HV |-; go_enter Tryz.func85,Tryz.ntmps85;go_wp2_with (go_at_call 55;(with_reducible refine (HV.out _).mono ?_);refine halt_ ?_)
 rintro e w2 ⟨rfl,hb2⟩;have H2:=hid (HB.out.trans (hb2.mono (by simp;omega)));clear hb2 HV HB;go_wp2_with fail
 go_ret;exact ⟨rfl,H2.out⟩
abbrev vC:Value:=.func (.func 85) #[] #[]
abbrev SorC (a b:Nat) (d:Array CN) (g S:Nat) (w:World) (e:Ending) (w':World):Prop:=
 e= .returned (.tuple #[])/\∃ d',PermIn a b d d'/\SortedIn ltC a b d'/\RowC w' g S d'/\w.grownBy w' (some g)
end Go.Proofs.YtmiknfneeipkeaaGreat
namespace Go.Proofs.YtmiknfneeipkeaaGreat
open Go.RowKit Go.Shelf Go.Sort
attribute [local go_sem] wext_cell
set_option maxRecDepth 100000 in
set_option maxHeartbeats 4000000 in
theorem swR_any (g S c x y n:Nat) (d:Array CN) (w:World) (h:RowC w g S d) (hxy:x+n<=y) (hy:y+n<=d.size) (hn:d.size<=1000000000) (fv:Value):
 Calls Tryz.prog 225 #[.slice (some ⟨g,0,none⟩) d.size c,.int .i64 x,.int .i64 y,.int .i64 n,fv] w (fun e w'=>e= .returned (.tuple #[])/\RowC w' g S (swR d x y n)/\w.grownBy w' (some g)):=by
 have H:=hid h;clear h;go_enter Tryz.func225,Tryz.ntmps225;go_wp2_with fail
 go_loopw [10] (fun v wr=>∃ k:Nat,k<=n/\v= .int .i64 (k:Int)/\RowC wr g S (swR d x y k)/\w.grownBy wr (some g)) (fun v _=>n-(intOf v).toNat)
 case atStart=>exact ⟨0,Nat.zero_le _,rfl,by rw [swR_zero];exact H.out,g_refl _ _⟩
 obtain ⟨k,hk,rfl,hr,hgr⟩:=hrel;have R0:=hid hr;have G0:=hid hgr;clear hr hgr H;by_cases hlt:k<n
 · obtain ⟨dk,HDK⟩:∃ z,Hid (swR d x y k=z):=⟨_,rfl⟩;have HSZ:Hid (dk.size=d.size):=by rw [Hid, <- HDK.out,swR_size]
   have HNX:Hid (swR d x y (k+1)=swp dk (x+k) (y+k)):=by rw [Hid, <- swR_succ d (by omega) (by omega),HDK.out]
   rw [HDK.out] at R0;obtain ⟨p,hp⟩:∃ z,dk[x+k]! =z:=⟨_,rfl⟩;obtain ⟨q,hq⟩:∃ z,dk[y+k]! =z:=⟨_,rfl⟩;obtain ⟨a0,a1,a2,a3⟩:=R0.out.at (j:=x+k) (by rw [HSZ.out];omega) hp;obtain ⟨b0,b1,b2,b3⟩:=R0.out.at (j:=y+k) (by rw [HSZ.out];omega) hq;have f0:=fun o=>R0.out.fz o;have HP:=hid hp;have HQ:=hid hq;have k1:(x:Int)+(k:Int)<(d.size:Int):=by omega
   have k2:(y:Int)+(k:Int)<(d.size:Int):=by omega
   clear hp hq;go_wp2_with fail
   go_region
   go_wp2_with fail
   go_roundw
   case rel=>
    refine ⟨k+1,by omega,by go_num,?_,?_⟩
    · rw [HNX.out];exact (R0.out.swp (by rw [HSZ.out];omega) (by rw [HSZ.out];omega) HP.out HQ.out).drew
    exact g_drew1 (g_put4 (g_put4 G0.out (x+k) q) (y+k) p)
   simp [intOf];omega
 obtain rfl:k=n:=by omega
 go_wp2_with fail
 go_end0;exact ⟨rfl,R0.out,G0.out⟩
end Go.Proofs.YtmiknfneeipkeaaGreat
namespace Go.Proofs.YtmiknfneeipkeaaGreat
open Go.RowKit Go.Shelf Go.Sort
attribute [local go_sem] wext_cell
set_option maxRecDepth 100000 in
set_option maxHeartbeats 4000000 in
theorem rot_any (g S c a m b:Nat) (d:Array CN) (w:World) (h:RowC w g S d) (ham:a<m) (hmb:m<b) (hb:b<=d.size) (hn:d.size<=1000000000) (fv:Value):
 Calls Tryz.prog 204 #[.slice (some ⟨g,0,none⟩) d.size c,.int .i64 a,.int .i64 m,.int .i64 b,fv] w (fun e w'=>e= .returned (.tuple #[])/\RowC w' g S (rotA d a m b)/\w.grownBy w' (some g)):=by
 have H:=hid h;clear h
 have sub:∀ p q:Nat,q<=p->p<=2000000000->IntKind.i64.wrap ((p:Int)-(q:Int))=((p-q:Nat):Int):=fun p q h1 h2=>by
  rw [show (p:Int)-(q:Int)=((p-q:Nat):Int) by omega];exact IntWalk.i64_in _ (by omega)
 have SUB:=hid sub;have hw0:=sub m a (by omega) (by omega);have hw1:=sub b m (by omega) (by omega);clear sub;go_enter Tryz.func204,Tryz.ntmps204;go_wp2_with fail
 go_loopw [10,11] (fun v10 v11 wr=>∃ (i j:Nat) (dk:Array CN),0<i/\0<j/\i<=m/\m+j<=d.size/\v10= .int .i64 (i:Int)/\v11= .int .i64 (j:Int)/\Hid (dk.size=d.size)/\Hid (rotA dk (m-i) m (m+j)=rotA d a m b)/\RowC wr g S dk/\w.grownBy wr (some g)) (fun v10 v11 _=>(intOf v10).toNat+(intOf v11).toNat)
 case atStart=>exact ⟨m-a,b-m,d,by omega,by omega,by omega,by omega,rfl,rfl,rfl,by rw [Hid,show m-(m-a)=a by omega,show m+(b-m)=b by omega],H.out,g_refl _ _⟩
 obtain ⟨i,j,dk,hi,hj,him,hmj,rfl,rfl,HSZ,HR,hr,hgr⟩:=hrel;have R0:=hid hr;have G0:=hid hgr;clear hr hgr hw0 hw1;have hw2:=SUB.out m i him (by omega);by_cases hij:i=j
 · subst hij;have hne:((i:Int) !=(i:Int))=false:=by simp
   have HC:=hid (swR_any g S c (m-i) m i dk wr R0.out (by omega) (by rw [HSZ.out];exact hmj) (by rw [HSZ.out];exact hn) fv);rw [HSZ.out] at HC;have HF:Hid (swR dk (m-i) m i=rotA d a m b):=by rw [Hid, <- HR.out,rot_same dk him (by rw [HSZ.out];exact hmj)]
   clear H;go_wp2_with (go_at_call 225;(with_reducible refine HC.out.mono ?_);refine halt_ ?_)
   rintro e w2 ⟨rfl,r2,g2⟩;have R2:=hid r2;have G2:=hid (g_trans G0.out g2);clear r2 g2 HC;go_wp2_with fail
   go_end0;exact ⟨rfl,by rw [<- HF.out];exact R2.out,G2.out⟩
 have hne:((i:Int) !=(j:Int))=true:=by rw [bne_iff_ne];omega
 by_cases hlt:j<i
 · have hgt:decide (i>j)=true:=decide_eq_true hlt;have hw3:=SUB.out i j (by omega) (by omega);have HC:=hid (swR_any g S c (m-i) m j dk wr R0.out (by omega) (by rw [HSZ.out];exact hmj) (by rw [HSZ.out];exact hn) fv);rw [HSZ.out] at HC
   have HF:Hid (rotA (swR dk (m-i) m j) (m-(i-j)) m (m+j)=rotA d a m b):=by
    rw [Hid, <- HR.out, <- rot_big dk him hlt (by rw [HSZ.out];exact hmj),show m-(i-j)=m-i+j by omega]
   clear H;go_wp2_with (go_at_call 225;(with_reducible refine HC.out.mono ?_);refine halt_ ?_)
   rintro e w2 ⟨rfl,r2,g2⟩;have R2:=hid r2;have G2:=hid (g_trans G0.out g2);clear r2 g2 HC;go_wp2_with fail
   go_roundw
   case rel=>exact ⟨i-j,j,_,by omega,hj,by omega,hmj,rfl,rfl,(by rw [Hid,swR_size];exact HSZ.out),HF.out,R2.out,G2.out⟩
   simp [intOf];omega
 have hgt:decide (i>j)=false:=decide_eq_false hlt;have hw3:=SUB.out j i (by omega) (by omega);obtain ⟨Z,HZ⟩:∃ Z,Hid (m+j=Z):=⟨_,rfl⟩;have hZ:=HZ.out
 have hw4:IntKind.i64.wrap ((m:Int)+(j:Int))=(Z:Int):=by
  rw [show (m:Int)+(j:Int)=(Z:Int) by omega];exact IntWalk.i64_in _ (by omega)
 have hw5:=SUB.out Z i (by omega) (by omega);have HC:=hid (swR_any g S c (m-i) (Z-i) i dk wr R0.out (by omega) (by rw [HSZ.out];omega) (by rw [HSZ.out];exact hn) fv);rw [HSZ.out] at HC;clear hZ
 have HF:Hid (rotA (swR dk (m-i) (Z-i) i) (m-i) m (m+(j-i))=rotA d a m b):=by
  rw [Hid, <- HZ.out, <- HR.out, <- rot_small dk him (by omega) (by rw [HSZ.out];exact hmj)]
 clear H;go_wp2_with (go_at_call 225;(with_reducible refine HC.out.mono ?_);refine halt_ ?_)
 rintro e w2 ⟨rfl,r2,g2⟩;have R2:=hid r2;have G2:=hid (g_trans G0.out g2);clear r2 g2 HC;go_wp2_with fail
 go_roundw
 case rel=>exact ⟨i,j-i,_,hi,by omega,him,by omega,rfl,rfl,(by rw [Hid,swR_size];exact HSZ.out),HF.out,R2.out,G2.out⟩
 simp [intOf];omega
end Go.Proofs.YtmiknfneeipkeaaGreat
