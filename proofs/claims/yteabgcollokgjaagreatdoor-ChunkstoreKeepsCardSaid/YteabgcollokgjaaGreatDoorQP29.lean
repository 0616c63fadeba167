/- Q -/
import Derived.Test.YteabgcollokgjaaGreatDoorQP28
set_option linter.unusedSimpArgs false
set_option linter.unusedVariables false
set_option maxRecDepth 100000
set_option maxHeartbeats 32000000
open List renaming map_cons → zA,length_cons → zB,map_append → zC,mem_append → zD,mem_singleton → zE
namespace Go.Proofs.YteabgcollokgjaaGreatDoor
section
open Go.RowKit Go.MapKept Go.ChangeMaps Go.Shelf Go.Sort
def tbytes (L:List Int) (n:Nat) (k:Int):Nat->List UInt8
 | 0=>[]
 | c+1=>tbytes L n k c++[UInt8.ofNat (tnext L (n+c) k).toNat]
theorem tbytes_len (L:List Int) (n:Nat) (k:Int):∀ c,(tbytes L n k c).length=c
 | 0=>rfl
 | c+1=>by rw [tbytes,List.length_append,tbytes_len L n k c];rfl
theorem sb_const (w:World) (g:Nat) (hg:g=w.heap.size) (bs:List UInt8) (fr:Nat×Nat):SB (w.alloc (.cells (bs.map encU).toArray 5 fr)) (some ⟨g,0,none⟩) bs:=by
 subst hg;refine ⟨(fun e=>by cases e),fun ad e j u hu=>?_⟩;injection e with e;subst e;rw [lit_add,Nat.zero_add];have:(w.alloc (.cells (bs.map encU).toArray 5 fr)).heap[w.heap.size]? =some (.cells (bs.map encU).toArray 5 fr):=heap_alloc_new w _;rw [cell_of_row _ _ j _ _ _ this,List.getElem?_toArray];exact hu
theorem mk_slice (w:World) (n:Nat) (hn:n<=100000):∃ cs:Array Value,n<=cs.size/\(Instr.makeSlice 34 (.int .i64 0) (.int .i64 n)).run Tryz.prog w= .ok (.slice (some ⟨w.heap.size,0,none⟩) 0 n) (w.alloc (.cells cs 5)):=by
 obtain ⟨i0,hi,hz0,hz1,hz2⟩:=info_parts info5;have:=run_makeSlice (P:=Tryz.prog) w 34 5 i0 _ Tryz.underlying34 hi hz0 .i64 .i64 0 n (by omega) (by omega) (by rw [hz1];omega) (by rw [hz2];omega) (by omega);simp only [Int.toNat_zero,Int.toNat_natCast] at this;exact ⟨_,by rw [size_madeCells,hz1];omega,this⟩
section
variable {b:Nat} {w0 w w':World} {l:List Ob} {g:Nat} {A:Option Addr} {c:Nat} {L:List Int} {n:Nat}
theorem SW.newBuT {d:BD} {bs:List UInt8} (h:SW b w0 l w) (hb:Below w.heap.size w w') (hr:RB w' d bs) (hn:∀ g,blk d=some g->w.heap.size<=g):SW b w0 (bufOb d bs::l) w':=by
 have:=h.1.add (o':=bufOb d bs) hb hr (fun i hi=>⟨hn i hi,hr.lt hi⟩) (fun i hi=>hi.elim) (fun i hi=>hi.elim);exact ⟨this.1,h.2.trans this.2⟩
theorem SW.appB {d d':BD} {bs bs':List UInt8} (h:SW b w0 l w) (k:Nat) (hk:l[k]? =some (bufOb d bs)) (ha:AppB w d bs' d' w'):SW b w0 (l.set k (bufOb d' bs')) w':=⟨(h.1.app k hk ha).1,h.2.trans (h.1.app k hk ha).2⟩
theorem Bytes_x (h:SW b w0 l w) (kk:Nat) (hk:l[kk]? =some (tpOb g A c L n)) (m:Nat) (k:Int) (hm:m<=10000) (hk1:1<k) (hk2:k<=256) (hn:n+m<=1000000):
 Calls Tryz.prog 54 #[vPtr g,.int .i64 m,.int .i64 k] w (fun e w'=>∃ d,e= .returned (.slice d.A d.len d.cap)/\SW b w0 (bufOb d (tbytes L n k m)::l.set kk (tpOb g A c L (n+m))) w'):=by
 obtain ⟨cs,hcs,hmk⟩:=mk_slice w m (by omega);have hmx:max (m:Int) 0=m:=by omega
 have hkl:kk<l.length:=(List.getElem?_eq_some_iff.1 hk).1;have S0:Hid (SW b w0 (bufOb ⟨some ⟨w.heap.size,0,none⟩,0,m⟩ []::l) (w.alloc (.cells cs 5))):=h.newBuT ((Below.refl _ _).alloc (Nat.le_refl _) _) (new_bytes w cs _ _ _ _ rfl rfl (Nat.zero_le _) hcs (by simp)) (fun g hg=>by simp [blk] at hg;omega);have HK:=Lib.hid hk;clear h hk;go_enter Tryz.func54,Tryz.ntmps54;go_wp2_with fail
 go_loopw [7,8] (fun v i wr=>∃ (j:Nat) (d:BD),j<=m/\i= .int .i64 j/\v= .slice d.A d.len d.cap/\SW b w0 (bufOb d (tbytes L n k j)::l.set kk (tpOb g A c L (n+j))) wr) (fun _ i _=>m-(intOf i).toNat)
 case atStart=>
  refine ⟨0,⟨some ⟨w.heap.size,0,none⟩,0,m⟩,by omega,rfl,rfl,?_⟩;have e:l.set kk (tpOb g A c L (n+0))=l:=set_self l kk _ HK.out;rw [e];exact S0.out
 obtain ⟨j,d,hj,rfl,rfl,hs⟩:=hrel;have S1:=Lib.hid hs;clear hs hmk S0;have HN:=Lib.hid (Next_x S1.out (kk+1) (by rw [List.getElem?_cons_succ,List.getElem?_set_self hkl]) k (by omega) (by omega));simp only [List.set_cons_succ,List.set_set] at HN;by_cases hlt:j<m
 · go_wp2_with (first
    | (go_at_call 33;(with_reducible refine HN.out.mono ?_);refine halt_ ?_)
    | (at_builtin;refine halt_ ?_))
   rintro e w1 ⟨rfl,s2⟩;have S2:=Lib.hid s2;clear s2 HN;obtain ⟨hy0,hy1⟩:=tnext_in L (n+j) k;have hy1:=hy1 hk1;have HT:Hid (tbytes L n k (j+1)=tbytes L n k j++[UInt8.ofNat (tnext L (n+j) k).toNat]):=rfl;have HL:=Lib.hid (tbytes_len L n k j);generalize tbytes L n k j=bs at S1 S2 HL HT;generalize tnext L (n+j) k=y at hy0 hy1 HT |-; have hyw:IntKind.u8.wrap y=y:=IntWalk.u8_in y (by omega);obtain ⟨yb,hyb⟩:∃ yb:UInt8,((yb.toNat:Nat):Int)=y:=⟨UInt8.ofNat y.toNat,by rw [UInt8.toNat_ofNat'];omega⟩;subst hyb;have e1:UInt8.ofNat (((yb.toNat:Nat):Int)).toNat=yb:=by simp
   rw [e1] at HT;clear S1 e1;go_wp2_with (at_builtin;refine halt_ ?_)
   have hrb:RB w1 d bs:=S2.out.get 0 (o:=bufOb d bs) rfl;have SB1:Hid (SB (w1.alloc (.cells #[.int .u8 ((yb.toNat:Nat):Int)] 5)) (some ⟨w1.heap.size,0,none⟩) [yb]):=sb_const w1 _ rfl [yb] (0,0);refine wpList_append_bytes rfl _ _ rfl d bs rfl (hrb.on (bel1 _ _)) (some ⟨w1.heap.size,0,none⟩) 1 [yb] rfl SB1.out (by rw [HL.out];simp only [zB,List.length_nil];omega) ?_;intro d2 w2 hl2 happ
   have S3:Hid (SW b w0 (bufOb d2 (tbytes L n k (j+1))::l.set kk (tpOb g A c L (n+(j+1)))) w2):=by
    rw [Hid,HT.out];have:=(S2.out.alloc (.cells #[.int .u8 ((yb.toNat:Nat):Int)] 5)).appB 0 rfl happ;exact this
   clear happ hl2 hyw hy0 hy1 hrb SB1 S2;go_wp2_with fail
   go_roundw
   case rel=>exact ⟨j+1,d2,by omega,by go_num,rfl,S3.out⟩
   simp [intOf];omega
 obtain rfl:j=m:=by omega
 go_wp2_with fail
 go_ret;exact ⟨d,rfl,S1.out⟩
def textN (L:List Int) (n:Nat):Nat:=1+(tnext L n 4).toNat
def textB (L:List Int) (n:Nat):List UInt8:=tbytes L (n+1) 2 (textN L n)
theorem textN_in (L:List Int) (n:Nat):1<=textN L n/\textN L n<=4:=by
 obtain ⟨h1,h2⟩:=tnext_in L n 4;have:=h2 (by omega);unfold textN;omega
abbrev TextP (b:Nat) (w0:World) (l:List Ob) (kk g:Nat) (A:Option Addr) (c:Nat) (L:List Int) (n:Nat) (e:Ending) (w':World):Prop:=
 ∃ d,e= .returned (.slice d.A d.len d.cap)/\SW b w0 (bufOb d (textB L n)::l.set kk (tpOb g A c L (n+1+textN L n))) w'
end
def bitsL:Nat->List (List UInt8)
 | 0=>[[]]
 | n+1=>(bitsL n).flatMap fun t=>[0::t,1::t]
def allTexts:List (List UInt8):=bitsL 1++bitsL 2++bitsL 3++bitsL 4
structure IsText (bs:List UInt8):Prop where
 lo:1<=bs.length
 hi:bs.length<=4
 bit:∀ c∈bs,c=0∨c=1
theorem mem_bitsL:∀ (bs:List UInt8),(∀ c∈bs,c=0∨c=1)->bs∈bitsL bs.length
 | [],_=>by simp [bitsL]
 | c::bs,h=>by
  have ih:=mem_bitsL bs (fun d hd=>h d (List.mem_cons_of_mem _ hd));rw [zB,bitsL];refine List.mem_flatMap.2 ⟨bs,ih,?_⟩;rcases h c (List.mem_cons_self ..) with rfl | rfl<;>simp
theorem IsText.mem {bs:List UInt8} (h:IsText bs):bs∈allTexts:=by
 have hm:=mem_bitsL bs h.bit;have h1:=h.lo;have h2:=h.hi;unfold allTexts;simp only [zD];have:bs.length=1∨bs.length=2∨bs.length=3∨bs.length=4:=by omega
 rcases this with e | e | e | e<;>rw [e] at hm
 · exact .inl (.inl (.inl hm))
 · exact .inl (.inl (.inr hm))
 · exact .inl (.inr hm)
 exact .inr hm
theorem texts_nodup:(allTexts.map fpOf).Nodup:=by decide+kernel
theorem inj_of_nodup {α β:Type} (f:α->β):∀ (l:List α),(l.map f).Nodup->∀ a∈l,∀ b∈l,f a=f b->a=b
 | [],_,a,ha,_,_,_=>by cases ha
 | x::l,h,a,ha,b,hb,e=>by
  rw [zA,List.nodup_cons] at h;rcases List.mem_cons.1 ha with ha' | ha'
  · rcases List.mem_cons.1 hb with hb' | hb'
    · rw [ha',hb']
    exact absurd (List.mem_map.2 ⟨b,hb',by rw [<- e,ha']⟩) h.1
  rcases List.mem_cons.1 hb with hb' | hb'
  · exact absurd (List.mem_map.2 ⟨a,ha',by rw [e,hb']⟩) h.1
  exact inj_of_nodup f l h.2 a ha' b hb' e
theorem text_inj {a b:List UInt8} (ha:IsText a) (hb:IsText b) (e:fpOf a=fpOf b):a=b:=inj_of_nodup fpOf allTexts texts_nodup a ha.mem b hb.mem e
theorem tbytes_bit (L:List Int) (n:Nat):∀ c,∀ x∈tbytes L n 2 c,x=0∨x=1
 | 0,x,h=>by cases h
 | c+1,x,h=>by
  rw [tbytes] at h;rcases List.mem_append.1 h with h | h
  · exact tbytes_bit L n c x h
  rw [zE] at h;obtain ⟨h0,h1⟩:=tnext_in L (n+c) 2;have h1:=h1 (by omega);have:(tnext L (n+c) 2).toNat=0∨(tnext L (n+c) 2).toNat=1:=by omega
  rcases this with e | e
  · left
    rw [h,e];rfl
  right
  rw [h,e];rfl
theorem textB_is (L:List Int) (n:Nat):IsText (textB L n):=by
 obtain ⟨h1,h2⟩:=textN_in L n;have hl:(textB L n).length=textN L n:=tbytes_len _ _ _ _;exact ⟨by omega,by omega,tbytes_bit _ _ _⟩
theorem IsText.size {bs:List UInt8} (h:IsText bs):(fpOf bs).2=bs.length:=rfl
structure TX (x:SR) (P:List (List UInt8)):Prop where
 has:∀ i,(asc x.C i).isSome=decide (i∈P.map fpOf)
 val:∀ bs∈P,valC x (fpOf bs)=some bs
 text:∀ bs∈P,IsText bs
theorem TX.key {x:SR} {P:List (List UInt8)} (h:TX x P) {i:ID} (hi:i∈x.C.map (·.1)):∃ bs∈P,fpOf bs=i/\IsText bs:=by
 have h1:=asc_key.2 hi;rw [h.has i,decide_eq_true_eq] at h1;obtain ⟨bs,hb,e⟩:=List.mem_map.1 h1;exact ⟨bs,hb,e,h.text bs hb⟩
theorem TX.few {x:SR} {P:List (List UInt8)} (h:TX x P) (hn:(x.C.map (·.1)).Nodup):x.C.length<=30:=by
 have:=len_le_sub (x.C.map (·.1)) (allTexts.map fpOf) hn (fun i hi=>by
  obtain ⟨bs,hb,e,ht⟩:=h.key hi;exact List.mem_map.2 ⟨bs,ht.mem,e⟩)
 have e:(allTexts.map fpOf).length=30:=by decide+kernel
 rw [e] at this;simpa using this
theorem frSum_le:∀ (l:List ID),(∀ i∈l,i.2<=4)->frSum l<=32*l.length
 | [],_=>by simp [frSum]
 | i::l,h=>by
  have h1:=h i (List.mem_cons_self ..);have ih:=frSum_le l (fun j hj=>h j (List.mem_cons_of_mem _ hj));have e:frSum (i::l)=28+i.2.toNat+frSum l:=by simp [frSum]
  rw [e,zB];omega
theorem TX.pends {x:SR} {P:List (List UInt8)} (h:TX x P):frSum (Go.Proofs.YteabgcollokgjaaGreatDoor.pends x.C)<=32*(Go.Proofs.YteabgcollokgjaaGreatDoor.pends x.C).length:=frSum_le _ (fun i hi=>by
 obtain ⟨d,bs,hm⟩:=pends_mem hi;obtain ⟨t,_,e,ht⟩:=h.key (List.mem_map.2 ⟨_,hm,rfl⟩);have e:fpOf t=i:=e;rw [<- e,ht.size];have:=ht.hi;omega)
theorem TX.more {x:SR} {P:List (List UInt8)} (h:TX x P) {bs:List UInt8} (hb:bs∈P):TX x (P++[bs]):=by
 refine ⟨fun i=>?_,fun t ht=>?_,fun t ht=>?_⟩
 · rw [h.has i];congr 1
   simp only [zC,zA,List.map_nil,zD,zE,eq_iff_iff];constructor
   · exact .inl
   rintro (h1 | rfl)
   · exact h1
   exact List.mem_map.2 ⟨bs,hb,rfl⟩
 · rcases List.mem_append.1 ht with ht | ht
   · exact h.val t ht
   rw [List.mem_singleton.1 ht];exact h.val bs hb
 rcases List.mem_append.1 ht with ht | ht
 · exact h.text t ht
 rw [List.mem_singleton.1 ht];exact h.text bs hb
theorem TX.put {x:SR} {P:List (List UInt8)} (h:TX x P) {bs:List UInt8} (ht:IsText bs) (hn:asc x.C (fpOf bs)=none) (d:BD):TX (putS x (fpOf bs) d bs) (P++[bs]):=by
 have hni:fpOf bs ∉ P.map fpOf:=fun hm=>by
  have:=h.has (fpOf bs);rw [hn] at this;simp [hm] at this
 refine ⟨fun i=>?_,fun t hm=>?_,fun t hm=>?_⟩
 · show (asc (setL x.C (fpOf bs) (Pl.pend d bs)) i).isSome=_;rw [asc_setL];by_cases e:fpOf bs=i
   · rw [if_pos e];simp [e]
   rw [if_neg e,h.has i];congr 1
   simp only [zC,zA,List.map_nil,zD,zE,eq_iff_iff];constructor
   · exact .inl
   rintro (h1 | h1)
   · exact h1
   exact absurd h1.symm e
 · rw [put_val];rcases List.mem_append.1 hm with hm | hm
   · rw [if_neg (fun e=>hni (by rw [e];exact List.mem_map.2 ⟨t,hm,rfl⟩))];exact h.val t hm
   rw [List.mem_singleton.1 hm,if_pos rfl]
 rcases List.mem_append.1 hm with hm | hm
 · exact h.text t hm
 rw [List.mem_singleton.1 hm];exact ht
theorem layC_at (cs:List (List UInt8)):∀ o,∀ c∈layC o cs,∃ q,c.2=Pl.at q:=by
 induction cs with
 | nil=>intro o c hc;cases hc
 | cons d cs ih=>
  intro o c hc;rcases List.mem_cons.1 hc with rfl | hc
  · exact ⟨_,rfl⟩
  exact ih _ c hc
theorem layC_pends (o:Nat) (cs:List (List UInt8)):Go.Proofs.YteabgcollokgjaaGreatDoor.pends (layC o cs)=[]:=pends_none (layC_at cs o)
theorem layC_sum (cs:List (List UInt8)):∀ o,entSum (durs (layC o cs))=layN cs:=by
 induction cs with
 | nil=>intro o;rfl
 | cons c cs ih=>
  intro o;have e1:durs (layC o (c::cs))=(fpOf c,o)::durs (layC (o+28+c.length) cs):=rfl;have e2:∀ (y:Ent) l,entSum (y::l)=28+y.1.2.toNat+entSum l:=fun y l=>by simp [entSum]
  have e3:layN (c::cs)=28+c.length+layN cs:=by simp [layN]
  have e4:((fpOf c).2).toNat=c.length:=by simp [fpOf]
  rw [e1,e2,e3,ih,e4]

end
section
open Go.RowKit Go.MapKept Go.ChangeMaps Go.Shelf Go.Sort
attribute [local go_sem] wext_cell

end
section
open Go.RowKit Go.MapKept Go.ChangeMaps Go.Shelf Go.Sort
theorem ltI_trans {a b c:ID} (h1:ltID a b=true) (h2:ltID b c=true):ltID a c=true:=by
 simp only [ltID,decide_eq_true_eq] at *; omega
theorem ltI_irr (a:ID):ltID a a=false:=by simp [ltID]
theorem ltI_asym {a b:ID} (h1:ltID a b=true):ltID b a=false:=by
 simp only [ltID,decide_eq_true_eq,decide_eq_false_iff_not] at *; omega
theorem ltI_tri {a b:ID} (h1:ltID a b=false) (h2:a≠b):ltID b a=true:=by
 obtain ⟨a1,a2⟩:=a;obtain ⟨b1,b2⟩:=b;simp only [ltID,decide_eq_true_eq,decide_eq_false_iff_not] at *; have:¬ (a1=b1/\a2=b2):=fun h=>h2 (by rw [h.1,h.2]);omega
abbrev SortE (E:List RE):Prop:=E.Pairwise fun a b=>ltID a.id b.id=true
theorem atI_split (E:List RE) (i:ID):E.take (atI E i)=E.takeWhile (fun e=>ltID e.id i)/\E.drop (atI E i)=E.dropWhile (fun e=>ltID e.id i):=by
 have h:=List.takeWhile_append_dropWhile (p:=fun e:RE=>ltID e.id i) (l:=E);unfold atI;constructor
 · conv=>lhs;rw [<- h]
   rw [List.take_left'];rw [h]
 conv=>lhs;rw [<- h]
 rw [List.drop_left'];rw [h]
theorem tw_lt {E:List RE} {i:ID} {e:RE} (h:e∈E.takeWhile (fun e=>ltID e.id i)):ltID e.id i=true:=by
 induction E with
 | nil=>cases h
 | cons x E ih=>
  rw [List.takeWhile_cons] at h;split at h
  · rename_i hx
    rcases List.mem_cons.1 h with rfl | h
    · exact hx
    exact ih h
  cases h
theorem dw_ge {E:List RE} (hs:SortE E) {i:ID} {e:RE} (h:e∈E.dropWhile (fun e=>ltID e.id i)):ltID e.id i=false:=by
 induction E with
 | nil=>cases h
 | cons x E ih=>
  obtain ⟨h1,h2⟩:=List.pairwise_cons.1 hs;rw [List.dropWhile_cons] at h;split at h
  · exact ih h2 h
  rename_i hx
  have hx:ltID x.id i=false:=by simpa using hx
  rcases List.mem_cons.1 h with rfl | h
  · exact hx
  cases hc:ltID e.id i with
  | false=>rfl
  | true=>
   have:=ltI_trans (h1 e h) hc;rw [hx] at this;cases this
theorem hasAt_iff {E:List RE} (hs:SortE E) (i:ID):hasAt E i=true↔i∈E.map (·.id):=by
 obtain ⟨h1,h2⟩:=atI_split E i
 have hd:E[atI E i]? =(E.dropWhile (fun e=>ltID e.id i)).head? :=by
  rw [<- h2,List.head?_drop]
 unfold hasAt;rw [hd];constructor
 · intro h;split at h
   · rename_i e he
     have hm:e∈E:=(List.dropWhile_sublist _).subset (List.mem_of_head? he);exact List.mem_map.2 ⟨e,hm,of_decide_eq_true h⟩
   cases h
 intro h;obtain ⟨e,he,hi⟩:=List.mem_map.1 h
 have hin:e∈E.dropWhile (fun e=>ltID e.id i):=by
  rw [<- List.takeWhile_append_dropWhile (p:=fun e:RE=>ltID e.id i) (l:=E)] at he;rcases List.mem_append.1 he with he | he
  · have:=tw_lt he;rw [hi,ltI_irr] at this;cases this
  exact he
 cases hdw:E.dropWhile (fun e=>ltID e.id i) with
 | nil=>rw [hdw] at hin;cases hin
 | cons x D=>
  simp only [List.head?_cons];have hxi:ltID x.id i=false:=dw_ge hs (by rw [hdw];exact List.mem_cons_self ..);rw [decide_eq_true_eq];rw [hdw] at hin;rcases List.mem_cons.1 hin with rfl | hin
  · exact hi
  have hsd:SortE (x::D):=by rw [<- hdw];exact hs.sublist (List.dropWhile_sublist _)
  have:=(List.pairwise_cons.1 hsd).1 e hin;rw [hi] at this;rw [this] at hxi;cases hxi
def putE (E:List RE) (e:RE):List RE:=E.take (atI E e.id)++e::E.drop (atI E e.id)
theorem putE_mem {E:List RE} {e f:RE}:f∈putE E e↔f=e∨f∈E:=by
 unfold putE;have h:f∈E↔f∈E.take (atI E e.id)∨f∈E.drop (atI E e.id):=by rw [<- zD,List.take_append_drop]
 rw [h];simp only [zD,List.mem_cons];constructor
 · rintro (h | h | h)<;>simp [h]
 rintro (h | h | h)<;>simp [h]
theorem putE_sort {E:List RE} (hs:SortE E) {e:RE} (hn:e.id ∉ E.map (·.id)):SortE (putE E e):=by
 obtain ⟨h1,h2⟩:=atI_split E e.id;unfold putE;rw [h1,h2];have hs':=hs;rw [<- List.takeWhile_append_dropWhile (p:=fun f:RE=>ltID f.id e.id) (l:=E)] at hs';obtain ⟨p1,p2,p3⟩:=List.pairwise_append.1 hs';refine List.pairwise_append.2 ⟨p1,List.pairwise_cons.2 ⟨fun f hf=>?_,p2⟩,fun a ha f hf=>?_⟩
 · refine ltI_tri (dw_ge hs hf) (fun e'=>hn ?_);rw [<- e'];exact List.mem_map.2 ⟨f,(List.dropWhile_sublist _).subset hf,rfl⟩
 rcases List.mem_cons.1 hf with rfl | hf
 · exact tw_lt ha
 exact p3 a ha f hf
structure RTX (r:R3) (P:List (List UInt8)):Prop where
 sort:SortE r.E
 has:∀ i,i∈r.ids↔i∈P.map fpOf
 val:∀ e∈r.E,fpOf e.bs=e.id/\IsText e.bs
theorem RTX.put {r r':R3} {P:List (List UInt8)} (h:RTX r P) {bs:List UInt8} (ht:IsText bs) {d:BD} (he:r'.E=putE r.E ⟨fpOf bs,d,bs,true⟩) (hn:hasAt r.E (fpOf bs)=false):RTX r' (P++[bs]):=by
 have hni:fpOf bs ∉ r.ids:=fun hm=>by
  rw [(hasAt_iff h.sort _).2 hm] at hn;cases hn
 refine ⟨?_,fun i=>?_,fun e hm=>?_⟩
 · rw [he];exact putE_sort h.sort hni
 · show i∈r'.E.map (·.id)↔_;rw [he];have hh:=h.has i;simp only [zC,zA,List.map_nil,zD,zE, <- hh,List.mem_map];constructor
   · rintro ⟨f,hf,rfl⟩;rcases putE_mem.1 hf with rfl | hf
     · exact .inr rfl
     exact .inl ⟨f,hf,rfl⟩
   rintro (⟨f,hf,rfl⟩ | rfl)
   · exact ⟨f,putE_mem.2 (.inr hf),rfl⟩
   exact ⟨_,putE_mem.2 (.inl rfl),rfl⟩
 rw [he] at hm;rcases putE_mem.1 hm with rfl | hm
 · exact ⟨rfl,ht⟩
 exact h.val e hm
theorem RTX.more {r:R3} {P:List (List UInt8)} (h:RTX r P) {bs:List UInt8} (hn:hasAt r.E (fpOf bs)=true):RTX r (P++[bs]):=by
 have hm:=(hasAt_iff h.sort _).1 hn;refine ⟨h.sort,fun i=>?_,h.val⟩;have hh:=h.has i;simp only [zC,zA,List.map_nil,zD,zE, <- hh];constructor
 · exact .inl
 rintro (h1 | rfl)
 · exact h1
 exact hm
end
end Go.Proofs.YteabgcollokgjaaGreatDoor
