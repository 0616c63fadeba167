/- Q -/
import Derived.Test.YteabgcollokgjaaGreatDoorQP23
set_option linter.unusedSimpArgs false
set_option linter.unusedVariables false
set_option maxRecDepth 100000
set_option maxHeartbeats 32000000
open List renaming mem_cons_of_mem → zA,length_append → zB,mem_cons_self → zC,map_cons → zD,length_cons → zE,filter_cons → zF,length_map → zG,map_append → zH,take_of_length_le → zI,length_nil → zJ,append_assoc → zK,nodup_nil → zL,cons_append → zM
namespace Go.Proofs.YteabgcollokgjaaGreatDoor
section
open Go.RowKit Go.MapKept Go.ChangeMaps Go.Shelf Go.Sort
theorem okU_okW {n:Int} (h:okW n=true):okU n=true:=by
 unfold okW at h;unfold okU;simp only [Bool.or_eq_true,Bool.and_eq_true,decide_eq_true_eq,beq_iff_eq] at *; omega
theorem nameB_file {nm:ByteArray} (h:nameV nm=true):nameB (fileN nm)=true:=by
 unfold nameV okN_ at h;simp only [Bool.and_eq_true,decide_eq_true_eq,List.all_eq_true] at h;obtain ⟨⟨h1,h2⟩,h3⟩:=h;have e:(fileN nm).data.toList=nm.data.toList++[46,49]:=by simp [fileN]
 have es:(fileN nm).size=nm.size+2:=by
  unfold fileN;rw [ByteArray.size_append,ByteArray.size_append];rfl
 unfold nameB okL;rw [e,es,List.all_append];simp only [Bool.and_eq_true,decide_eq_true_eq,List.all_eq_true];exact ⟨⟨by omega,by omega⟩,fun c hc=>okU_okW (h3 c hc),by decide⟩
def atOk (D:List UInt8) (C:Chs) (c:ID×Pl):Prop:=∃ o,c.2= .at o/\cutB D c.1 o=pendB C c.1/\o+28+c.1.2.toNat<=D.length
theorem cutB_more {D:List UInt8} {i:ID} {o:Nat} (h:o+28+i.2.toNat<=D.length) (E:List UInt8):cutB (D++E) i o=cutB D i o:=by
 unfold cutB;rw [List.drop_append_of_le_length (by omega),List.take_append_of_le_length (by simp;omega)]
theorem atOk.more {D:List UInt8} {C:Chs} {c:ID×Pl} (h:atOk D C c) (E:List UInt8):atOk (D++E) C c:=by
 obtain ⟨o,h1,h2,h3⟩:=h;exact ⟨o,h1,by rw [cutB_more h3,h2],by simp;omega⟩
theorem wfold_at (D:List UInt8) (C:Chs) (ids:List ID) (h:∀ i∈ids,(pendB C i).length=i.2.toNat):∀ c∈(wfold D.length C [] ids).1,atOk (D++(wfold D.length C [] ids).2) C c:=by
 have:∀ (ids:List ID) (p:Chs×List UInt8),(∀ i∈ids,(pendB C i).length=i.2.toNat)->(∀ c∈p.1,atOk (D++p.2) C c)->∀ c∈(ids.foldl (wstep D.length C) p).1,atOk (D++(ids.foldl (wstep D.length C) p).2) C c:=by
  intro ids;induction ids with
  | nil=>intro p _ hp;exact hp
  | cons i ids ih=>
   intro p hi hp;rw [List.foldl_cons];refine ih _ (fun j hj=>hi j (zA _ hj)) (fun c hc=>?_);have hl:=hi i (zC ..);have e2:(wstep D.length C p i).2=p.2++headB i 1 (D.length+p.2.length)++pendB C i:=rfl;have hc':c∈setL p.1 i (Pl.at (D.length+p.2.length)):=hc;rw [e2];rcases setL_memG hc' with rfl | hc'
   · refine ⟨D.length+p.2.length,rfl,?_,?_⟩
     · unfold cutB;rw [<- zK, <- zK,List.drop_left' (by simp [headB_len];omega),zI (by simp only;omega)]
     simp only [zB,headB_len];omega
   rw [zK, <- zK];exact (hp c hc').more _
 exact this ids ([],[]) h (fun c hc=>by cases hc)
theorem len_le_sub {α:Type} [DecidableEq α]:∀ (L M:List α),L.Nodup->(∀ a∈L,a∈M)->L.length<=M.length:=by
 intro L;induction L with
 | nil=>intro M _ _;simp
 | cons a L ih=>
  intro M hn hs;rw [List.nodup_cons] at hn;have ha:=hs a (zC ..);have h1:=ih (M.erase a) hn.2 (fun c hc=>(List.mem_erase_of_ne (fun e=>hn.1 (by rw [<- e];exact hc))).2 (hs c (zA _ hc)));rw [List.length_erase_of_mem ha] at h1;have:=List.length_pos_of_mem ha;simp only [zE];omega
def sizeC (C:Chs):Int:=((C.map (·.1)).map (·.2)).sum
theorem setL_same {α β:Type} [DecidableEq α] {L:List (α×β)} {a:α} (v:β) (h:a∈L.map (·.1)):(setL L a v).map (·.1)=L.map (·.1):=by
 induction L with
 | nil=>cases h
 | cons c L ih=>
  unfold setL;split
  · rename_i e
    simp [e]
  rename_i e
  rw [zD] at h;rcases List.mem_cons.1 h with h1 | h1
  · exact absurd h1.symm e
  simp [ih h1]
theorem updAll_same (C:Chs) (done:Chs) (h:∀ c∈done,c.1∈C.map (·.1)):(updAll C done).map (·.1)=C.map (·.1):=by
 induction done generalizing C with
 | nil=>rfl
 | cons c done ih=>
  have e:=setL_same c.2 (h c (zC ..));exact (ih (setL C c.1 c.2) (fun d hd=>by rw [e];exact h d (zA _ hd))).trans e
def allSum (C:Chs):Nat:=frSum (C.map (·.1))
theorem durs_pends:∀ (C:Chs),(∀ i d bs,(i,Pl.pend d bs)∈C->d.A.isSome=true)->entSum (durs C)+frSum (Go.Proofs.YteabgcollokgjaaGreatDoor.pends C)=allSum C:=by
 intro C;induction C with
 | nil=>intro _;simp [durs,entSum,frSum,allSum,Go.Proofs.YteabgcollokgjaaGreatDoor.pends]
 | cons c C ih=>
  intro h;have h1:=ih (fun i d bs hm=>h i d bs (zA _ hm));obtain ⟨i,pl⟩:=c;have e1:allSum ((i,pl)::C)=28+i.2.toNat+allSum C:=by simp [allSum,frSum]
  cases pl with
  | pend d bs=>
   have e2:Go.Proofs.YteabgcollokgjaaGreatDoor.pends ((i,Pl.pend d bs)::C)=i::Go.Proofs.YteabgcollokgjaaGreatDoor.pends C:=by
    unfold Go.Proofs.YteabgcollokgjaaGreatDoor.pends;rw [zF,if_pos (by simpa [Pl.A] using h i d bs (zC ..))];rfl
   have e3:durs ((i,Pl.pend d bs)::C)=durs C:=rfl;have e4:frSum (i::Go.Proofs.YteabgcollokgjaaGreatDoor.pends C)=28+i.2.toNat+frSum (Go.Proofs.YteabgcollokgjaaGreatDoor.pends C):=by simp [frSum]
   rw [e1,e2,e3,e4];omega
  | «at» o=>
   have e2:Go.Proofs.YteabgcollokgjaaGreatDoor.pends ((i,Pl.at o)::C)=Go.Proofs.YteabgcollokgjaaGreatDoor.pends C:=by
    unfold Go.Proofs.YteabgcollokgjaaGreatDoor.pends;rw [zF,if_neg (by simp [Pl.A])]
   have e3:durs ((i,Pl.at o)::C)=(i,o)::durs C:=rfl;have e4:entSum ((i,o)::durs C)=28+i.2.toNat+entSum (durs C):=by simp [entSum]
   rw [e1,e2,e3,e4];omega
def valC (x:SR) (i:ID):Option (List UInt8):=(asc x.C i).bind (readC x.s x.nm i)
structure Cl (ns:List ByteArray) (x:SR):Prop extends WH x where
 keys:(x.C.map (·.1)).Nodup
 f0:x.s.f=0
 nv:nameV x.nm=true
 ns1:fileN x.nm∈ns
 ns2:ns.length<=200
 ns3:∀ m,(x.s.now m).isSome=true->m∈ns
 no:x.F=none->x.s.now (fileN x.nm)=none/\∀ i o,(i,Pl.at o) ∉ x.C
 file:∀ f,x.F=some f->f.T=[]/\∃ D,x.s.now (fileN x.nm)=some D/\D.length=f.len/\∀ i o,(i,Pl.at o)∈x.C->cutOk D i o=true
 len:flen x.F<=1048576
 waits:x.wait=((Go.Proofs.YteabgcollokgjaaGreatDoor.pends x.C).length:Int)
 pA:∀ i d bs,(i,Pl.pend d bs)∈x.C->d.A.isSome=true/\bs≠[]
 size:x.bytes=sizeC x.C
 frames:entSum (durs x.C)<=flen x.F
theorem sizeC_le:∀ (C:Chs),(∀ c∈C,1<=c.1.2/\c.1.2<=8192)->0<=sizeC C/\sizeC C<=C.length*8192:=by
 intro C;induction C with
 | nil=>intro _;simp [sizeC]
 | cons c C ih=>
  intro h;have h1:=ih (fun d hd=>h d (zA _ hd));have h2:=h c (zC ..);have h3:sizeC (c::C)=c.1.2+sizeC C:=by simp [sizeC]
  rw [h3,zE];omega
theorem cutOk_len {D:List UInt8} {i:ID} {o:Nat} (h:cutOk D i o=true):fpOf (cutB D i o)=i/\(0<=i.2->o+28+i.2.toNat<=D.length):=by
 unfold cutOk at h;simp only [Bool.and_eq_true,decide_eq_true_eq] at h;exact ⟨h.2,fun h0=>by omega⟩
theorem Cl.data {ns:List ByteArray} {x:SR} (h:Cl ns x):∃ D,(x.s.now (fileN x.nm)).getD []=D/\D.length=flen x.F/\(∀ i o,(i,Pl.at o)∈x.C->x.s.now (fileN x.nm)=some D/\cutOk D i o=true)/\
 ∀ bs,applyF x.s.now (wfOp x.F x.nm bs)=FF.set x.s.now (fileN x.nm) (some (D++bs)):=by
 cases hF:x.F with
 | none=>
  obtain ⟨h1,h2⟩:=h.no hF;exact ⟨[],by rw [h1];rfl,rfl,fun i o hm=>absurd hm (h2 i o),fun bs=>by simp [wfOp,applyF]⟩
 | some f=>
  obtain ⟨_,D,h1,h2,h3⟩:=h.file f hF;exact ⟨D,by rw [h1];rfl,h2,fun i o hm=>⟨h1,h3 i o hm⟩,fun bs=>by simp [wfOp,applyF,h1]⟩
theorem Cl.cnt {ns:List ByteArray} {x:SR} (h:Cl ns x) {n:Nat} (hn:Cnt x.s.now n):n<=200:=by
 obtain ⟨L,h1,h2,rfl⟩:=hn;exact Nat.le_trans (len_le_sub L ns h1 (fun a ha=>h.ns3 a ((h2 a).1 ha))) h.ns2
theorem Cl.req {ns:List ByteArray} {x:SR} (h:Cl ns x) {n:Nat} (hn:Cnt x.s.now n) (bs:List UInt8) (hb:flen x.F+bs.length<=1048576):
 reqE x.s n (wfOp x.F x.nm bs)=0/\reqS x.s n (wfOp x.F x.nm bs)={ x.s with ops:=x.s.ops++[wfOp x.F x.nm bs] }:=by
 refine req_ok ?_ h.f0;cases hF:x.F with
 | none=>
  rw [hF] at hb;exact gate_create h.up (nameB_file h.nv) (by simp only [flen] at hb;omega) (.inr (by have:=h.cnt hn;omega))
 | some f=>
  rw [hF] at hb;obtain ⟨_,D,h1,h2,h3⟩:=h.file f hF;exact gate_add h.up (nameB_file h.nv) h1 (by simp only [flen] at hb;omega)
theorem sync_ok {s:St} (hd:s.dn=false) (hf:s.f=0):syncE s=0/\syncS s=⟨s.now,[],false,0⟩:=by
 simp [syncE,syncS,hd,hf,burnF]
theorem now_add (s:St) (o:POp):St.now { s with ops:=s.ops++[o] }=applyF s.now o:=by simp [St.now]
theorem wfold_nodup (base:Nat) (C:Chs) (ids:List ID):((wfold base C [] ids).1.map (·.1)).Nodup:=by
 have:∀ (ids:List ID) (p:Chs×List UInt8),(p.1.map (·.1)).Nodup->((ids.foldl (wstep base C) p).1.map (·.1)).Nodup:=by
  intro ids;induction ids with
  | nil=>intro p hp;exact hp
  | cons i ids ih=>intro p hp;exact ih _ (setL_nodup hp _ _)
 exact this ids ([],[]) zL
theorem updAll_nodup (C:Chs) (done:Chs) (h:(C.map (·.1)).Nodup):((updAll C done).map (·.1)).Nodup:=by
 induction done generalizing C with
 | nil=>exact h
 | cons c done ih=>exact ih _ (setL_nodup h _ _)
theorem pends_nodup {C:Chs} (h:(C.map (·.1)).Nodup):(pends C).Nodup:=h.sublist (List.filter_sublist.map _)
theorem pends_of {C:Chs} {i:ID} {d:BD} {bs:List UInt8} (hm:(i,Pl.pend d bs)∈C) (hd:d.A.isSome=true):i∈pends C:=List.mem_map.2 ⟨_,List.mem_filter.2 ⟨hm,hd⟩,rfl⟩
theorem pends_none {C:Chs} (h:∀ c∈C,∃ o,c.2=Pl.at o):pends C=[]:=by
 unfold pends;rw [List.filter_eq_nil_iff.2 (fun c hc=>by obtain ⟨o,ho⟩:=h c hc;rw [ho];simp [Pl.A])];rfl
theorem asc_key {α β:Type} [DecidableEq α] {L:List (α×β)} {a:α}:(asc L a).isSome=true↔a∈L.map (·.1):=by
 constructor
 · intro h;obtain ⟨v,hv⟩:=Option.isSome_iff_exists.1 h;exact List.mem_map.2 ⟨_,mem_of_asc hv,rfl⟩
 intro h;cases ha:asc L a with
 | some v=>rfl
 | none=>
  exfalso
  obtain ⟨c,hc,rfl⟩:=List.mem_map.1 h
  have:∀ (L:List (α×β)),c∈L->asc L c.1≠none:=by
   intro L;induction L with
   | nil=>intro h;cases h
   | cons d L ih=>
    intro h;unfold asc;split
    · simp
    rename_i hne
    rcases List.mem_cons.1 h with rfl | h
    · exact absurd rfl hne
    exact ih h
  exact this L hc ha
def layB:Nat->List (List UInt8)->List UInt8
 | _,[]=>[]
 | o,c::cs=>headB (fpOf c) 1 o++c++layB (o+28+c.length) cs
def layC:Nat->List (List UInt8)->Chs
 | _,[]=>[]
 | o,c::cs=>(fpOf c,.at o)::layC (o+28+c.length) cs
def layN (cs:List (List UInt8)):Nat:=(cs.map (fun c=>28+c.length)).sum
theorem layB_len (o:Nat) (cs:List (List UInt8)):(layB o cs).length=layN cs:=by
 induction cs generalizing o with
 | nil=>rfl
 | cons c cs ih=>
  have e:layN (c::cs)=28+c.length+layN cs:=by simp [layN]
  rw [layB,zB,zB,headB_len,ih,e]
theorem layB_app (o:Nat) (cs ds:List (List UInt8)):layB o (cs++ds)=layB o cs++layB (o+layN cs) ds:=by
 induction cs generalizing o with
 | nil=>simp [layB,layN]
 | cons c cs ih=>
  have e:layN (c::cs)=28+c.length+layN cs:=by simp [layN]
  rw [zM,layB,layB,ih,e,zK (headB _ _ _++c)];congr 3
  omega
theorem layC_app (o:Nat) (cs ds:List (List UInt8)):layC o (cs++ds)=layC o cs++layC (o+layN cs) ds:=by
 induction cs generalizing o with
 | nil=>simp [layC,layN]
 | cons c cs ih=>
  have e:layN (c::cs)=28+c.length+layN cs:=by simp [layN]
  rw [zM,layC,layC,ih,e,zM];congr 3
  omega
theorem layC_keys (o:Nat) (cs:List (List UInt8)):(layC o cs).map (·.1)=cs.map fpOf:=by
 induction cs generalizing o with
 | nil=>rfl
 | cons c cs ih=>rw [layC,zD,zD,ih]
theorem setL_new {C:Chs} {i:ID} {p:Pl} (h:i ∉ C.map (·.1)):setL C i p=C++[(i,p)]:=by
 induction C with
 | nil=>rfl
 | cons c C ih=>
  rw [zD,List.mem_cons] at h;rw [setL,if_neg (fun e=>h (.inl e.symm)),ih (fun hm=>h (.inr hm))];rfl
def LayD (D:List UInt8) (C:Chs):Prop:=∃ cs:List (List UInt8),D=layB 0 cs/\(∀ c∈cs,1<=c.length/\c.length<=8192)/\(cs.map fpOf).Nodup/\∀ i o,(i,Pl.at o)∈C↔(i,Pl.at o)∈layC 0 cs
theorem wfold_lay (base:Nat) (C:Chs):∀ (ids:List ID) (p:Chs×List UInt8),(∀ i∈ids,fpOf (pendB C i)=i)->ids.Nodup->(∀ i∈ids,i ∉ p.1.map (·.1))->
 ids.foldl (wstep base C) p=(p.1++layC (base+p.2.length) (ids.map (pendB C)),p.2++layB (base+p.2.length) (ids.map (pendB C))):=by
 intro ids;induction ids with
 | nil=>intro p _ _ _;simp [layC,layB]
 | cons i ids ih=>
  intro p hid hn hp;have hi:=hid i (by simp)
  have e1:wstep base C p i=(p.1++[(i,.at (base+p.2.length))],p.2++headB i 1 (base+p.2.length)++pendB C i):=by
   unfold wstep;rw [setL_new (hp i (by simp))]
  rw [List.foldl_cons,e1,ih _ (fun j hj=>hid j (by simp [hj])) (List.nodup_cons.1 hn).2 (fun j hj=>by
   rw [zH,List.mem_append];rintro (h | h)
   · exact hp j (by simp [hj]) h
   have e:j=i:=by simpa using h
   exact (List.nodup_cons.1 hn).1 (e ▸ hj))]
  rw [zD,layC,layB,hi];simp only [zB,headB_len,zK,List.singleton_append];have e:base+(p.2.length+(28+(pendB C i).length))=base+p.2.length+28+(pendB C i).length:=by omega
  rw [e]
theorem flush_lay {C:Chs} {D:List UInt8} (h:LayD D C) (hk:(C.map (·.1)).Nodup) (how:∀ i d bs,(i,Pl.pend d bs)∈C->i=fpOf bs/\1<=bs.length/\bs.length<=8192) {ids:List ID} (hids:∀ i,i∈ids↔∃ d bs,(i,Pl.pend d bs)∈C) (hn:ids.Nodup) {done:Chs} (hdone:done.Perm (wfold D.length C [] ids).1):LayD (D++(wfold D.length C [] ids).2) (updAll C done):=by
 obtain ⟨cs,hD,hsz,hnd,hat⟩:=h
 have hpb:∀ i∈ids,∃ d bs,(i,Pl.pend d bs)∈C/\pendB C i=bs/\i=fpOf bs/\1<=bs.length/\bs.length<=8192:=fun i hi=>by
  obtain ⟨d,bs,hm⟩:=(hids i).1 hi;have ha:=asc_mem hk hm;refine ⟨d,bs,hm,?_,how i d bs hm⟩;unfold pendB;rw [ha]
 have hid:∀ i∈ids,fpOf (pendB C i)=i:=fun i hi=>by
  obtain ⟨d,bs,_,e,e2,_⟩:=hpb i hi;rw [e, <- e2]
 have hw:wfold D.length C [] ids=(layC D.length (ids.map (pendB C)),layB D.length (ids.map (pendB C))):=by
  have:=wfold_lay D.length C ids ([],[]) hid hn (by simp);simpa [wfold] using this
 have hmp:(ids.map (pendB C)).map fpOf=ids:=by
  rw [List.map_map];conv=>rhs;rw [<- List.map_id ids]
  exact List.map_congr_left (fun i hi=>hid i hi)
 have hDl:D.length=layN cs:=by rw [hD,layB_len]
 rw [hw] at hdone |-; have hdn:(done.map (·.1)).Nodup:=(hdone.map _).nodup_iff.2 (by rw [layC_keys,hmp];exact hn);refine ⟨cs++ids.map (pendB C),?_,?_,?_,?_⟩
 · rw [layB_app,Nat.zero_add, <- hDl, <- hD]
 · intro c hc;rcases List.mem_append.1 hc with hc | hc
   · exact hsz c hc
   obtain ⟨i,hi,rfl⟩:=List.mem_map.1 hc;obtain ⟨d,bs,_,e,_,e3⟩:=hpb i hi;rw [e];exact e3
 · rw [zH,hmp,List.nodup_append];refine ⟨hnd,hn,fun a ha b hb e=>?_⟩;subst e;rw [<- layC_keys 0 cs] at ha;obtain ⟨c,hc,rfl⟩:=List.mem_map.1 ha;obtain ⟨d,bs,hm,_⟩:=hpb _ hb
   have hpl:∀ o cs,∀ c∈layC o cs,∃ q,c.2=Pl.at q:=by
    intro o cs;induction cs generalizing o with
    | nil=>intro c hc;cases hc
    | cons d cs ih=>
     intro c hc;rcases List.mem_cons.1 hc with rfl | hc
     · exact ⟨_,rfl⟩
     exact ih _ c hc
   obtain ⟨q,hq⟩:=hpl 0 cs c hc;obtain ⟨ci,cp⟩:=c;simp only at hq hm;subst hq;have h1:=asc_mem hk ((hat ci q).2 hc);have h2:=asc_mem hk hm;rw [h1] at h2;cases h2
 intro i o;have hu:=updAll_asc C done hdn i;have hun:=updAll_nodup C done hk;rw [layC_app,Nat.zero_add, <- hDl,List.mem_append, <- hat];have key:∀ {L:Chs},(L.map (·.1)).Nodup->((i,Pl.at o)∈L↔asc L i=some (.at o)):=fun hL=>⟨fun hm=>asc_mem hL hm,fun h=>mem_of_asc h⟩;rw [key hun,key hk,hu];by_cases hi:i∈ids
 · have hs:(asc done i).isSome=true:=asc_key.2 ((hdone.map _).mem_iff.2 (by rw [layC_keys,hmp];exact hi));obtain ⟨pl,hpl⟩:=Option.isSome_iff_exists.1 hs;rw [hpl];simp only;obtain ⟨d,bs,hm,_⟩:=hpb i hi;have h2:=asc_mem hk hm;rw [h2]
   have h3:(i,Pl.at o)∈layC D.length (ids.map (pendB C))↔asc done i=some (.at o):=by
    rw [<- hdone.mem_iff];exact key hdn
   rw [h3,hpl];simp
 have hs:asc done i=none:=by
  cases hs:asc done i with
  | none=>rfl
  | some pl=>
   have h4:=(hdone.map (·.1)).mem_iff.1 (asc_key.1 (by rw [hs];rfl));rw [layC_keys,hmp] at h4;exact absurd h4 hi
 rw [hs];simp only
 have h3:(i,Pl.at o) ∉ layC D.length (ids.map (pendB C)):=fun hm=>hi (by
  have:i∈(layC D.length (ids.map (pendB C))).map (·.1):=List.mem_map.2 ⟨_,hm,rfl⟩;rw [layC_keys,hmp] at this;exact this)
 simp [h3]
def LayS (x:SR):Prop:=∀ f,x.F=some f->∃ D,x.s.now (fileN x.nm)=some D/\LayD D x.C
theorem Cl.layD {ns:List ByteArray} {x:SR} (h:Cl ns x) (hL:LayS x) {D:List UInt8} (hD:(x.s.now (fileN x.nm)).getD []=D):LayD D x.C:=by
 cases hF:x.F with
 | none=>
  obtain ⟨h1,h2⟩:=h.no hF;rw [h1] at hD;subst hD;exact ⟨[],rfl,(fun c hc=>by cases hc),zL,fun i o=>⟨fun hm=>absurd hm (h2 i o),fun hm=>by cases hm⟩⟩
 | some f=>
  obtain ⟨D',h1,h2⟩:=hL f hF;rw [h1] at hD;have:D'=D:=hD;exact this ▸ h2
structure Flushed (x x':SR):Prop where
 val:∀ i,valC x' i=valC x i
 has:∀ i,(asc x'.C i).isSome=(asc x.C i).isSome
 done:∀ c∈x'.C,∃ o,c.2=Pl.at o
 wait:x'.wait=0
 bytes:x'.bytes=x.bytes
 nm:x'.nm=x.nm
 p:x'.p=x.p
 ps:x'.ps=x.ps
 len:flen x'.F=flen x.F+frSum (pends x.C)
 now:∀ m,m≠fileN x.nm->x'.s.now m=x.s.now m
 ops:x.s.ops=[]->x'.s.ops=[]
 lay:LayS x->LayS x'
theorem read_at {s:St} {nm:ByteArray} {D:List UInt8} {i:ID} {o:Nat} (hd:s.dn=false) (hn:nameV nm=true) (hv:s.now (fileN nm)=some D) (hc:cutOk D i o=true):readC s nm i (.at o)=some (cutB D i o):=by
 obtain ⟨e1,e2⟩:=readE_ok hd (nameB_file hn) hv;unfold readC;rw [e1,e2];simp [hc]
theorem moved_at {ns:List ByteArray} {x:SR} (h:Cl ns x) {ids:List ID} (hp:ids.Perm (pends x.C)) {D:List UInt8} (hDl:D.length=flen x.F) (hat:∀ i o,(i,Pl.at o)∈x.C->x.s.now (fileN x.nm)=some D/\cutOk D i o=true)
 {done:Chs} (hdone:done.Perm (wfold (flen x.F) x.C [] ids).1) (i:ID):
 (asc x.C i=none/\asc (updAll x.C done) i=none)∨
 ∃ pl o bs,asc x.C i=some pl/\asc (updAll x.C done) i=some (.at o)/\readC x.s x.nm i pl=some bs/\cutB (D++(wfold (flen x.F) x.C [] ids).2) i o=bs/\cutOk (D++(wfold (flen x.F) x.C [] ids).2) i o=true:=by
 have hpl:∀ i∈ids,(pendB x.C i).length=i.2.toNat:=fun i hi=>by
  obtain ⟨d,bs,hm⟩:=pends_mem (hp.mem_iff.1 hi);have ha:=asc_mem h.keys hm;obtain ⟨he,_⟩:=h.own i d bs hm;unfold pendB;rw [ha];simp only;rw [he];simp [fpOf]
 have hnd:(done.map (·.1)).Nodup:=(hdone.map _).nodup_iff.2 (wfold_nodup _ _ _);have hu:=updAll_asc x.C done hnd i;rw [asc_permC hdone hnd i] at hu;by_cases hi:i∈ids
 · right
   obtain ⟨d,bs,hm⟩:=pends_mem (hp.mem_iff.1 hi);have ha:=asc_mem h.keys hm;obtain ⟨he,_⟩:=h.own i d bs hm;have hk:=asc_key.2 (((wfold_keys (flen x.F) x.C ids).2 i).2 hi);obtain ⟨pl,hM⟩:=Option.isSome_iff_exists.1 hk;rw [hM] at hu;have hW:=wfold_at D x.C ids hpl;rw [hDl] at hW;obtain ⟨o,h1,h2,h3⟩:=hW _ (mem_of_asc hM);simp only at h1 h2 h3;subst h1
   have hpb:pendB x.C i=bs:=by
    unfold pendB;rw [ha]
   refine ⟨_,o,bs,ha,hu,rfl,by rw [h2,hpb],?_⟩;unfold cutOk;rw [h2,hpb, <- he];have hi0:0<=i.2:=by have:=(h.ids8 _ hm).1;simp only at this;omega
   simp only [Bool.and_eq_true,decide_eq_true_eq,and_true];omega
 have hM:asc (wfold (flen x.F) x.C [] ids).1 i=none:=by
  cases hM:asc (wfold (flen x.F) x.C [] ids).1 i with
  | none=>rfl
  | some pl=>exact absurd (((wfold_keys (flen x.F) x.C ids).2 i).1 (asc_key.1 (by rw [hM];rfl))) hi
 rw [hM] at hu;cases ha:asc x.C i with
 | none=>exact .inl ⟨rfl,by rw [hu];exact ha⟩
 | some pl=>
  right
  have hm:=mem_of_asc ha;cases pl with
  | pend d bs=>exact absurd (hp.mem_iff.2 (pends_of hm (h.pA i d bs hm).1)) hi
  | «at» o=>
   obtain ⟨h1,h2⟩:=hat i o hm;have hi0:0<=i.2:=by have:=(h.ids8 _ hm).1;simp only at this;omega
   obtain ⟨c1,c2⟩:=cutOk_len h2;have c2:=c2 hi0;refine ⟨_,o,_,rfl,by rw [hu];exact ha,read_at h.up h.nv h1 h2,cutB_more c2 _,?_⟩;unfold cutOk;rw [cutB_more c2,c1];simp only [Bool.and_eq_true,decide_eq_true_eq,and_true,zB];omega
theorem flush_cl {ns:List ByteArray} {x:SR} {b:Nat} {w0 w':World} {q:CFS} {l:List Ob} {e:Ending} (h:Cl ns x) (hp:q.ids.Perm (pends x.C)) (hne:pends x.C≠[]) (hsum:flen x.F+frSum (pends x.C)<=1048576) (hlen:q.len=flen x.F+frSum q.ids)
 (hc:CarryPost b w0 q x l e w'):e= .returned (.int .i64 0)/\∃ x',Cl ns x'/\Flushed x x'/\SW b w0 (x'.obs l) w':=by
 obtain ⟨D,hD,hDl,hat,hap⟩:=h.data
 have hpl:∀ i∈q.ids,(pendB x.C i).length=i.2.toNat:=fun i hi=>by
  obtain ⟨d,bs,hm⟩:=pends_mem (hp.mem_iff.1 hi);have ha:=asc_mem h.keys hm;obtain ⟨he,_⟩:=h.own i d bs hm;unfold pendB;rw [ha];simp only;rw [he];simp [fpOf]
 have hwl:=wfold_len (flen x.F) x.C [] q.ids hpl;have hfs:=frSum_perm hp;have hmv:=fun (done:Chs) (hdone:done.Perm (wfold (flen x.F) x.C [] q.ids).1)=>moved_at h hp hDl hat hdone;obtain ⟨n,r',hn,E,he,hcs⟩:=hc
 have hml:(wfold (flen x.F) x.C [] q.ids).1.length=(pends x.C).length:=by
  have k:=wfold_keys (flen x.F) x.C q.ids;have n1:=wfold_nodup (flen x.F) x.C q.ids;have n2:q.ids.Nodup:=hp.nodup_iff.2 (pends_nodup h.keys);have a1:=len_le_sub _ _ n1 (fun a ha=>(k.2 a).1 ha);have a2:=len_le_sub _ _ n2 (fun a ha=>(k.2 a).2 ha);rw [zG] at a1 a2;have a3:=hp.length_eq;omega
 have hly:∀ done:Chs,done.Perm (wfold (flen x.F) x.C [] q.ids).1->LayD D x.C->LayD (D++(wfold (flen x.F) x.C [] q.ids).2) (updAll x.C done):=fun done hdn hL=>by
  rw [<- hDl] at hdn |-; refine flush_lay hL h.keys (fun i d bs hm=>?_) (fun i=>⟨fun hi=>pends_mem (hp.mem_iff.1 hi),fun ⟨d,bs,hm⟩=>hp.mem_iff.2 (pends_of hm (h.pA i d bs hm).1)⟩) (hp.nodup_iff.2 (pends_nodup h.keys)) hdn;obtain ⟨h1,h2⟩:=h.own i d bs hm;exact ⟨h1,List.length_pos_iff.2 (h.pA i d bs hm).2,h2⟩
 generalize hbs:(wfold (flen x.F) x.C [] q.ids).2=bs at hcs hwl hmv hly;obtain ⟨e1,e2⟩:=h.req hn bs (by omega);obtain ⟨s1,s2⟩:=sync_ok (s:={ x.s with ops:=x.s.ops++[wfOp x.F x.nm bs] }) h.up h.f0;rw [e2] at hcs;rw [e1,s1,s2,now_add,hap] at hcs;rcases hcs with ⟨h1,h2,_⟩ | ⟨h1,_,h2,_⟩ | ⟨h1,_,_,done,f,hdone,hfl,hfc,hfT,hs⟩
 · exact absurd h2 h1
 · exact absurd h2 h1
 subst h1;have hmv:=hmv done hdone;have hdl:done.length=(pends x.C).length:=hdone.length_eq.trans hml;have hnow:(FF.set x.s.now (fileN x.nm) (some (D++bs))) (fileN x.nm)=some (D++bs):=by simp [FF.set]
 have hkeys:=updAll_nodup x.C done h.keys
 have hall:∀ c∈updAll x.C done,∃ o pl,c.2=Pl.at o/\cutOk (D++bs) c.1 o=true/\(c.1,pl)∈x.C:=by
  intro c hc;have ha:=asc_mem hkeys hc;rcases hmv c.1 with ⟨_,h2⟩ | ⟨pl,o,bs',h1,h2,_,_,h5⟩
  · rw [h2] at ha;cases ha
  rw [h2] at ha;injection ha with ha;exact ⟨o,pl,ha.symm,h5,mem_of_asc h1⟩
 refine ⟨he,_,?_,?_,hs⟩
 · exact {
    live:=h.live
    up:=rfl
    name:=h.name
    few:=by
     have:=len_le_sub _ (x.C.map (·.1)) hkeys (fun a ha=>by
      obtain ⟨c,hc,rfl⟩:=List.mem_map.1 ha;obtain ⟨o,pl,_,_,h3⟩:=hall c hc;exact List.mem_map.2 ⟨_,h3,rfl⟩)
     rw [zG,zG] at this;exact Nat.le_trans this h.few
    ids:=fun c hc=>by
     obtain ⟨o,pl,_,_,h3⟩:=hall c hc;exact h.ids (c.1,pl) h3
    offs:=fun i o hc=>by
     obtain ⟨o',pl,h1,h2,h3⟩:=hall _ hc;simp only at h1 h2 h3;injection h1 with h1;subst h1;have:=(cutOk_len h2).2 (by have:=(h.ids8 _ h3).1;simp only at this;omega);simp only [zB] at this;omega
    pends:=fun i d bs' hc=>by
     obtain ⟨o',pl,h1,_⟩:=hall _ hc;cases h1
    whole:=fun f' hf'=>by
     injection hf' with hf';rw [<- hf'];exact hfc
    own:=fun i d bs' hc=>by
     obtain ⟨o',pl,h1,_⟩:=hall _ hc;cases h1
    ops:=by simp [movedS]
    files:=fun m hm=>by
     obtain ⟨L,k1,k2,rfl⟩:=hm;refine Nat.le_trans (len_le_sub L ns k1 (fun a ha=>?_)) h.ns2;have:=(k2 a).1 ha;simp only [movedS,St.now,List.foldl_nil,FF.set] at this;by_cases ea:fileN x.nm=a
     · rw [<- ea];exact h.ns1
     rw [if_neg ea] at this;exact h.ns3 a this
    ids8:=fun c hc=>by
     obtain ⟨o,pl,_,_,h3⟩:=hall c hc;exact h.ids8 (c.1,pl) h3
    wait0:=by
     have:=h.waits;simp only [movedS];omega
    wait1:=by
     have:=h.wait1;simp only [movedS];omega
    keys:=hkeys
    f0:=rfl
    nv:=h.nv
    ns1:=h.ns1
    ns2:=h.ns2
    ns3:=fun a this=>by
     simp only [movedS,St.now,List.foldl_nil,FF.set] at this;by_cases ea:fileN x.nm=a
     · rw [<- ea];exact h.ns1
     rw [if_neg ea] at this;exact h.ns3 a this
    no:=fun hF=>by cases hF
    file:=fun f' hf'=>by
     injection hf' with hf';rw [<- hf'];refine ⟨?_,D++bs,hnow,by rw [hfl,zB];omega,fun i o hc=>?_⟩
     · rw [hfT];cases hF:x.F with
       | none=>rfl
       | some g=>exact (h.file g hF).1
     obtain ⟨o',pl,h1,h2,_⟩:=hall _ hc;simp only at h1 h2;injection h1 with h1;rw [h1];exact h2
    len:=by
     simp only [movedS,flen,hfl];rw [hlen,hfs];exact hsum
    waits:=by
     have e0:Go.Proofs.YteabgcollokgjaaGreatDoor.pends (updAll x.C done)=[]:=pends_none (fun c hc=>by obtain ⟨o,_,h1,_⟩:=hall c hc;exact ⟨o,h1⟩);have:=h.waits;simp only [movedS,e0,zJ];omega
    pA:=fun i d bs' hc=>by
     obtain ⟨o',pl,h1,_⟩:=hall _ hc;cases h1
    size:=by
     have k:=wfold_keys (flen x.F) x.C q.ids
     have e:=updAll_same x.C done (fun c hc=>by
      have h1:=(k.2 c.1).1 (List.mem_map.2 ⟨_,hdone.mem_iff.1 hc,rfl⟩);obtain ⟨d,bs',hm⟩:=pends_mem (hp.mem_iff.1 h1);exact List.mem_map.2 ⟨_,hm,rfl⟩)
     have:=h.size;simp only [movedS,sizeC] at *; rw [e];exact this
    frames:=by
     have k:=wfold_keys (flen x.F) x.C q.ids
     have e:=updAll_same x.C done (fun c hc=>by
      have h1:=(k.2 c.1).1 (List.mem_map.2 ⟨_,hdone.mem_iff.1 hc,rfl⟩);obtain ⟨d,bs',hm⟩:=pends_mem (hp.mem_iff.1 h1);exact List.mem_map.2 ⟨_,hm,rfl⟩)
     have e0:Go.Proofs.YteabgcollokgjaaGreatDoor.pends (updAll x.C done)=[]:=pends_none (fun c hc=>by obtain ⟨o,_,h1,_⟩:=hall c hc;exact ⟨o,h1⟩);have h1:=durs_pends x.C (fun i d bs' hc=>(h.pA i d bs' hc).1)
     have h2:=durs_pends (updAll x.C done) (fun i d bs' hc=>by
      obtain ⟨o',pl,h1,_⟩:=hall _ hc;cases h1)
     have h3:=h.frames;have e5:allSum (updAll x.C done)=allSum x.C:=by unfold allSum;rw [e]
     rw [e0] at h2;have e6:frSum ([]:List ID)=0:=rfl;show entSum (durs (updAll x.C done))<=f.len;rw [hfl];simp only [hlen,hfs];omega }
 exact {
  val:=fun i=>by
   unfold valC;simp only [movedS];rcases hmv i with ⟨h1,h2⟩ | ⟨pl,o,bs',h1,h2,h3,h4,h5⟩
   · rw [h1,h2];rfl
   rw [h1,h2];simp only [Option.bind_some];rw [h3,read_at (s:=⟨FF.set x.s.now (fileN x.nm) (some (D++bs)),[],false,0⟩) (D:=D++bs) rfl h.nv hnow h5,h4]
  has:=fun i=>by
   simp only [movedS];rcases hmv i with ⟨h1,h2⟩ | ⟨pl,o,bs',h1,h2,_⟩
   · rw [h1,h2]
   rw [h1,h2];rfl
  done:=fun c hc=>by obtain ⟨o,_,h1,_⟩:=hall c hc;exact ⟨o,h1⟩
  wait:=by
   have:=h.waits;simp only [movedS];omega
  bytes:=rfl
  nm:=rfl
  p:=rfl
  ps:=rfl
  len:=by
   simp only [movedS,flen,hfl];rw [hlen,hfs];rfl
  now:=fun m hm=>by
   simp only [movedS,St.now,List.foldl_nil,FF.set];rw [if_neg (fun e=>hm e.symm)]
  ops:=fun _=>rfl
  lay:=fun hL f' hf'=>⟨D++bs,hnow,hly done hdone (h.layD hL hD)⟩ }
theorem put_cl {ns:List ByteArray} {x:SR} (h:Cl ns x) {bs:List UInt8} {d:BD} (hA:d.A.isSome=true) (h1:1<=bs.length) (h2:bs.length<=8192) (ha:asc x.C (fpOf bs)=none) (hc:x.C.length<4096):Cl ns (putS x (fpOf bs) d bs):=by
 have hnk:∀ c∈x.C,c.1≠fpOf bs:=fun c hc e=>by
  have:=asc_mem h.keys hc;rw [e,ha] at this;cases this
 have eC:setL x.C (fpOf bs) (.pend d bs)=x.C++[(fpOf bs,.pend d bs)]:=setL_none hnk _
 have hin:∀ c∈setL x.C (fpOf bs) (.pend d bs),c∈x.C∨c=(fpOf bs,.pend d bs):=fun c hc=>by
  rw [eC] at hc;rcases List.mem_append.1 hc with hc | hc
  · exact .inl hc
  exact .inr (by simpa using hc)
 have e2:(fpOf bs).2=(bs.length:Int):=rfl
 exact {
  live:=h.live
  up:=h.up
  name:=h.name
  few:=by
   simp only [putS,eC,zB,zE,zJ];omega
  ids:=fun c hc=>by
   rcases hin c hc with hc | rfl
   · exact h.ids c hc
   simp only [e2];omega
  offs:=fun i o hc=>by
   rcases hin _ hc with hc | hc
   · exact h.offs i o hc
   cases hc
  pends:=fun i d' bs' hc=>by
   rcases hin _ hc with hc | hc
   · exact h.pends i d' bs' hc
   cases hc;exact h2
  whole:=h.whole
  own:=fun i d' bs' hc=>by
   rcases hin _ hc with hc | hc
   · exact h.own i d' bs' hc
   cases hc;exact ⟨rfl,h2⟩
  ops:=h.ops
  files:=h.files
  ids8:=fun c hc=>by
   rcases hin c hc with hc | rfl
   · exact h.ids8 c hc
   simp only [e2];omega
  wait0:=by
   have:=h.wait0;simp only [putS];omega
  wait1:=by
   have h3:=h.waits;have:(Go.Proofs.YteabgcollokgjaaGreatDoor.pends x.C).length<=x.C.length:=by unfold Go.Proofs.YteabgcollokgjaaGreatDoor.pends;rw [zG];exact List.length_filter_le _ _
   simp only [putS];omega
  keys:=setL_nodup h.keys _ _
  f0:=h.f0
  nv:=h.nv
  ns1:=h.ns1
  ns2:=h.ns2
  ns3:=h.ns3
  no:=fun hF=>⟨(h.no hF).1,fun i o hc=>by
   rcases hin _ hc with hc | hc
   · exact (h.no hF).2 i o hc
   cases hc⟩
  file:=fun f hF=>by
   obtain ⟨k1,D,k2,k3,k4⟩:=h.file f hF
   exact ⟨k1,D,k2,k3,fun i o hc=>by
    rcases hin _ hc with hc | hc
    · exact k4 i o hc
    cases hc⟩
  len:=h.len
  waits:=by
   have h3:=h.waits
   have e:Go.Proofs.YteabgcollokgjaaGreatDoor.pends (setL x.C (fpOf bs) (.pend d bs))=Go.Proofs.YteabgcollokgjaaGreatDoor.pends x.C++[fpOf bs]:=by
    rw [eC];unfold Go.Proofs.YteabgcollokgjaaGreatDoor.pends;rw [List.filter_append,zH];simp [Pl.A,hA]
   simp only [putS,e,zB,zE,zJ];omega
  pA:=fun i d' bs' hc=>by
   rcases hin _ hc with hc | hc
   · exact h.pA i d' bs' hc
   cases hc
   exact ⟨hA,fun e=>by rw [e] at h1;simp at h1⟩
  size:=by
   have h3:=h.size
   have e:sizeC (setL x.C (fpOf bs) (.pend d bs))=sizeC x.C+bs.length:=by
    rw [eC];unfold sizeC;simp [e2]
   simp only [putS];rw [e,h3]
  frames:=by
   have h3:=h.frames
   have e:durs (setL x.C (fpOf bs) (.pend d bs))=durs x.C:=by
    rw [eC,durs_app];simp [durs]
   simp only [putS];rw [e];exact h3 }
theorem put_val (x:SR) (bs:List UInt8) (d:BD) (i:ID):valC (putS x (fpOf bs) d bs) i=if fpOf bs=i then some bs else valC x i:=by
 unfold valC putS;simp only;rw [asc_setL];split
 · rfl
 rfl
theorem rb_some {w:World} {d:BD} {bs:List UInt8} (h:RB w d bs) (h1:1<=bs.length):d.A.isSome=true:=by
 obtain ⟨a,b,c,_⟩:=h;cases hA:d.A with
 | some _=>rfl
 | none=>have:=c hA;omega
theorem opened_cl {p H:Nat} {r:Rp} {s:St} {nm:ByteArray} {ns:List ByteArray} (hn:nameV nm=true) (hd:s.dn=false) (hf:s.f=0) (he:∀ m,s.now m=none) (ho:s.ops.length<=900000) (h1:fileN nm∈ns) (h2:ns.length<=200):Cl ns (openedS p r s nm H) where
 live:=rfl
 up:=hd
 name:=by have:=nameV_size hn;simp only [openedS];omega
 few:=by simp [openedS]
 ids:=fun c hc=>by cases hc
 offs:=fun i o hc=>by cases hc
 pends:=fun i d bs hc=>by cases hc
 whole:=fun f hf=>by cases hf
 own:=fun i d bs hc=>by cases hc
 ops:=ho
 files:=fun n hn=>by
  obtain ⟨L,k1,k2,rfl⟩:=hn;cases L with
  | nil=>simp
  | cons m L=>
   have:=(k2 m).1 (zC ..);simp only [openedS] at this;rw [he] at this;cases this
 ids8:=fun c hc=>by cases hc
 wait0:=by simp [openedS]
 wait1:=by simp [openedS]
 keys:=by simp [openedS]
 f0:=hf
 nv:=hn
 ns1:=h1
 ns2:=h2
 ns3:=fun m hm=>by
  simp only [openedS] at hm;rw [he] at hm;cases hm
 no:=fun _=>⟨he _,fun i o hc=>by cases hc⟩
 file:=fun f hf=>by cases hf
 len:=by simp [openedS,flen]
 waits:=by simp [openedS,Go.Proofs.YteabgcollokgjaaGreatDoor.pends]
 pA:=fun i d bs hc=>by cases hc
 size:=rfl
 frames:=by simp [openedS,durs,entSum]
theorem rfold_keys (D:List UInt8) (C:Chs) (ys:List Ent):(∀ c∈(rfold D [] ys).1,∃ o,c.2=Pl.at o)/\∀ i,i∈((rfold D [] ys).1.map (·.1))↔i∈ys.map (·.1):=by
 obtain ⟨h1,h2,_⟩:=nfold_keys D C ys [];exact ⟨h1,fun i=>(h2 i).trans (by simp)⟩
theorem rfold_nodup (D:List UInt8) (ys:List Ent):((rfold D [] ys).1.map (·.1)).Nodup:=by
 have:∀ (ys:List Ent) (p:Chs×List UInt8),(p.1.map (·.1)).Nodup->((ys.foldl (rstep D) p).1.map (·.1)).Nodup:=by
  intro ys;induction ys with
  | nil=>intro p hp;exact hp
  | cons y ys ih=>intro p hp;exact ih _ (setL_nodup hp _ _)
 exact this ys ([],[]) zL
theorem rfold_at (D:List UInt8) (Y:List Ent) (h:∀ y∈Y,0<=y.1.2/\(y.2:Int)+28+y.1.2<=D.length):∀ c∈(rfold D [] Y).1,∃ y∈Y,y.1=c.1/\∃ o,c.2=Pl.at o/\cutB (rfold D [] Y).2 c.1 o=cutB D c.1 y.2/\o+28+c.1.2.toNat<=(rfold D [] Y).2.length:=by
 have:∀ (ys:List Ent) (p:Chs×List UInt8),(∀ y∈ys,y∈Y)->(∀ c∈p.1,∃ y∈Y,y.1=c.1/\∃ o,c.2=Pl.at o/\cutB p.2 c.1 o=cutB D c.1 y.2/\o+28+c.1.2.toNat<=p.2.length)->
  ∀ c∈(ys.foldl (rstep D) p).1,∃ y∈Y,y.1=c.1/\∃ o,c.2=Pl.at o/\cutB (ys.foldl (rstep D) p).2 c.1 o=cutB D c.1 y.2/\o+28+c.1.2.toNat<=(ys.foldl (rstep D) p).2.length:=by
  intro ys;induction ys with
  | nil=>intro p _ hp;exact hp
  | cons y ys ih=>
   intro p hY hp;rw [List.foldl_cons];refine ih _ (fun z hz=>hY z (zA _ hz)) (fun c hc=>?_);have hyY:=hY y (zC ..);obtain ⟨h0,hl⟩:=h y hyY;have hcl:=cutB_len h0 hl;have e2:(rstep D p y).2=p.2++headB y.1 1 (0+p.2.length)++cutB D y.1 y.2:=rfl;have hc':c∈setL p.1 y.1 (Pl.at (0+p.2.length)):=hc;rw [e2];rcases setL_memG hc' with rfl | hc'
   · refine ⟨y,hyY,rfl,0+p.2.length,rfl,?_,?_⟩
     · show List.take y.1.2.toNat (List.drop (0+p.2.length+28) (p.2++headB y.1 1 (0+p.2.length)++cutB D y.1 y.2))=_;rw [List.drop_left' (by simp [headB_len]),zI (by omega)]
     simp only [zB,headB_len,hcl];omega
   obtain ⟨z,hz,e,o,h1,h2,h3⟩:=hp c hc';refine ⟨z,hz,e,o,h1,?_,?_⟩
   · rw [zK,cutB_more h3,h2]
   simp only [zB];omega
 exact this Y ([],[]) (fun _ h=>h) (fun c hc=>by cases hc)
theorem frSum_sub:∀ (A B:List ID),A.Nodup->(∀ a∈A,a∈B)->frSum A<=frSum B:=by
 intro A;induction A with
 | nil=>intro B _ _;simp [frSum]
 | cons a A ih=>
  intro B hn hs;rw [List.nodup_cons] at hn;have ha:=hs a (zC ..);have h1:=ih (B.erase a) hn.2 (fun c hc=>(List.mem_erase_of_ne (fun e=>hn.1 (by rw [<- e];exact hc))).2 (hs c (zA _ hc)));have h2:=frSum_perm (List.perm_cons_erase ha);have e1:frSum (a::A)=28+a.2.toNat+frSum A:=by simp [frSum]
  have e2:frSum (a::B.erase a)=28+a.2.toNat+frSum (B.erase a):=by simp [frSum]
  omega
theorem entSum_keys (ys:List Ent):entSum ys=frSum (ys.map (·.1)):=by simp [entSum,frSum,Function.comp_def]
theorem durs_sub (C:Chs):((durs C).map (·.1)).Sublist (C.map (·.1)):=by
 induction C with
 | nil=>exact List.Sublist.refl _
 | cons c C ih=>
  obtain ⟨i,pl⟩:=c;cases pl with
  | pend d bs=>exact ih.cons _
  | «at» o=>exact ih.cons_cons _
theorem durs_nil {C:Chs} (h:∀ i o,(i,Pl.at o) ∉ C):durs C=[]:=by
 cases hd:durs C with
 | nil=>rfl
 | cons y L=>exact absurd (durs_mem (C:=C) (y:=y) (by rw [hd];simp)) (h _ _)
theorem durs_uniq {C:Chs} (hn:(C.map (·.1)).Nodup) {i:ID} {o p:Nat} (h1:(i,Pl.at o)∈C) (h2:(i,Pl.at p)∈C):o=p:=by
 have e1:=asc_mem hn h1;have e2:=asc_mem hn h2;rw [e1] at e2;injection e2 with e2;injection e2
theorem pends_setAt {a:ID} {o:Nat}:∀ (C:Chs),(∃ p,asc C a=some (Pl.at p))->pends (setL C a (Pl.at o))=pends C:=by
 intro C;induction C with
 | nil=>rintro ⟨p,h⟩;cases h
 | cons c C ih=>
  rintro ⟨p,h⟩;obtain ⟨i,pl⟩:=c;unfold asc at h;unfold setL;by_cases e:i=a
  · rw [if_pos e] at h |-; injection h with h;simp only at h;subst h;unfold pends;rw [zF,zF,if_neg (by simp [Pl.A]),if_neg (by simp [Pl.A])]
  rw [if_neg e] at h |-; have:=ih ⟨p,h⟩;unfold pends at this |-; rw [zF,zF];by_cases hA:pl.A.isSome=true
  · simp only [if_pos hA,zD,this]
  simp only [if_neg hA];exact this
theorem pends_updAll:∀ (mv:Chs) (C:Chs),(∀ c∈mv,(∃ o,c.2=Pl.at o)/\∃ p,asc C c.1=some (Pl.at p))->pends (updAll C mv)=pends C:=by
 intro mv;induction mv with
 | nil=>intro C _;rfl
 | cons c mv ih=>
  intro C h;obtain ⟨⟨o,ho⟩,hp⟩:=h c (zC ..);show pends (updAll (setL C c.1 c.2) mv)=_;rw [ho,ih _ (fun d hd=>?_),pends_setAt C hp];obtain ⟨h1,h2⟩:=h d (zA _ hd);refine ⟨h1,?_⟩;rw [asc_setL];by_cases e:c.1=d.1
  · rw [if_pos e];exact ⟨o,rfl⟩
  rw [if_neg e];exact h2
theorem nameB_fresh {nm:ByteArray} (h:nameV nm=true):nameB (freshN nm)=true:=by
 unfold nameV okN_ at h;simp only [Bool.and_eq_true,decide_eq_true_eq,List.all_eq_true] at h;obtain ⟨⟨h1,h2⟩,h3⟩:=h;have e:(freshN nm).data.toList=nm.data.toList++[46,110,101,119]:=by simp [freshN]
 have es:(freshN nm).size=nm.size+4:=by
  unfold freshN;rw [ByteArray.size_append];rfl
 unfold nameB okL;rw [e,es,List.all_append];simp only [Bool.and_eq_true,decide_eq_true_eq,List.all_eq_true];exact ⟨⟨by omega,by omega⟩,fun c hc=>okU_okW (h3 c hc),by decide⟩
theorem fresh_ne (nm:ByteArray):freshN nm≠fileN nm:=fun e=>by
 have:(freshN nm).size=(fileN nm).size:=by rw [e]
 unfold freshN fileN at this;rw [ByteArray.size_append,ByteArray.size_append,ByteArray.size_append] at this;have e1:(⟨#[46,110,101,119]⟩:ByteArray).size=4:=rfl;have e2:(⟨#[46]⟩:ByteArray).size=1:=rfl;have e3:(⟨#[49]⟩:ByteArray).size=1:=rfl;omega
theorem rq_ok {s:St} {nm:ByteArray} {n1 n2:Nat} {bs:List UInt8} (hd:s.dn=false) (hf:s.f=0) (hv:nameV nm=true) (hn:n1<=200) (hb:bs.length<=1048576):
 rqE s nm n1 n2 bs=0/\rqS s nm n1 n2 bs={ s with ops:=s.ops++[crOp nm bs]++[rnOp nm] }:=by
 obtain ⟨a1,a2⟩:=req_ok (gate_create hd (nameB_fresh hv) (by omega) (.inr (by omega)):gate s n1 (crOp nm bs)=0) hf
 have hnow:(St.now { s with ops:=s.ops++[crOp nm bs] }) (freshN nm)=some bs:=by
  rw [now_add];simp [applyF,FF.set]
 have hg:gate { s with ops:=s.ops++[crOp nm bs] } n2 (rnOp nm)=0:=by
  have h1:nameB (freshN nm)=true:=nameB_fresh hv;have h2:nameB (fileN nm)=true:=nameB_file hv;show (if s.dn then (303:Int) else if nameB (freshN nm)&&nameB (fileN nm) then (if (St.now { s with ops:=s.ops++[crOp nm bs] } (freshN nm)).isSome then 0 else 301) else 300)=0;rw [hnow,h1,h2,hd];rfl
 obtain ⟨b1,b2⟩:=req_ok hg hf;unfold rqE rqS;rw [if_pos a1,if_pos a1,a2,b1,b2];exact ⟨rfl,rfl⟩
theorem rn_now (s:St) (nm:ByteArray) (bs:List UInt8) (m:ByteArray):St.now { s with ops:=s.ops++[crOp nm bs]++[rnOp nm] } m=if freshN nm=m then none else if fileN nm=m then some bs else s.now m:=by
 have h1:=now_add { s with ops:=s.ops++[crOp nm bs] } (rnOp nm);have h2:=now_add s (crOp nm bs);simp only at h1;rw [h1,h2];have hne:=fresh_ne nm;simp only [applyF,if_neg hne,FF.set];by_cases e:freshN nm=m
 · simp [e]
 by_cases e2:fileN nm=m
 · have e3:¬ freshN nm=fileN nm:=hne;subst e2;simp [e3]
 simp [e,e2]
end
end Go.Proofs.YteabgcollokgjaaGreatDoor
