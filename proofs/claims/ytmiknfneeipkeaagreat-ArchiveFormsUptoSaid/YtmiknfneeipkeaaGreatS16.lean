/- Contracts of the walk, part 16. -/
import Derived.Handy
import Derived.Test.YtmiknfneeipkeaaGreatS12
import Derived.Test.YtmiknfneeipkeaaGreatS15
import Derived.Test.YtmiknfneeipkeaaGreatS11
open Go.Lib (hid)
namespace Go.Proofs.YtmiknfneeipkeaaGreat
open Go.RowKit Go.MapKept Go.ChangeMaps Go.Shelf Go.Sort
attribute [local go_sem] wext_cell
theorem ltI_trans {a b c:ID} (h1:ltID a b=true) (h2:ltID b c=true):ltID a c=true:=by
 simp only [ltID,decide_eq_true_eq] at *; omega
theorem ltI_irr (a:ID):ltID a a=false:=by simp [ltID]
theorem ltI_asym {a b:ID} (h1:ltID a b=true):ltID b a=false:=by
 simp only [ltID,decide_eq_true_eq,decide_eq_false_iff_not] at *; omega
theorem ltI_tri {a b:ID} (h1:ltID a b=false) (h2:a≠b):ltID b a=true:=by
 obtain ⟨a1,a2⟩:=a;obtain ⟨b1,b2⟩:=b;simp only [ltID,decide_eq_true_eq,decide_eq_false_iff_not] at *; have:¬ (a1=b1/\a2=b2):=fun h=>h2 (by rw [h.1,h.2]);omega
theorem sorted_uniq:∀ {a b:List ID},a.Pairwise (fun x y=>ltID x y=true)->b.Pairwise (fun x y=>ltID x y=true)->(∀ i,i∈a↔i∈b)->a=b
 | [],[],_,_,_=>rfl
 | [],y::b,_,_,h=>absurd ((h y).2 (List.mem_cons_self ..)) (by simp)
 | x::a,[],_,_,h=>absurd ((h x).1 (List.mem_cons_self ..)) (by simp)
 | x::a,y::b,ha,hb,h=>by
  obtain ⟨a1,a2⟩:=List.pairwise_cons.1 ha;obtain ⟨b1,b2⟩:=List.pairwise_cons.1 hb
  have exy:x=y:=by
   rcases List.mem_cons.1 ((h x).1 (List.mem_cons_self ..)) with e | hx
   · exact e
   rcases List.mem_cons.1 ((h y).2 (List.mem_cons_self ..)) with e | hy
   · exact e.symm
   have:=ltI_asym (b1 x hx);rw [a1 y hy] at this;cases this
  subst exy
  have:a=b:=sorted_uniq a2 b2 (fun i=>⟨fun hi=>by
   rcases List.mem_cons.1 ((h i).1 (List.mem_cons_of_mem _ hi)) with e | h1
   · have:=a1 i hi;rw [e,ltI_irr] at this;cases this
   · exact h1,fun hi=>by
   rcases List.mem_cons.1 ((h i).2 (List.mem_cons_of_mem _ hi)) with e | h1
   · have:=b1 i hi;rw [e,ltI_irr] at this;cases this
   exact h1⟩)
  rw [this]
def setR (l:List ID):List ID:=(allR [] l).map (·.1)
theorem setR_strict (l:List ID):(setR l).Pairwise (fun a b=>ltID a b=true):=List.pairwise_map.2 (allR_spec l List.Pairwise.nil).1
theorem setR_mem (l:List ID) (i:ID):i∈setR l↔i∈l:=by
 have h:=(allR_spec l (t:=[]) List.Pairwise.nil).2 i;have h2:= @asc_none_iff (allR [] l) i;unfold setR;constructor
 · intro hi;by_cases hm:i∈l
   · exact hm
   rw [if_neg hm] at h;exact absurd hi (h2.1 (by rw [h];rfl))
 intro hm;rw [if_pos hm] at h;exact key_of_asc h
theorem setR_len (l:List ID):(setR l).length<=l.length:=by
 unfold setR;have:=allR_len [] l;simpa using this
theorem dd_setR {l ys:List ID} (hp:ys.Perm l) (hs:ys.Pairwise (fun a b=>ltOf cmpID b a=false)):dd ys=setR l:=
 sorted_uniq (dd_strict hs) (setR_strict l) (fun i=>by rw [dd_mem,setR_mem,hp.mem_iff])
theorem idsOf_snoc (ms:List Man) (m:Man):idsOf (ms++[m])=idsOf ms++m.ids:=by simp [idsOf]
def rwOb (A:Option Addr) (ys:List ID):Ob where
 own:=fun i=>A=some ⟨i,0,none⟩
 rd:=fun _=>False
 holds:=fun w=>(A=none->ys=[])/\∀ ad,A=some ad->∃ g,ad=⟨g,0,none⟩/\RowI w g ys/\g<w.heap.size
 stable:=fun w w' h hs hk=>by
  refine ⟨h.1,fun ad e=>?_⟩;obtain ⟨g,rfl,⟨cur,hi,hr⟩,hlt⟩:=h.2 ad e;exact ⟨g,rfl,⟨cur,(hk g (.inl e)).trans hi,hr⟩,Nat.lt_of_lt_of_le hlt hs.2.2.2⟩
theorem SW.rwRi {b:Nat} {w0 w:World} {l:List Ob} {A:Option Addr} {F:List ID} (h:SW b w0 (rwOb A F::l) w):SW b w0 (riOb A F::l) w:=h.asRead (o':=riOb A F) (h.get 0 (o:=rwOb A F) rfl) (fun _ h=>h) (fun _ h=>h)
theorem SW.rowRw {b:Nat} {w0 w:World} {l:List Ob} {A:Option Addr} {cap:Nat} {F:List ID} (h:SW b w0 (rowOb 36 2 (.slice A F.length cap) F.length (F.flatMap encID)::l) w):SW b w0 (rwOb A F::l) w:=by
 have hh:w.ownsRow 0 36 2 (.slice A F.length cap) F.length (F.flatMap encID):=h.get 0 (o:=rowOb 36 2 (.slice A F.length cap) F.length (F.flatMap encID)) rfl;refine h.seen (o':=rwOb A F) ?_ (fun i hi=>?_) (fun _ h=>h)
 · by_cases hF:F.length=0
   · have hF':F=[]:=List.eq_nil_of_length_eq_zero hF;subst hF';refine ⟨fun _=>rfl,fun ad e=>?_⟩;rcases hh.2 with ⟨hv,_⟩ | ⟨g,cap',cur,hv,_⟩
     · injection hv with hv;rw [e] at hv;cases hv
     subst e;injection hv with h1;injection h1 with h1;subst h1;obtain ⟨_,h2,h3,_⟩:=own_rowI hh;exact ⟨g,rfl,h2,h3⟩
   obtain ⟨g,c',e⟩:=own_some hh hF;injection e with e1 e2 e3;subst e1;obtain ⟨_,h2,h3,_⟩:=own_rowI hh;exact ⟨(fun e=>by cases e),fun ad e=>by injection e with e;exact ⟨g,e.symm,h2,h3⟩⟩
 have hi:A=some ⟨i,0,none⟩:=hi;show (Value.slice A F.length cap).ownBlock=some i;rw [hi];rfl
section
variable {b:Nat} {w0 w w':World} {l:List Ob}
theorem SW.rowCell {A:Option Addr} {ids:List ID} (h:SW b w0 l w) (hA:riOb A ids∈l) {k:Nat} (hk:k<ids.length) {i:ID} (hi:ids.getD k id0=i):∃ g,A=some ⟨g,0,none⟩/\w.cell? ⟨g,k*2,none⟩=some (.int .u64 i.1)/\w.cell? ⟨g,k*2+1,none⟩=some (.int .i64 i.2):=by
 have hri:=h.1.holds (riOb A ids) hA;cases A with
 | none=>
  have h0:=hri.1 rfl;rw [h0] at hk;simp at hk
 | some ad=>
  obtain ⟨g,rfl,hr,_⟩:=hri.2 ad rfl;obtain ⟨a0,a1,_,_⟩:=hr.cells hk hi;exact ⟨g,rfl,a0,a1⟩
theorem append_zero_run (w:World) (t ty e:TypeId) (i:TypeInfo) (size:Nat) (ht:Tryz.prog.underlying t=some (.slice e)) (hi:Tryz.prog.info? e=some i)
 (v:Value) (n:Nat) (xs:List Value) (hown:w.ownsRow 0 e size v n xs) (A:Option Addr) (c:Nat):(Builtin.append_ #[t,t] ty #[v,.slice A 0 c]).run Tryz.prog w= .ok v w:=by
 rcases hown.2 with ⟨rfl,rfl⟩ | ⟨g,cap,cur,rfl,_,_,hnc,_⟩
 · cases A with
   | none=>simp [Builtin.append_,run_underlying ht,sizeOf,typeInfo,hi,Builtin.lenOf,Builtin.firstCells]
   | some ad=>
    have h0:=run_loadCells_list (P:=Tryz.prog) w ad [] (fun j v hj=>by simp at hj);simp only [List.length_nil] at h0;simp [Builtin.append_,run_underlying ht,sizeOf,typeInfo,hi,Builtin.lenOf,Builtin.firstCells,h0]
 cases A with
 | none=>simp [Builtin.append_,run_underlying ht,sizeOf,typeInfo,hi,Builtin.lenOf,Builtin.firstCells,hnc,storeCells]
 | some ad=>
  have h0:=run_loadCells_list (P:=Tryz.prog) w ad [] (fun j v hj=>by simp at hj);simp only [List.length_nil] at h0;simp [Builtin.append_,run_underlying ht,sizeOf,typeInfo,hi,Builtin.lenOf,Builtin.firstCells,hnc,h0,storeCells]
theorem step_rowM {ops:Array Oper} {o:Oper} {a:Act} {K:Act->World->Prop} {Q:Exit->Act->World->Prop} {E:Prop} {t e:TypeId} {i:TypeInfo} {z:Value} {size bytes:Nat} (hS:SW b w0 l w) (k:Nat) {v:Value} {n:Nat} {xs:List Value} (hk:l[k]? =some (rowOb e size v n xs))
 (hgd:o.guard=none) (s x:Operand) (ho:o.op= .call { callee:=.builtin .append,args:= #[s,x],argTypes:= #[t,t] })
 (ht:Tryz.prog.underlying t=some (.slice e)) (hi:Tryz.prog.info? e=some i) (hz:i.zero=some z) (hsize:i.size=size) (hby:i.bytes=bytes) (hzs:z.cells.size=size) (hsz:0<size)
 (hs:a.eval s=v) (A:Option Addr) (m c:Nat) (news:List Value) (hx:a.eval x= .slice A m c) (hl:news.length=m*size) (hA:0<m->∃ ad,A=some ad/\∀ j u,news[j]? =some u->w.cell? (ad.add j)=some u) (h1:∀ u∈news,u.oneCell'=true)
 (h63:n+m<=maxLen) (hbytes:(n+m)*bytes<=140737488355328)
 (h:∀ v' w',SW b w0 (l.set k (rowOb e size v' (n+m) (xs++news))) w'->K (a.put o.dst v') w'):
 if Region.wanted o (yielded ops a.tmps)=true then Oper.wp Tryz.prog o a w K Q else E:=by
 rcases Nat.eq_zero_or_pos m with rfl | hm
 · have hw:Region.wanted o (yielded ops a.tmps)=true:=by simp [Region.wanted,hgd]
   rw [if_pos hw];have hn:news=[]:=List.eq_nil_of_length_eq_zero (by simpa using hl);subst hn;have hrun:=append_zero_run w t o.type e i size ht hi v n xs (hS.get k hk) A c;unfold Oper.wp execOp;simp only [ho,resolve,invoke,builtin,Sem.run_bind,Sem.run_pure,Result.andThen_ok,List.map_toArray,List.map_cons,List.map_nil,hs,hx,hrun];refine h v w ?_
   have e:l.set k (rowOb e size v (n+0) (xs++[]))=l:=by
    rw [List.append_nil];exact set_self l k _ hk
   rw [e];exact hS
 obtain ⟨ad,rfl,hnews⟩:=hA hm;exact step_append_row hgd s x t ho e i z size bytes ht hi hz hsize hby hzs hsz v n xs hs (hS.get k hk) ad m c news hx hl hnews h1 hm h63 hbytes (fun v' w' h2 hg hv=>h v' w' (hS.row k hk h2 hg hv))
theorem wpList_rowMO {ops:Array Oper} {o:Oper} {rest:List Oper} {a:Act} {Q:Exit->Act->World->Prop} {t e:TypeId} {i:TypeInfo} {z:Value} {size bytes:Nat} (hS:SW b w0 l w) (k:Nat) {v:Value} {n:Nat} {xs:List Value} (hk:l[k]? =some (rowOb e size v n xs))
 (hgd:o.guard=none) (s x:Operand) (ho:o.op= .call { callee:=.builtin .append,args:= #[s,x],argTypes:= #[t,t] })
 (ht:Tryz.prog.underlying t=some (.slice e)) (hi:Tryz.prog.info? e=some i) (hz:i.zero=some z) (hsize:i.size=size) (hby:i.bytes=bytes) (hzs:z.cells.size=size) (hsz:0<size)
 (hs:a.eval s=v) (A:Option Addr) (m c:Nat) (news:List Value) (hx:a.eval x= .slice A m c) (hl:news.length=m*size) (hA:0<m->∃ ad,A=some ad/\∀ j u,news[j]? =some u->w.cell? (ad.add j)=some u) (h1:∀ u∈news,u.oneCell'=true)
 (h63:n+m<=maxLen) (hbytes:(n+m)*bytes<=140737488355328)
 (h:∀ v' w',SW b w0 (l.set k (rowOb e size v' (n+m) (xs++news))) w'->wpList Tryz.prog ops Q rest (a.put o.dst v') w'):
 wpList Tryz.prog ops Q (o::rest) a w:=by
 have:=step_rowM (ops:=ops) (Q:=Q) (E:=False) (K:=wpList Tryz.prog ops Q rest) hS k hk hgd s x ho ht hi hz hsize hby hzs hsz hs A m c news hx hl hA h1 h63 hbytes h;have hw:Region.wanted o (yielded ops a.tmps)=true:=by simp [Region.wanted,hgd]
 rw [if_pos hw] at this;unfold wpList
 first
  | (rw [if_pos hw];exact .inl this)
  | (simp only [hw,if_true];exact .inl this)
  | (simp only [hw,if_true];exact this)
end
section
variable {b:Nat} {w0 w w':World} {l:List Ob}
theorem SW.sortP {v:Value} {xs:List ID} (h:SW b w0 (rowOb 36 2 v xs.length (xs.flatMap encID)::l) w) (hn:xs.length<=4294967296):
 Calls Tryz.prog 82 #[v,.func (.func 55) #[] #[]] w (fun e w'=>e= .returned (.tuple #[])/\∃ ys:List ID,ys.Perm xs/\ys.Pairwise (fun a b=>ltOf cmpID b a=false)/\SW b w0 (rowOb 36 2 v ys.length (ys.flatMap encID)::l) w'):=by
 have hh:w.ownsRow 0 36 2 v xs.length (xs.flatMap encID):=h.get 0 rfl;by_cases h0:v= .slice none 0 0
 · subst h0;refine (sortP_none none 0 w).mono ?_;rintro e w' ⟨rfl,rfl⟩
   have hx:xs=[]:=by
    rcases hh.2 with ⟨_,h2⟩ | ⟨g,cap,cur,hv,_⟩
    · exact List.eq_nil_of_length_eq_zero h2
    cases hv
   subst hx;exact ⟨rfl,[],List.Perm.refl _,List.Pairwise.nil,h⟩
 obtain ⟨g,cap,rfl⟩:∃ g cap,v= .slice (some ⟨g,0,none⟩) xs.length cap:=by
  rcases hh.2 with ⟨hv,_⟩ | ⟨g,cap,cur,hv,_⟩
  · exact absurd hv h0
  exact ⟨g,cap,hv⟩
 refine (sortP_any 0 g _ cap xs w hh hn).mono ?_;rintro e w' ⟨rfl,ys,hp,hs,hown,hg⟩;refine ⟨rfl,ys,hp,hs,?_⟩;have:=h.row (w':=w') 0 rfl hown hg (.inl rfl);rw [hp.length_eq];exact this
theorem SW.compactO {v:Value} {xs:List ID} (h:SW b w0 (rowOb 36 2 v xs.length (xs.flatMap encID)::l) w) (hn:xs.length<=4294967296):
 Calls Tryz.prog 83 #[v] w (fun e w'=>∃ A c,e= .returned (.slice A (dd xs).length c)/\(dd xs).length<=c/\SW b w0 (rwOb A (dd xs)::l) w'):=by
 have hh:w.ownsRow 0 36 2 v xs.length (xs.flatMap encID):=h.get 0 rfl;by_cases h0:v= .slice none 0 0
 · subst h0
   have hx:xs=[]:=by
    rcases hh.2 with ⟨_,h2⟩ | ⟨g,cap,cur,hv,_⟩
    · exact List.eq_nil_of_length_eq_zero h2
    cases hv
   subst hx;have S:=hid h;clear h hh;go_enter Tryz.func83,Tryz.ntmps83;go_wp2_with fail
   go_ret;exact ⟨none,0,rfl,Nat.le_refl _,SW.rowRw (A:=none) (cap:=0) (F:=[]) S.out⟩
 obtain ⟨g,cap,rfl⟩:∃ g cap,v= .slice (some ⟨g,0,none⟩) xs.length cap:=by
  rcases hh.2 with ⟨hv,_⟩ | ⟨g,cap,cur,hv,_⟩
  · exact absurd hv h0
  exact ⟨g,cap,hv⟩
 obtain ⟨_,hr,hlt,_⟩:=own_rowI hh;have hcap:xs.length<=cap:=own_cap hh;refine (compact_any g cap xs w hr hn hlt hcap).mono ?_;rintro e w' ⟨rfl,hr',hg⟩;refine ⟨some ⟨g,0,none⟩,cap,rfl,Nat.le_trans (dd_len xs) hcap,?_⟩;have hgl:g<w'.heap.size:=Nat.lt_of_lt_of_le hlt hg.size
 have:=h.1.stepAt (w':=w') (o':=rwOb (some ⟨g,0,none⟩) (dd xs)) 0 rfl ⟨hg.os,hg.tape,hg.output,hg.size,fun i hi hn'=>hg.block i hi (fun e=>hn' e.symm),fun i hi=> .inl (by
  have hi:(some ⟨g,0,none⟩:Option Addr)=some ⟨i,0,none⟩:=hi;injection hi with hi;injection hi with hi;show (some g:Option Nat)=some i;rw [hi])⟩ (fun i hi=>hi.elim) ⟨(fun e=>by cases e),fun ad e=>by injection e with e;subst e;exact ⟨g,rfl,hr',hgl⟩⟩ (fun i hi=>by
  rcases hi with hi | hi
  · have hi:(some ⟨g,0,none⟩:Option Addr)=some ⟨i,0,none⟩:=hi;injection hi with hi;injection hi with hi;subst hi;exact hgl
  exact hi.elim)
 exact ⟨this.1,h.2.trans this.2⟩
abbrev LiveO (pin:List ID) (ms:List Man) (b:Nat) (w0:World) (l:List Ob) (e:Ending) (w':World):Prop:=
 (errM ms=0/\∃ A c,e= .returned (.tuple #[.slice A (setR (pin++idsOf ms)).length c,.int .i64 0])/\(setR (pin++idsOf ms)).length<=c/\SW b w0 (rwOb A (setR (pin++idsOf ms))::l) w')∨
 (errM ms≠0/\e= .returned (.tuple #[.slice none 0 0,.int .i64 (errM ms)])/\SW b w0 l w')
abbrev LiveP (pin:List ID) (ms:List Man) (b:Nat) (w0:World) (l:List Ob) (e:Ending) (w':World):Prop:=
 (errM ms=0/\∃ A c,e= .returned (.tuple #[.slice A (setR (pin++idsOf ms)).length c,.int .i64 0])/\SW b w0 (riOb A (setR (pin++idsOf ms))::l) w')∨
 (errM ms≠0/\e= .returned (.tuple #[.slice none 0 0,.int .i64 (errM ms)])/\SW b w0 l w')
theorem idsOf_take {ms:List Man} {k:Nat} (hk:k<ms.length):idsOf (ms.take (k+1))=idsOf (ms.take k)++(ms.getD k man0).ids:=by
 rw [take_snoc _ man0 _ hk,idsOf_snoc]
theorem rdC_top {x:Nat} {A:Option Addr} {t:List CT} (h:RdC w x A t) (y:Nat) (hy:∀ ad,A=some ad->ad.block≠y):RdC w y A t:=fun hp=>by
 obtain ⟨q,o,e,hb,_,hc⟩:=h hp;exact ⟨q,o,e,hb,hy _ e,hc⟩
def tcOb (A:Option Addr) (t:List CT):Ob where
 own:=fun _=>False
 rd:=fun i=>0<t.length/\∃ o,A=some ⟨i,o,none⟩
 holds:=fun w=>RdC w w.heap.size A t
 stable:=fun w w' h hs hk=>fun hp=>by
  obtain ⟨b,o,rfl,hb,_,hc⟩:=h hp;have hB:=hk b (.inr ⟨hp,o,rfl⟩);refine ⟨b,o,rfl,Nat.lt_of_lt_of_le hb hs.2.2.2,by have:=hs.2.2.2;omega,fun j hj i v hv=>?_⟩;rw [<- hc j hj i v hv];simp [World.cell?, hB]
set_option maxRecDepth 100000 in
set_option maxHeartbeats 8000000 in
theorem rSet_any (h:SW b w0 l w) (A:Option Addr) (c:Nat) (ids:List ID) (hr:riOb A ids∈l) (hn:ids.length<=1000000000):
 Calls Tryz.prog 94 #[.slice A ids.length c] w (fun e w'=>∃ B cb,e= .returned (.slice B (setR ids).length cb)/\SW b w0 (riOb B (setR ids)::l) w'):=by
 have S0:=hid h;have HA:=hid hr;clear h hr;obtain ⟨i1,gi,gz0,gz1,gz2⟩:=info_parts info36;go_enter Tryz.func94,Tryz.ntmps94;go_wp2_with fail
 go_loopw [3,4] (fun s3 s4 wr=>∃ (k:Nat) (T:Option Addr) (C:Nat),k<=ids.length/\s4= .int .i64 (k:Int)/\s3= .slice T (allR [] (ids.take k)).length C/\(∀ ad,T=some ad->w.heap.size<=ad.block)/\RdC wr wr.heap.size T (allR [] (ids.take k))/\SW b w0 l wr/\w.heap.size<=wr.heap.size) (fun _ s4 _=>ids.length-(intOf s4).toNat)
 case atStart=>exact ⟨0,none,0,Nat.zero_le _,rfl,rfl,(fun _ e=>by cases e),Rd.nil,S0.out,Nat.le_refl _⟩
 obtain ⟨k,T,C,hk,rfl,rfl,hT,hR,hs,hsz⟩:=hrel;have S1:=hid hs;have HT:=hid hT;have HR:=hid hR;clear hs hT hR;have htl:=allR_len [] (ids.take k);have htb:=allR_bd (t:=[]) (lo:=0) (hi:=0) (by omega) (by omega) (fun c hc=>by cases hc) (ids.take k)
 have HTB:Hid (∀ c∈allR [] (ids.take k), -1099511627776000<=c.2/\c.2<=1099511627776000):=fun c hc=>by
  have:=htb c hc;rw [List.length_take] at this;omega
 clear htb;rw [List.length_nil,List.length_take] at htl;by_cases hlt:k<ids.length
 · obtain ⟨i,hik⟩:∃ i,ids.getD k id0=i:=⟨_,rfl⟩;obtain ⟨g1,e1,a0,a1⟩:=S1.out.rowCell HA.out hlt hik
   have HST:Hid (allR [] (ids.take (k+1))=putR (allR [] (ids.take k)) i 1):=by
    rw [Hid,take_snoc _ id0 _ hlt,allR_snoc,hik]
   have hglt:g1<w.heap.size:=by
    obtain ⟨g2,e2,_,hlt2⟩:=(S0.out.1.holds (riOb A ids) HA.out).2 _ e1;injection e2 with e2;omega
   have HPT:=hid (Put_any g1 (allR [] (ids.take k)) T C i.1 i.2 1 wr (rdC_top HR.out g1 (fun ad e=>by have:=HT.out ad e;omega)) (by omega) (by omega) (by omega) HTB.out);subst e1;clear hik;go_wp2_with (go_at_call 130;(with_reducible refine HPT.out.mono ?_);refine halt_ ?_)
   rintro e w2 ⟨T2,C2,rfl,hr2,_,hn2,hb2⟩;have S2:=hid (S1.out.on hb2)
   have HR2:Hid (RdC w2 w2.heap.size T2 (allR [] (ids.take (k+1)))):=by
    rw [HST.out];exact rdC_top hr2 _ (fun ad e=>by have:=hn2 ad e;omega)
   have HN2:Hid (∀ ad,T2=some ad->w.heap.size<=ad.block):=fun ad e=>by have:=(hn2 ad e).1;omega
   have hsz2:w.heap.size<=w2.heap.size:=Nat.le_trans hsz hb2.size;rw [<- HST.out];clear hr2 hn2 hb2 HPT S1 a0 a1;go_wp2_with fail
   go_roundw
   case rel=>exact ⟨k+1,T2,C2,by omega,by go_num,rfl,HN2.out,HR2.out,S2.out,hsz2⟩
   simp [intOf];omega
 obtain rfl:k=ids.length:=by omega
 rw [List.take_length] at HR htl |-; obtain ⟨t,HTT⟩:∃ t,Hid (allR [] ids=t):=⟨_,rfl⟩;rw [HTT.out] at HR htl |-; obtain ⟨K,HK⟩:∃ K,Hid (t.map (·.1)=K):=⟨_,rfl⟩;have HSR:Hid (setR ids=K):=by rw [Hid,setR,HTT.out,HK.out]
 have HKL:Hid (K.length=t.length):=by rw [Hid, <- HK.out,List.length_map]
 have S1:Hid (SW b w0 (tcOb T t::l) wr):=S1.out.also HR.out (fun _ h=>h) (fun i hi=>by
  obtain ⟨hp,o,e⟩:=hi;obtain ⟨q,o2,e2,hb2,_⟩:=HR.out hp;rw [e] at e2;injection e2 with e2;injection e2 with e2;omega) (fun i hi y hy ho=>by
  obtain ⟨_,o,e⟩:=hi;have h1:=HT.out _ e;have h2:=(S0.out.1.own y hy i ho).2;simp only at h1;omega)
 clear HTB HR;go_wp2_with fail
 rename World=>wa;go_loopw [5,6] (fun s5 s6 wr=>∃ k:Nat,k<=t.length/\s6= .int .i64 (k:Int)/\SW b w0 (rowOb 36 2 s5 k ((K.take k).flatMap encID)::tcOb T t::l) wr) (fun _ s6 _=>t.length-(intOf s6).toNat)
 case atStart=>exact ⟨0,Nat.zero_le _,rfl,S1.out.newRow 36 2⟩
 rename World=>wz;obtain ⟨k,hk,rfl,hs⟩:=hrel;have S2:=hid hs;clear hs S1;by_cases hlt:k<t.length
 · have hR2:RdC wz wz.heap.size T t:=S2.out.get 1 (o:=tcOb T t) rfl;obtain ⟨g,o,rfl,hgB,_,hc⟩:=hR2 (by omega);obtain ⟨i,n,HI⟩:∃ i n,Hid (t.getD k ct0=(i,n)):=⟨_,_,rfl⟩;have c0:wz.cell? ⟨g,o+k*3,none⟩=some (.int .u64 i.1):=hc k hlt 0 _ (by rw [HI.out];rfl);have c1:wz.cell? ⟨g,o+k*3+1,none⟩=some (.int .i64 i.2):=hc k hlt 1 _ (by rw [HI.out];rfl)
   have HTK:Hid (K.take (k+1)=K.take k++[i]):=by
    rw [Hid,take_snoc _ id0 _ (by rw [HKL.out];exact hlt), <- HK.out];congr 2
    have h1:(t.map (·.1)).getD k id0=(t.getD k ct0).1:=by simp [List.getD_eq_getElem?_getD,List.getElem?_eq_getElem hlt]
    rw [h1,HI.out]
   clear hc hR2;go_wp2_with (at_builtin;(refine wpList_rowS (t:=31) (e:=36) (size:=2) (bytes:=16) (i:=i1) (S2.out.alloc _) 0 rfl (by rfl) (.tmp 25) (.tmp 31) (by rfl) Tryz.underlying31 gi gz0 gz1 gz2 rfl (by omega) (by rfl) ⟨wz.heap.size,0,none⟩ 1 [.int .u64 i.1,.int .i64 i.2] (by rfl) rfl (two_new wz _ _ 36 _ rfl) (encID_one i) (by unfold maxLen;omega) (by omega) ?_);refine halt_ ?_)
   intro v4 w4 s4
   have S4:Hid (SW b w0 (rowOb 36 2 v4 (k+1) ((K.take (k+1)).flatMap encID)::tcOb (some ⟨g,o,none⟩) t::l) w4):=by
    rw [Hid,HTK.out,List.flatMap_append];exact s4
   clear s4 S2 c0 c1;go_wp2_with fail
   go_roundw
   case rel=>exact ⟨k+1,by omega,by go_num,S4.out⟩
   simp [intOf];omega
 obtain rfl:k=t.length:=by omega
 have hKT:K.take t.length=K:=by rw [<- HKL.out,List.take_length]
 rw [hKT, <- HKL.out] at S2;have HOW:Hid (∃ B cb,u5= .slice B K.length cb):=own_slL (S2.out.get 0 rfl);obtain ⟨B,cb,rfl⟩:=HOW.out;clear hKT HOW;go_wp2_with fail
 go_ret;rw [HSR.out];exact ⟨B,cb,rfl,SW.sub S2.out.rowRi (List.Sublist.cons_cons _ (List.sublist_cons_self _ _))⟩
set_option maxRecDepth 100000 in
set_option maxHeartbeats 8000000 in
theorem rLive_any (h:SW b w0 l w) {A:Option Addr} {rs:List MR} {ms:List Man} (hm:imOb A rs ms∈l) (hn:ms.length<=600000) (hi:∀ m∈ms,m.ids.length<=9223372036854775807) (P:Option Addr) (pc:Nat) (pin:List ID) (hp:RdID w w.heap.size P pin) (hpl:pin.length<=100000) (c:Nat):
 Calls Tryz.prog 45 #[.slice A ms.length c,.slice P pin.length pc] w (LiveP pin ms b w0 l):=by
 have HM:=hid hm;have HI:=hid hi;have S0:=hid (h.newRow 36 2);have HP:=hid hp;clear h hm hi hp;obtain ⟨i1,gi,gz0,gz1,gz2⟩:=info_parts info36;go_enter Tryz.func45,Tryz.ntmps45;go_wp2_with (at_builtin;(refine wpList_rowMO (t:=31) (e:=36) (size:=2) (bytes:=16) (i:=i1) S0.out 0 rfl (by rfl) (.const (.slice none 0 0)) (.tmp 9) (by rfl) Tryz.underlying31 gi gz0 gz1 gz2 rfl (by omega) (by rfl) P pin.length pc (pin.flatMap encID) (by rfl) (flat_len encID_len pin) (rd_src HP.out) (encID_all pin) (by unfold maxLen;omega) (by omega) ?_);refine halt_ ?_)
 intro v1 w1 s1
 have S1:Hid (SW b w0 (rowOb 36 2 v1 (pin++idsOf (ms.take 0)).length ((pin++idsOf (ms.take 0)).flatMap encID)::l) w1):=by
  rw [Hid,List.take_zero,show idsOf []=[] from rfl,List.append_nil];simpa using s1
 clear s1 S0 HP;go_wp2_with fail
 go_loopw [6,7] (fun s6 s7 wr=>∃ k:Nat,k<=ms.length/\s7= .int .i64 (k:Int)/\Hid (errM (ms.take k)=0)/\SW b w0 (rowOb 36 2 s6 (pin++idsOf (ms.take k)).length ((pin++idsOf (ms.take k)).flatMap encID)::l) wr) (fun _ s7 _=>ms.length-(intOf s7).toNat)
 case atStart=>exact ⟨0,Nat.zero_le _,rfl,rfl,S1.out⟩
 obtain ⟨k,hk,rfl,HE,hs⟩:=hrel;have S2:=hid hs;clear hs S1
 have hbig:(idsOf (ms.take k)).length<=1024*600000:=by
  have h1:=idsOf_len HE.out;rw [List.length_take] at h1;omega
 by_cases hlt:k<ms.length
 · obtain ⟨h1,h2,h3⟩:=S2.out.1.holds (imOb A rs ms) (List.mem_cons_of_mem _ HM.out);obtain ⟨g,o,rfl,hgB,_,hc⟩:=h1 (by omega);obtain ⟨l1,l2,l3,l4⟩:=h3 k hlt;have hmem:=getD_mem ms man0 k hlt;have HTK:=hid (idsOf_take hlt);obtain ⟨m,HMK⟩:∃ m,Hid (ms.getD k man0=m):=⟨_,rfl⟩;obtain ⟨⟨rz,rA,rl,rc⟩,HR⟩:∃ r,Hid (rs.getD k mr0=r):=⟨_,rfl⟩;rw [HMK.out] at l1 l2 l4 hmem HTK;rw [HR.out] at l1 l2 l3 l4;simp only at l1 l2 l3 l4;subst l1 l2;have hil:=HI.out m hmem;have c0:wr.cell? ⟨g,o+k*2,none⟩=some (.int .i64 m.size):=hc k (by omega) 0 _ (by rw [HR.out];rfl);have c1:wr.cell? ⟨g,o+k*2+1,none⟩=some (.slice rA m.ids.length rc):=hc k (by omega) 1 _ (by rw [HR.out];rfl);have C1:=hid c1;have HB:Hid (manE m≠0->errM ms=manE m):=fun h=>by have:=errM_at HE.out hlt (by rw [HMK.out];exact h);rwa [HMK.out] at this
   have HZ:Hid (manE m=0->errM (ms.take (k+1))=0):=fun h=>by rw [take_snoc _ man0 _ hlt,errM_snoc _ _ HE.out,HMK.out];exact h
   have HRD:=hid l4;have HCK:=hid (rmanCheck_any _ m rA rc _ l4 hil);clear h1 h2 h3 hc l4 hmem;go_wp2_with (go_at_call 37;(with_reducible refine HCK.out.mono ?_);refine halt_ ?_)
   rintro e w2 ⟨rfl,hb2⟩;have S4:=hid (S2.out.on hb2);have HRD2:=hid (rd_top (HRD.out.on hb2));have d1:w2.cell? ⟨g,o+k*2+1,none⟩=some (.slice rA m.ids.length rc):=B_cell hb2 hgB C1.out;clear hb2 HCK S2 HRD c0 c1 C1;by_cases hE:manE m=0
   · have hle:=manE_len hE;have HE2:=hid (HZ.out hE);rw [hE];clear hE HB HZ;go_wp2_with (at_builtin;(refine wpList_rowMO (t:=31) (e:=36) (size:=2) (bytes:=16) (i:=i1) S4.out 0 rfl (by rfl) (.tmp 25) (.tmp 30) (by rfl) Tryz.underlying31 gi gz0 gz1 gz2 rfl (by omega) (by rfl) rA m.ids.length rc (m.ids.flatMap encID) (by rfl) (flat_len encID_len m.ids) (rd_src HRD2.out) (encID_all m.ids) (by rw [List.length_append];unfold maxLen;omega) (by rw [List.length_append];omega) ?_);refine halt_ ?_)
     intro v4 w4 s4
     have S5:Hid (SW b w0 (rowOb 36 2 v4 (pin++idsOf (ms.take (k+1))).length ((pin++idsOf (ms.take (k+1))).flatMap encID)::l) w4):=by
      rw [Hid,HTK.out];simp only [List.flatMap_append,List.length_append,List.append_assoc, <- Nat.add_assoc];exact s4
     clear s4 S4 d1;go_wp2_with fail
     go_roundw
     case rel=>exact ⟨k+1,by omega,by go_num,HE2,S5.out⟩
     simp [intOf];omega
   have HEM:=hid (HB.out hE);have HN:Hid (errM ms≠0):=by rw [Hid,HEM.out];exact hE
   have hbe:(manE m !=0)=true:=bne_iff_ne.2 hE;clear hE HB HZ;go_wp2_with fail
   go_ret2;exact .inr ⟨HN.out,by rw [HEM.out];rfl,S4.out.tail⟩
 obtain rfl:k=ms.length:=by omega
 have hT:=HE.out;rw [List.take_length] at hT hbig;rw [List.take_length] at S2;have HT:=hid hT;obtain ⟨xs,HXS⟩:∃ xs,Hid (pin++idsOf ms=xs):=⟨_,rfl⟩;have hxl:xs.length<=1000000000:=by rw [<- HXS.out,List.length_append];omega
 rw [HXS.out] at S2;obtain ⟨D,dc,rfl⟩:=own_slL (S2.out.get 0 rfl);have HSE:=hid (rSet_any S2.out.rowRi D dc xs (by simp) hxl);clear hT S2 hbig;go_wp2_with (go_at_call 94;(with_reducible refine HSE.out.mono ?_);refine halt_ ?_)
 rintro e w3 ⟨B,cb,rfl,s4⟩;have S4:=hid s4;clear s4 HSE;go_wp2_with fail
 go_ret2;refine .inl ⟨HT.out,B,cb,?_,?_⟩
 · rw [HXS.out];rfl
 rw [HXS.out];exact S4.out.sub (List.Sublist.cons_cons _ (List.sublist_cons_self _ _))
end
section
variable {b:Nat} {w0 w:World} {l:List Ob}
end
end Go.Proofs.YtmiknfneeipkeaaGreat
namespace Go.Proofs.YtmiknfneeipkeaaGreat
open Go.RowKit Go.MapKept Go.ChangeMaps Go.Shelf Go.Sort
attribute [local go_sem] wext_cell
section
variable {b:Nat} {w0 w w':World} {l:List Ob}
set_option maxRecDepth 100000 in
set_option maxHeartbeats 8000000 in
theorem chunksOf_pin (h:SW b w0 l w) {A:Option Addr} {rs:List MR} {ms:List Man} (hm:imOb A rs ms∈l) (hn:ms.length<=600000) (hi:∀ m∈ms,m.ids.length<=9223372036854775807) (pin:List ID) (hpin:pin=[]) (c:Nat):
 Calls Tryz.prog 39 #[.slice A ms.length c] w (LiveO pin ms b w0 l):=by
 have HM:=hid hm;have HI:=hid hi;clear hm hi;obtain ⟨i1,gi,gz0,gz1,gz2⟩:=info_parts info36;go_enter Tryz.func39,Tryz.ntmps39;have hpl:pin.length<=100000:=by rw [hpin];exact Nat.zero_le _
 have S1:Hid (SW b w0 (rowOb 36 2 (.slice none 0 0) (pin++idsOf (ms.take 0)).length ((pin++idsOf (ms.take 0)).flatMap encID)::l) w):=by
  rw [hpin];exact h.newRow 36 2
 clear h hpin;go_wp2_with fail
 go_loopw [4,10] (fun s4 s10 wr=>∃ k:Nat,k<=ms.length/\s10= .int .i64 (k:Int)/\Hid (errM (ms.take k)=0)/\SW b w0 (rowOb 36 2 s4 (pin++idsOf (ms.take k)).length ((pin++idsOf (ms.take k)).flatMap encID)::l) wr) (fun _ s10 _=>ms.length-(intOf s10).toNat)
 case atStart=>exact ⟨0,Nat.zero_le _,rfl,rfl,S1.out⟩
 obtain ⟨k,hk,rfl,HE,hs⟩:=hrel;have S2:=hid hs;clear hs S1
 have hbig:(idsOf (ms.take k)).length<=1024*600000:=by
  have h1:=idsOf_len HE.out;rw [List.length_take] at h1;omega
 by_cases hlt:k<ms.length
 · obtain ⟨h1,h2,h3⟩:=S2.out.1.holds (imOb A rs ms) (List.mem_cons_of_mem _ HM.out);obtain ⟨g,o,rfl,hgB,_,hc⟩:=h1 (by omega);obtain ⟨l1,l2,l3,l4⟩:=h3 k hlt;have hmem:=getD_mem ms man0 k hlt;have HTK:=hid (idsOf_take hlt);obtain ⟨m,HMK⟩:∃ m,Hid (ms.getD k man0=m):=⟨_,rfl⟩;obtain ⟨⟨rz,rA,rl,rc⟩,HR⟩:∃ r,Hid (rs.getD k mr0=r):=⟨_,rfl⟩;rw [HMK.out] at l1 l2 l4 hmem HTK;rw [HR.out] at l1 l2 l3 l4;simp only at l1 l2 l3 l4;subst l1 l2;have hil:=HI.out m hmem;have c0:wr.cell? ⟨g,o+k*2,none⟩=some (.int .i64 m.size):=hc k (by omega) 0 _ (by rw [HR.out];rfl);have c1:wr.cell? ⟨g,o+k*2+1,none⟩=some (.slice rA m.ids.length rc):=hc k (by omega) 1 _ (by rw [HR.out];rfl);have HB:Hid (manE m≠0->errM ms=manE m):=fun h=>by have:=errM_at HE.out hlt (by rw [HMK.out];exact h);rwa [HMK.out] at this
   have HZ:Hid (manE m=0->errM (ms.take (k+1))=0):=fun h=>by rw [take_snoc _ man0 _ hlt,errM_snoc _ _ HE.out,HMK.out];exact h
   have S3:=hid (S2.out.newCell 33 #[.int .i64 m.size,.slice rA m.ids.length rc]);have HRD:Hid (RdID (wr.alloc (.cells #[.int .i64 m.size,.slice rA m.ids.length rc] 33)) (wr.alloc (.cells #[.int .i64 m.size,.slice rA m.ids.length rc] 33)).heap.size rA m.ids):=rd_top (l4.alloc _);have HCK:=hid (manCheck_any _ m rA rc _ HRD.out hil);clear h1 h2 h3 hc l4 hmem S2;go_wp2_with (go_at_call 74;(with_reducible refine HCK.out.mono ?_);refine halt_ ?_)
   rintro e w2 ⟨rfl,hb2⟩;have S4:=hid (S3.out.on hb2);have HRD2:=hid (rd_top (HRD.out.on hb2));have d1:w2.cell? ⟨wr.heap.size,1,none⟩=some (.slice rA m.ids.length rc):=(S4.out.cell 0 rfl).cell 1;clear hb2 HCK S3 HRD c0 c1;by_cases hE:manE m=0
   · have hle:=manE_len hE;have HE2:=hid (HZ.out hE);rw [hE];clear hE HB HZ;go_wp2_with (at_builtin;(refine wpList_rowMO (t:=31) (e:=36) (size:=2) (bytes:=16) (i:=i1) S4.out 1 rfl (by rfl) (.tmp 19) (.tmp 21) (by rfl) Tryz.underlying31 gi gz0 gz1 gz2 rfl (by omega) (by rfl) rA m.ids.length rc (m.ids.flatMap encID) (by rfl) (flat_len encID_len m.ids) (rd_src HRD2.out) (encID_all m.ids) (by rw [List.length_append];unfold maxLen;omega) (by rw [List.length_append];omega) ?_);refine halt_ ?_)
     intro v4 w4 s4
     have S5:Hid (SW b w0 (rowOb 36 2 v4 (pin++idsOf (ms.take (k+1))).length ((pin++idsOf (ms.take (k+1))).flatMap encID)::l) w4):=by
      rw [Hid,HTK.out];simp only [List.flatMap_append,List.length_append,List.append_assoc, <- Nat.add_assoc];exact s4.tail
     clear s4 S4 d1;go_wp2_with fail
     go_roundw
     case rel=>exact ⟨k+1,by omega,by go_num,HE2,S5.out⟩
     simp [intOf];omega
   have HEM:=hid (HB.out hE);have HN:Hid (errM ms≠0):=by rw [Hid,HEM.out];exact hE
   have hbe:(manE m !=0)=true:=bne_iff_ne.2 hE;clear hE HB HZ;go_wp2_with fail
   go_ret2;exact .inr ⟨HN.out,by rw [HEM.out];rfl,S4.out.tail.tail⟩
 obtain rfl:k=ms.length:=by omega
 have hT:=HE.out;rw [List.take_length] at hT hbig;rw [List.take_length] at S2;have HT:=hid hT;have HSO:=hid (S2.out.sortP (by rw [List.length_append];omega));obtain ⟨xs,HXS⟩:∃ xs,Hid (pin++idsOf ms=xs):=⟨_,rfl⟩;have hxl:xs.length<=4294967296:=by rw [<- HXS.out,List.length_append];omega
 rw [HXS.out] at HSO;clear hT S2 hbig;go_wp2_with (go_at_call 82;(with_reducible refine HSO.out.mono ?_);refine halt_ ?_)
 rintro e w2 ⟨rfl,ys,hp,hso,s3⟩;have HCO:=hid (s3.compactO (by rw [hp.length_eq];exact hxl));rw [dd_setR hp hso] at HCO;clear s3 HSO hp hso;go_wp2_with (go_at_call 83;(with_reducible refine HCO.out.mono ?_);refine halt_ ?_)
 rintro e w3 ⟨B,cb,rfl,hcb,s4⟩;have HCB:=hid hcb;clear hcb;have S4:=hid s4;clear s4 HCO;go_wp2_with fail
 go_ret2;refine .inl ⟨HT.out,B,cb,?_,by rw [HXS.out];exact HCB.out,?_⟩
 · rw [HXS.out];rfl
 rw [HXS.out];exact S4.out
theorem chunksOf_any (h:SW b w0 l w) {A:Option Addr} {rs:List MR} {ms:List Man} (hm:imOb A rs ms∈l) (hn:ms.length<=600000) (hi:∀ m∈ms,m.ids.length<=9223372036854775807) (c:Nat):Calls Tryz.prog 39 #[.slice A ms.length c] w (LiveO [] ms b w0 l):=chunksOf_pin h hm hn hi [] rfl c
end
end Go.Proofs.YtmiknfneeipkeaaGreat
namespace Go.Proofs.YtmiknfneeipkeaaGreat
open Go.RowKit Go.MapKept Go.ChangeMaps Go.Shelf Go.Sort
attribute [local go_sem] wext_cell
theorem cmpID_zero {x y:ID}:cmpID x y=0↔x=y:=by
 obtain ⟨a,b⟩:=x;obtain ⟨c,d⟩:=y;unfold cmpID orI Lib.compareInt;simp only [Prod.mk.injEq];repeat' split
 all_goals (first | omega | simp_all)
abbrev AscI (t:List ID):Prop:=t.Pairwise (fun a b=>ltID a b=true)
def BsPost (t:List ID) (i:ID) (w:World) (e:Ending) (w':World):Prop:=
 Below w.heap.size w w'/\((∃ (k:Nat),k<t.length/\t.getD k id0=i/\e= .returned (.tuple #[.int .i64 k,.bool true]))∨∃ k:Nat,i ∉ t/\e= .returned (.tuple #[.int .i64 k,.bool false]))
theorem asc_getD {t:List ID} (h:AscI t) {i j:Nat} (hj:j<t.length) (hij:i<j):ltID (t.getD i id0) (t.getD j id0)=true:=by
 have:=List.pairwise_iff_getElem.1 h i j (by omega) hj hij;simpa [List.getD_eq_getElem?_getD,hj,show i<t.length by omega] using this
theorem bs_none {t:List ID} (h:AscI t) {i:ID} {k:Nat} (h1:∀ j,j<k->ltID (t.getD j id0) i=true) (h2:∀ j,k<=j->j<t.length->ltID (t.getD j id0) i=false) (h3:k<t.length->(t.getD k id0)≠i):i ∉ t:=by
 intro hm;obtain ⟨j,hj,e⟩:=List.mem_iff_getElem.1 hm;have e':t.getD j id0=i:=by simpa [List.getD_eq_getElem?_getD,hj] using e
 rcases Nat.lt_trichotomy j k with hlt | rfl | hgt
 · have:=h1 j hlt;rw [e',ltID_irrefl] at this;cases this
 · exact h3 hj (by rw [e'])
 have a:=asc_getD h hj hgt;rw [e'] at a;rw [h2 k (Nat.le_refl _) (by omega)] at a;cases a
end Go.Proofs.YtmiknfneeipkeaaGreat
namespace Go.Proofs.YtmiknfneeipkeaaGreat
open Go.RowKit Go.MapKept Go.ChangeMaps Go.Shelf Go.Sort
attribute [local go_sem] wext_cell
section
variable {b:Nat} {w0 w w':World} {l t:List Ob}
theorem take_id {l:List ID} {k:Nat} (h:k<l.length):l.take (k+1)=l.take k++[l.getD k id0]:=by
 rw [List.take_succ_eq_append_getElem h,List.getD_eq_getElem?_getD,List.getElem?_eq_getElem h];rfl
end
end Go.Proofs.YtmiknfneeipkeaaGreat
namespace Go.Proofs.YtmiknfneeipkeaaGreat
open Go.RowKit Go.MapKept Go.ChangeMaps Go.Shelf Go.Sort
attribute [local go_sem] wext_cell
section
variable {b:Nat} {w0 w w':World} {l t:List Ob}
end
end Go.Proofs.YtmiknfneeipkeaaGreat
namespace Go.Proofs
open Go.Shelf
def Tryz.lay166_ren:Go.Shelf.Ren:=⟨fun | 20=>166 | n=>n,fun | 22=>78 | 24=>85 | 25=>145 | 3=>3 | 0=>0 | 4=>4 | n=>n,fun | n=>n⟩
theorem Tryz.lay166:Go.Proofs.SlLaysF0.n20 Tryz.prog Tryz.lay166_ren:={
 mixed:=by kernel_rfl
 f20:=⟨Tryz.f166.name,by decide,Tryz.func166.trans (congrArg some (by kernel_rfl))⟩
 t0:=Tryz.underlying0
 a0:=Tryz.isAgg0
 z0:=Tryz.sizeOf0
 v0:=Tryz.zeroValue0
 t3:=Tryz.underlying3
 a3:=Tryz.isAgg3
 z3:=Tryz.sizeOf3
 v3:=Tryz.zeroValue3
 t4:=Tryz.underlying4
 a4:=Tryz.isAgg4
 z4:=Tryz.sizeOf4
 v4:=Tryz.zeroValue4
 t22:=Tryz.underlying78
 a22:=Tryz.isAgg78
 z22:=Tryz.sizeOf78
 v22:=Tryz.zeroValue78
 t25:=Tryz.underlying145
 a25:=Tryz.isAgg145
 z25:=Tryz.sizeOf145
 v25:=Tryz.zeroValue145 }
end Go.Proofs
namespace Go.Proofs.YtmiknfneeipkeaaGreat
open Go.RowKit Go.MapKept Go.ChangeMaps Go.Shelf Go.Sort
attribute [local go_sem] wext_cell
abbrev CN:=ID×MR
def encCN (e:CN):List Value:=[.int .u64 e.1.1,.int .i64 e.1.2,.int .i64 e.2.size,.slice e.2.A e.2.len e.2.cap]
def cn0:CN:=(id0,mr0)
theorem encCN_len (e:CN):(encCN e).length=4:=rfl
theorem encCN_one (e:CN):∀ u∈encCN e,u.oneCell'=true:=by
 intro u hu;simp [encCN] at hu;rcases hu with rfl | rfl | rfl | rfl<;>rfl
instance:Inhabited CN:=⟨cn0⟩
def cmpCN (x y:CN):Int:=cmpID x.1 y.1
theorem swoCN:SWO (ltOf cmpCN) where
 irrefl x:=swoID.irrefl x.1
 trans x y z h1 h2:=swoID.trans x.1 y.1 z.1 h1 h2
 ntrans x y z h1 h2:=swoID.ntrans x.1 y.1 z.1 h1 h2
set_option maxHeartbeats 2000000 in
theorem stable_walk (s fv:Value) (n:Nat) (hn:n<20) (w:World) (R:World->Prop) (h:Calls Tryz.prog 166 #[s,.int .i64 0,.int .i64 (n:Int),fv] w (fun e w'=>e= .returned (.tuple #[])/\R w')):Calls Tryz.prog 128 #[s,.int .i64 (n:Int),fv] w (fun e w'=>e= .returned (.tuple #[])/\R w'):=by
 have H:=hid h;clear h;go_enter Tryz.func128,Tryz.ntmps128;go_wp2_with fail
 go_loop [7,8] (fun v7 v8=>v7= .int .i64 0/\v8= .int .i64 20) (fun _ _=>0)
 case atStart=>exact ⟨rfl,rfl⟩
 obtain ⟨rfl,rfl⟩:=hrel;go_wp2_with (go_at_call 166;(with_reducible refine H.out.mono ?_);refine halt_ ?_)
 rintro e w1 rfl hR;have HR:=hid hR;clear hR H;go_wp2_with fail
 go_loopw [6] (fun v6 wr=>v6= .int .i64 20/\wr=w1) (fun _ _=>0)
 case atStart=>exact ⟨rfl,rfl⟩
 obtain ⟨rfl,rfl⟩:=hrel;go_wp2_with fail
 go_returns
 exact ⟨rfl,HR.out⟩
set_option maxHeartbeats 1000000 in
theorem stable84 (s fv:Value) (n:Nat) (w:World) (R:World->Prop) (hlen:(Builtin.len_ #[78] 3 #[s]).run Tryz.prog w= .ok (.int .i64 (n:Int)) w) (h:Calls Tryz.prog 128 #[s,.int .i64 (n:Int),fv] w (fun e w'=>e= .returned (.tuple #[])/\R w')):Calls Tryz.prog 84 #[s,fv] w (fun e w'=>e= .returned (.tuple #[])/\R w'):=by
 have H:=hid h;clear h;go_enter Tryz.func84,Tryz.ntmps84;go_wp2_with (go_at_call 128;(with_reducible refine H.out.mono ?_);refine halt_ ?_)
 rintro e w1 ⟨rfl,hR⟩;have HR:=hid hR;clear hR H;go_wp2_with fail
 go_returns
 exact ⟨rfl,HR.out⟩
theorem sortCN_none (p:Option Addr) (cap:Nat) (w:World):Calls Tryz.prog 84 #[.slice p 0 cap,.func (.func 85) #[] #[]] w fun e w'=>e= .returned (.tuple #[])/\w'=w:=
 stable84 _ _ 0 w _ (by simp [Builtin.len_,run_underlying Tryz.underlying78,Result.andThen,goInt]) (stable_walk _ _ 0 (by omega) w _ (AnyF.insertionSortCmpFunc_none Tryz.lay166 p cap _ w))
end Go.Proofs.YtmiknfneeipkeaaGreat
namespace Go.Proofs.YtmiknfneeipkeaaGreat
open Go.RowKit Go.MapKept Go.ChangeMaps Go.Shelf Go.Sort
attribute [local go_sem] wext_cell
set_option maxHeartbeats 2000000 in
theorem Equal_any (x y:Nat) (a b:List ID) (A B:Option Addr) (c d:Nat) (w:World) (ha:RdID w x A a) (hb:RdID w y B b) (hla:a.length<=9223372036854775807) (hlb:b.length<=9223372036854775807):
 Calls Tryz.prog 86 #[.slice A a.length c,.slice B b.length d] w (Gives (.bool (decide (a=b))) w):=by
 have Ha:=hid ha;have Hb:=hid hb;clear ha hb;by_cases hlen:a.length=b.length
 · have hbe:(a.length !=b.length)=false:=by simp [hlen]
   have hbi:(((a.length:Nat):Int) !=((b.length:Nat):Int))=false:=by simp [hlen]
   have Hlen:=hid hlen;clear hlen;go_enter Tryz.func86,Tryz.ntmps86;go_wp2_with fail
   go_loopw [13] (fun v wr=>∃ k:Nat,k<=a.length/\v= .int .i64 k/\Hid (a.take k=b.take k)/\Below w.heap.size w wr) (fun v _=>a.length-(intOf v).toNat)
   case atStart=>exact ⟨0,Nat.zero_le _,rfl,rfl,Below.refl _ _⟩
   obtain ⟨k,hk,rfl,Hk,hbw⟩:=hrel;have Hbw:=hid hbw;clear hbw;by_cases hlt:k<a.length
   · have hlt':k<b.length:=by have:=Hlen.out;omega
     obtain ⟨b1,o1,rfl,hb1,_,hc1⟩:=Ha.out (by omega);obtain ⟨b2,o2,rfl,hb2,_,hc2⟩:=Hb.out (by omega);obtain ⟨s0,s1,HI⟩:∃ s0 s1,Hid (a.getD k (0,0)=(s0,s1)):=⟨_,_,rfl⟩;obtain ⟨r0,r1,HJ⟩:∃ r0 r1,Hid (b.getD k (0,0)=(r0,r1)):=⟨_,_,rfl⟩;have p0:wr.cell? ⟨b1,o1+k*2,none⟩=some (.int .u64 s0):=B_cell Hbw.out hb1 (hc1 k hlt 0 _ (by rw [HI.out];rfl));have q0:wr.cell? ⟨b2,o2+k*2,none⟩=some (.int .u64 r0):=B_cell Hbw.out hb2 (hc2 k hlt' 0 _ (by rw [HJ.out];rfl));have p1:wr.cell? ⟨b1,o1+k*2+1,none⟩=some (.int .i64 s1):=B_cell Hbw.out hb1 (hc1 k hlt 1 _ (by rw [HI.out];rfl));have q1:wr.cell? ⟨b2,o2+k*2+1,none⟩=some (.int .i64 r1):=B_cell Hbw.out hb2 (hc2 k hlt' 1 _ (by rw [HJ.out];rfl));clear hc1 hc2;by_cases e0:s0=r0
     · obtain rfl:=e0;by_cases e1:s1=r1
       · obtain rfl:=e1;go_wp2_with fail
         go_quiet (fail)
         go_wp2_with fail
         go_roundw
         case rel=>exact ⟨k+1,by omega,by go_num,take_both (d:=(0,0)) hlt hlt' Hk.out (by rw [HI.out,HJ.out]),bdrewN Hbw.out _⟩
         simp [intOf];omega
       have hne:(s1==r1)=false:=by rw [beq_eq_false_iff_ne];exact e1
       have HF:Hid (decide (a=b)=false):=by
        unfold Hid;rw [decide_eq_false_iff_not];exact ne_of_getD (0,0) k (fun h=>e1 (by rw [HI.out,HJ.out] at h;simp at h;omega))
       clear e1;go_wp2_with fail
       go_quiet (fail)
       go_wp2_with fail
       go_ret;exact gb HF.out (bdrewN Hbw.out _)
     have hne:(s0==r0)=false:=by rw [beq_eq_false_iff_ne];exact e0
     have HF:Hid (decide (a=b)=false):=by
      unfold Hid;rw [decide_eq_false_iff_not];exact ne_of_getD (0,0) k (fun h=>e0 (by rw [HI.out,HJ.out] at h;simp at h;omega))
     clear e0;go_wp2_with fail
     go_quiet (fail)
     go_wp2_with fail
     go_ret;exact gb HF.out (bdrewN Hbw.out _)
   obtain rfl:k=a.length:=by omega
   have HT:Hid (decide (a=b)=true):=by
    unfold Hid;rw [decide_eq_true_eq];exact eq_of_take Hlen.out Hk.out
   go_wp2_with fail
   go_ret;exact gb HT.out Hbw.out
 have hbe:(a.length !=b.length)=true:=by rw [bne_iff_ne];exact hlen
 have hbi:(((a.length:Nat):Int) !=((b.length:Nat):Int))=true:=by rw [bne_iff_ne];omega
 have HF:Hid (decide (a=b)=false):=by
  unfold Hid;rw [decide_eq_false_iff_not];intro e;exact hlen (by rw [e])
 clear hlen;go_enter Tryz.func86,Tryz.ntmps86;go_wp2_with fail
 go_ret;exact gb HF.out (Below.refl _ _)
end Go.Proofs.YtmiknfneeipkeaaGreat
