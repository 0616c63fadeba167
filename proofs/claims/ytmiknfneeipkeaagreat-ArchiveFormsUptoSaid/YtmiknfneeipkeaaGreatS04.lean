/- Contracts of the walk, part 4. -/
import Derived.DeepKeys4
import Derived.WalkArith
import Derived.Lib.Hide
import Derived.BigRegion
import Derived.BigQuiet
import Derived.Deep.Cut
import Derived.Deep.CutRange
import Derived.Deep.CutBlock
import Derived.Deep.LoopGhost
import Derived.Sort.Walk0
import Derived.Shelf.SlSortCmp.Insertion
import Derived.Lib.Small
import Derived.Test.YtmiknfneeipkeaaGreatS02
import Derived.Test.YtmiknfneeipkeaaGreatS03
open Go.Lib (hid)
namespace Go.Proofs.YtmiknfneeipkeaaGreat
open Go.RowKit Go.MapKept Go.ChangeMaps
open Go.Maps (Keyed)
section
variable {α β:Type} [DecidableEq α]
def delL:List (α×β)->α->List (α×β)
 | [],_=>[]
 | c::L,a=>if c.1=a then L else c::delL L a
theorem delL_at {L:List (α×β)} (hn:(L.map (·.1)).Nodup) {j:Nat} {c:α×β} (h:L[j]? =some c):delL L c.1=L.eraseIdx j:=by
 induction L generalizing j with
 | nil=>simp at h
 | cons d L ih=>
  simp only [List.map_cons,List.nodup_cons] at hn;cases j with
  | zero=>simp at h;subst h;simp [delL]
  | succ j=>
   simp only [List.getElem?_cons_succ] at h;have:d.1≠c.1:=fun e=>hn.1 (by rw [e];exact List.mem_map.2 ⟨c,List.mem_of_getElem? h,rfl⟩);rw [delL,if_neg this,ih hn.2 h];rfl
theorem setL_pairwise {R:(α×β)->(α×β)->Prop} {L:List (α×β)} (hn:(L.map (·.1)).Nodup) (h:L.Pairwise R) (a:α) (v:β) (hs:∀ x y,R x y->R y x) (hv:∀ c∈L,c.1≠a->R c (a,v)):(setL L a v).Pairwise R/\∀ c∈setL L a v,c=(a,v)∨c∈L:=by
 induction L with
 | nil=>simp [setL]
 | cons c L ih=>
  obtain ⟨h1,h2⟩:=List.pairwise_cons.1 h;simp only [List.map_cons,List.nodup_cons] at hn;obtain ⟨i1,i2⟩:=ih hn.2 h2 (fun d hd=>hv d (by simp [hd]));rw [setL];split
  · rename_i e
    refine ⟨List.pairwise_cons.2 ⟨fun d hd=>?_,h2⟩,fun d hd=>?_⟩
    · by_cases hd1:d.1=a
      · exact absurd (List.mem_map.2 ⟨d,hd,by rw [hd1,e]⟩) hn.1
      exact hs _ _ (hv d (by simp [hd]) hd1)
    rcases List.mem_cons.1 hd with rfl | hd
    · exact .inl rfl
    exact .inr (by simp [hd])
  rename_i e
  refine ⟨List.pairwise_cons.2 ⟨fun d hd=>?_,i1⟩,fun d hd=>?_⟩
  · rcases i2 d hd with rfl | hd
    · exact hv c (by simp) e
    exact h1 d hd
  rcases List.mem_cons.1 hd with rfl | hd
  · exact .inr (by simp)
  rcases i2 d hd with h | h
  · exact .inl h
  exact .inr (by simp [h])
end
section
variable {α β:Type} [DecidableEq α]
variable {P:Program} {k:TypeId} {ok:α->Prop} {kv:α->Value} {vv:β->Value}
theorem set_block {W:World} {b:Nat} {o o':Obj} (ho:W.heap[b]? =some o):W.grownBy (setBlock W b o') (some b)/\(setBlock W b o').heap.size=W.heap.size/\(setBlock W b o').heap[b]? =some o':=by
 have hlt:b<W.heap.size:=(Array.getElem?_eq_some_iff.1 ho).1;refine ⟨⟨rfl,rfl,rfl,by simp [setBlock],fun i hi hne=>?_⟩,by simp [setBlock],by simp [setBlock,hlt]⟩;have:b≠i:=fun e=>hne (by rw [e]);simp [setBlock,this]
theorem MapIs.update (M:MK P k ok kv) {t e:TypeId} (ht:P.underlying t=some (.map k e)) {w:World} {b:Nat} {L:List (α×β)} (h:MapIs ok kv vv w b L) {a:α} (ha:ok a) (v:β):
 ∃ w',(Instr.mapUpdate t (.map (some b)) (kv a) (vv v)).run P w= .ok () w'/\MapIs ok kv vv w' b (setL L a v)/\w.grownBy w' (some b)/\w'.heap.size=w.heap.size:=by
 obtain ⟨es,clock,hb,hs,he,hok⟩:=h;obtain ⟨l,hl⟩:=M.key a ha
 have hok':∀ c∈setL L a v,ok c.1:=by
  intro c hc;have:c.1∈(setL L a v).map (·.1):=List.mem_map.2 ⟨c,hc,rfl⟩;rcases (setL_keys L a v c.1).1 this with h | h
  · rw [h];exact ha
  obtain ⟨d,hd,e⟩:=List.mem_map.1 h;rw [<- e];exact hok d hd
 rcases MapIs.find (w:=w) M hs he hok ha with ⟨h1,h0,h2⟩ | ⟨j,x,v0,h1,h2,h3,h4,h5⟩
 · refine ⟨setBlock w b (.map (es.push ⟨kv a,vv v,clock⟩) (clock+1)),?_,⟨_,_,(set_block hb).2.2,stamped_push hs h0,?_,hok'⟩,(set_block hb).1,(set_block hb).2.1⟩
   · simp [Instr.mapUpdate,run_underlying ht,MapKept.run_getObj_map hb,M.K.check w false hl,h1,MapKept.run_setObj_map _ hb,Result.andThen,setBlock]
   rw [setL_none h2];simp [he]
 have hj:es[j]? =some x:=by simpa using h2
 refine ⟨setBlock w b (.map (es.modify j (fun e'=>{ e' with key:=kv a,val:=vv v })) clock),?_,⟨_,_,(set_block hb).2.2,?_,setL_enc hs he h4 v,hok'⟩,(set_block hb).1,(set_block hb).2.1⟩
 · simp [Instr.mapUpdate,run_underlying ht,MapKept.run_getObj_map hb,M.K.check w false hl,h1,hj,h3,M.K.stays w hl,MapKept.run_setObj_map _ hb,Result.andThen,setBlock]
 refine stamped_modify hs _ _ (fun _ _=>rfl) (fun e' _ he'=>?_);rw [hj] at he';cases he'
 exact h3.symm
end
end Go.Proofs.YtmiknfneeipkeaaGreat
namespace Go.Proofs.YtmiknfneeipkeaaGreat
open Go.RowKit Go.MapKept Go.ChangeMaps
def rowOb (e:TypeId) (size:Nat) (v:Value) (n:Nat) (xs:List Value):Ob where
 own:=fun i=>v.ownBlock=some i
 rd:=fun _=>False
 holds:=fun w=>w.ownsRow 0 e size v n xs
 stable:=fun w w' h hs hk=>by
  refine ⟨h.1,?_⟩;rcases h.2 with h2 | ⟨g,cap,cur,hv,h0,hh,hr⟩
  · exact .inl h2
  exact .inr ⟨g,cap,cur,hv,h0,(hk g (.inl (by rw [hv];rfl))).trans hh,hr⟩
def SW (b:Nat) (w0:World) (l:List Ob) (w:World):Prop:=Sep b w l/\Below b w0 w
section
variable {b:Nat} {w0 w w':World} {l:List Ob} {o o':Ob}
theorem SW.refl (h:Sep b w l):SW b w l w:=⟨h,Below.refl _ _⟩
theorem SW.on (h:SW b w0 l w) (hb:Below w.heap.size w w'):SW b w0 l w':=⟨h.1.on hb,h.2.trans (hb.mono h.1.base)⟩
theorem SW.drew (h:SW b w0 l w):SW b w0 l w.drew:=h.on ((Below.refl _ _).drew)
theorem SW.alloc (h:SW b w0 l w) (x:Obj):SW b w0 l (w.alloc x):=h.on ((Below.refl _ _).alloc (Nat.le_refl _) x)
theorem SW.sub {l':List Ob} (h:SW b w0 l w) (hs:l'.Sublist l):SW b w0 l' w:=⟨h.1.sub hs,h.2⟩
theorem SW.tail (h:SW b w0 (o::l) w):SW b w0 l w:=⟨h.1.tail,h.2⟩
theorem SW.cell (h:SW b w0 l w) (k:Nat) {g:Nat} {t:TypeId} {cs:Array Value} (hk:l[k]? =some (cellOb g t cs)):IsB w g t cs:=h.1.get hk
theorem SW.get (h:SW b w0 l w) (k:Nat) (hk:l[k]? =some o):o.holds w:=h.1.get hk
theorem SW.setAt (h:SW b w0 l w) (k:Nat) {g:Nat} {t:TypeId} {cs:Array Value} (hk:l[k]? =some (cellOb g t cs)) (j:Nat) (u:Value):SW b w0 (l.set k (cellOb g t (cs.setIfInBounds j u))) (w.setCell ⟨g,j,none⟩ u):=⟨(h.1.setAt k hk j u).1,h.2.trans (h.1.setAt k hk j u).2⟩
theorem SW.newCell (h:SW b w0 l w) (t:TypeId) (cs:Array Value):SW b w0 (cellOb w.heap.size t cs::l) (w.alloc (.cells cs t)):=⟨(h.1.newCell t cs).1,h.2.trans (h.1.newCell t cs).2⟩
theorem SW.newRow (h:SW b w0 l w) (e:TypeId) (size:Nat):SW b w0 (rowOb e size (.slice none 0 0) 0 []::l) w:=by
 refine ⟨⟨h.1.base,fun y hy=>?_,fun y hy i hi=>?_,fun y hy i hi=>?_,List.pairwise_cons.2 ⟨fun y hy=>⟨fun i hi=>?_,fun i hi hi'=>?_⟩,h.1.apart⟩⟩,h.2⟩
 · rcases List.mem_cons.1 hy with rfl | hy
   · exact World.ownsRow_nil _ _ _ _
   exact h.1.holds y hy
 · rcases List.mem_cons.1 hy with rfl | hy
   · cases hi
   exact h.1.own y hy i hi
 · rcases List.mem_cons.1 hy with rfl | hy
   · cases hi
   exact h.1.rd y hy i hi
 · cases hi
 cases hi'
theorem Sep.row {e:TypeId} {size n n':Nat} {v v':Value} {xs xs':List Value} (h:Sep b w l) (k:Nat) (hk:l[k]? =some (rowOb e size v n xs)) (h2:w'.ownsRow 0 e size v' n' xs') (hg:w.grownBy w' v.ownBlock) (hv:v'.ownBlock=v.ownBlock∨v'.ownBlock=some w.heap.size):
 Sep b w' (l.set k (rowOb e size v' n' xs'))/\Below b w w':=by
 refine h.stepAt k hk ⟨hg.os,hg.tape,hg.output,hg.size,fun i hi hn=>hg.block i hi (fun e=>hn e.symm),fun i hi=>?_⟩ (fun i hi=>hi.elim) h2 (fun i hi=>?_)
 · rcases hv with hv | hv
   · exact .inl (hv.symm.trans hi)
   have hi':v'.ownBlock=some i:=hi;rw [hv] at hi';injection hi' with hi';exact .inr (by omega)
 rcases hi with hi | hi
 · exact (h2.lt i hi).2
 exact hi.elim
theorem SW.row {e:TypeId} {size n n':Nat} {v v':Value} {xs xs':List Value} (h:SW b w0 l w) (k:Nat) (hk:l[k]? =some (rowOb e size v n xs)) (h2:w'.ownsRow 0 e size v' n' xs') (hg:w.grownBy w' v.ownBlock) (hv:v'.ownBlock=v.ownBlock∨v'.ownBlock=some w.heap.size):
 SW b w0 (l.set k (rowOb e size v' n' xs')) w':=⟨(h.1.row k hk h2 hg hv).1,h.2.trans (h.1.row k hk h2 hg hv).2⟩
theorem range_filterMap {α:Type} (l:List α):(List.range l.length).filterMap (fun i=>l[i]?)=l:=by
 induction l with
 | nil=>rfl
 | cons x l ih=>
  rw [List.length_cons,List.range_succ_eq_map,List.filterMap_cons];simp only [List.getElem?_cons_zero,List.filterMap_map]
  have e:((fun i=>(x::l)[i]?) ∘ Nat.succ)=(fun i=>l[i]?):=by
   funext i
   simp
  rw [e,ih]
theorem SW.front {pre t:List Ob} (h:SW b w0 (pre++t) w) (idx:List Nat) {n:Nat} (hl:pre.length=n) (hp:idx.Perm (List.range n)):SW b w0 (idx.filterMap (fun i=>pre[i]?)++t) w:=by
 subst hl;refine ⟨h.1.perm (List.Perm.append_right t ?_),h.2⟩;have:=hp.filterMap (fun i=>pre[i]?);rw [range_filterMap] at this;exact this
theorem SW.newCellAt (h:SW b w0 l w) (t:TypeId) (cs:Array Value) {H:Nat} (hH:w.heap.size=H):SW b w0 (cellOb H t cs::l) (w.alloc (.cells cs t)):=hH ▸ h.newCell t cs
theorem step_rowS {ops:Array Oper} {o:Oper} {a:Act} {K:Act->World->Prop} {Q:Exit->Act->World->Prop} {E:Prop} {t e:TypeId} {i:TypeInfo} {z:Value} {size bytes:Nat} (hS:SW b w0 l w) (k:Nat) {v:Value} {n:Nat} {xs:List Value} (hk:l[k]? =some (rowOb e size v n xs))
 (hgd:o.guard=none) (s x:Operand) (ho:o.op= .call { callee:=.builtin .append,args:= #[s,x],argTypes:= #[t,t] })
 (ht:Tryz.prog.underlying t=some (.slice e)) (hi:Tryz.prog.info? e=some i) (hz:i.zero=some z) (hsize:i.size=size) (hby:i.bytes=bytes) (hzs:z.cells.size=size) (hsz:0<size)
 (hs:a.eval s=v) (ad:Addr) (c:Nat) (news:List Value) (hx:a.eval x= .slice (some ad) 1 c) (hl:news.length=size) (hnews:∀ j u,news[j]? =some u->w.cell? (ad.add j)=some u) (h1:∀ u∈news,u.oneCell'=true)
 (h63:n+1<=maxLen) (hbytes:(n+1)*bytes<=140737488355328)
 (h:∀ v' w',SW b w0 (l.set k (rowOb e size v' (n+1) (xs++news))) w'->K (a.put o.dst v') w'):
 if Region.wanted o (yielded ops a.tmps)=true then Oper.wp Tryz.prog o a w K Q else E:=
 step_append_row hgd s x t ho e i z size bytes ht hi hz hsize hby hzs hsz v n xs hs (hS.get k hk) ad 1 c news hx (by rw [hl,Nat.one_mul]) hnews h1 (by omega) h63 hbytes (fun v' w' h2 hg hv=>h v' w' (hS.row k hk h2 hg hv))
theorem wpList_rowS {ops:Array Oper} {o:Oper} {rest:List Oper} {a:Act} {Q:Exit->Act->World->Prop} {t e:TypeId} {i:TypeInfo} {z:Value} {size bytes:Nat} (hS:SW b w0 l w) (k:Nat) {v:Value} {n:Nat} {xs:List Value} (hk:l[k]? =some (rowOb e size v n xs))
 (hgd:o.guard=none) (s x:Operand) (ho:o.op= .call { callee:=.builtin .append,args:= #[s,x],argTypes:= #[t,t] })
 (ht:Tryz.prog.underlying t=some (.slice e)) (hi:Tryz.prog.info? e=some i) (hz:i.zero=some z) (hsize:i.size=size) (hby:i.bytes=bytes) (hzs:z.cells.size=size) (hsz:0<size)
 (hs:a.eval s=v) (ad:Addr) (c:Nat) (news:List Value) (hx:a.eval x= .slice (some ad) 1 c) (hl:news.length=size) (hnews:∀ j u,news[j]? =some u->w.cell? (ad.add j)=some u) (h1:∀ u∈news,u.oneCell'=true)
 (h63:n+1<=maxLen) (hbytes:(n+1)*bytes<=140737488355328)
 (h:∀ v' w',SW b w0 (l.set k (rowOb e size v' (n+1) (xs++news))) w'->wpList Tryz.prog ops Q rest (a.put o.dst v') w'):
 wpList Tryz.prog ops Q (o::rest) a w:=by
 have:=step_rowS (ops:=ops) (Q:=Q) (E:=False) (K:=wpList Tryz.prog ops Q rest) hS k hk hgd s x ho ht hi hz hsize hby hzs hsz hs ad c news hx hl hnews h1 h63 hbytes h;have hw:Region.wanted o (yielded ops a.tmps)=true:=by simp [Region.wanted,hgd]
 rw [if_pos hw] at this;unfold wpList
 first
  | (rw [if_pos hw];exact .inl this)
  | (simp only [hw,if_true];exact .inl this)
  | (simp only [hw,if_true];exact this)
theorem own_some {e:TypeId} {size n:Nat} {v:Value} {xs:List Value} (h:w.ownsRow 0 e size v n xs) (hx:n≠0):∃ g c,v= .slice (some ⟨g,0,none⟩) n c:=by
 rcases h.2 with ⟨_,h2⟩ | ⟨g,cap,cur,hv,_⟩
 · exact absurd h2 hx
 exact ⟨g,cap,hv⟩
end
end Go.Proofs.YtmiknfneeipkeaaGreat
namespace Go.Proofs.YtmiknfneeipkeaaGreat
open Go.RowKit Go.MapKept Go.ChangeMaps
open Go.Maps (Keyed)
abbrev kS (s:ByteArray):Value:=.string s
def okS (s:ByteArray):Prop:=s.size<=maxLen
theorem mkS:MK Tryz.prog 9 okS kS:=⟨Maps.string_keyed Tryz.underlying9,fun s h=>⟨.string s.data.toList,by simp only [okS] at h;simp [keyOf,Tryz.underlying9,mapKey,h]⟩,fun a b h=>by injection h⟩
abbrev Fi:=ByteArray×Int
abbrev vF (f:Fi):Value:=.agg #[.string f.1,.int .i64 f.2]
def okF (f:Fi):Prop:=f.1.size<=maxLen/\(Lit.int .i64 f.2).wf=true
theorem laidOutC:laidOutB Tryz.prog=true:=by kernel_rfl
theorem row168:(168:TypeId)<Tryz.prog.types.size:=of_decide_eq_true (by kernel_rfl)
theorem kta168:Tryz.prog.keyTypeAt 2 168=true:=by kernel_rfl
theorem keyed168:Keyed Tryz.prog 168:=Keyed.of_law (deep_law_laid laidOutC (m:=2) (by omega) row168 kta168 (by rw [Tryz.underlying168]))
theorem typesC:∃ m,Tryz.prog.types.size=m+1:=⟨Tryz.prog.types.size-1,by have h:(168:Nat)<Tryz.prog.types.size:=row168;omega⟩
theorem kt168:Tryz.prog.keyType 168=true:=by kernel_rfl
theorem cellsOf168:Tryz.prog.cellsOf 168=2:=by kernel_rfl
theorem cellsOf9:Tryz.prog.cellsOf 9=1:=by kernel_rfl
theorem cellsOf3:Tryz.prog.cellsOf 3=1:=by kernel_rfl
theorem keyOf168 (f:Fi) (h:okF f):keyOf Tryz.prog 168 (vF f)=some (.string (keyBytes [.string f.1.data.toList,.int .i64 f.2])):=by
 obtain ⟨wa,wb⟩:=h;obtain ⟨m,hm⟩:=typesC;have hkt:=kt168;unfold keyOf;simp only [Tryz.underlying168];rw [if_pos (by simp [hkt,Value.formed,Tryz.underlying168,cellsOf168]),hm];unfold Program.keyLits;simp only [Tryz.underlying168,Value.cells];rw [if_pos (by rw [cellsOf168];exact ⟨rfl,by simp⟩)];simp [cellsOf9,cellsOf3,Program.keyLits,Tryz.underlying9,Tryz.underlying3,wa,wb]
theorem mkF:MK Tryz.prog 168 okF vF:=⟨keyed168,fun f h=>⟨_,keyOf168 f h⟩,fun a b h=>by
 simp [vF] at h;exact Prod.ext h.1 h.2⟩
abbrev pA:ByteArray:=⟨#[47,47,100,47,97]⟩
def actI (i:Int):Int:=if i=1 then 1 else 2
def encR (i:Int):List Value:=[.string pA,.int .i64 i,.int .i64 (10*i),.int .i64 (actI i),.int .i64 1,.bool false,.bool false,.bool false,.int .u64 i,.int .i64 1,.string ⟨#[]⟩,.int .i64 0]
theorem zero111 (W:World):(zeroValue 111).run Tryz.prog W= .ok (.agg #[.string ⟨#[]⟩,.int .i64 0,.int .i64 0,.int .i64 0,.int .i64 0,.bool false,.bool false,.bool false,.int .u64 0,.int .i64 0,.string ⟨#[]⟩,.int .i64 0]) W:=by
 simp only [zeroValue];kernel_rfl
theorem zero168 (W:World):(zeroValue 168).run Tryz.prog W= .ok (.agg #[.string ⟨#[]⟩,.int .i64 0]) W:=by
 simp only [zeroValue];kernel_rfl
theorem okS_pA:okS pA:=by unfold okS maxLen;decide
end Go.Proofs.YtmiknfneeipkeaaGreat
namespace Go.Proofs.YtmiknfneeipkeaaGreat
open Go.RowKit Go.MapKept Go.ChangeMaps
theorem halt_ {p:Prop} (h:Hid p):p:=h
abbrev vPtr (g:Nat):Value:=.pointer (some ⟨g,0,none⟩)
theorem bel1q (w:World) (o:Obj):Below w.heap.size w (w.alloc o):=(Below.refl _ _).alloc (Nat.le_refl _) o
section
variable {b:Nat} {w0 w w':World} {t l l':List Ob} {o o':Ob}
theorem set_self {α:Type}:∀ (L:List α) (i:Nat) (v:α),L[i]? =some v->L.set i v=L
 | [],_,_,h=>by simp at h
 | x::L,0,v,h=>by
  have h:x=v:=by simpa using h
  rw [List.set_cons_zero,h]
 | x::L,i+1,v,h=>by rw [List.set_cons_succ,set_self L i v (by simpa using h)]
theorem pair_all {l:List Ob} (h:l.Pairwise Apart) {x y:Ob} (hx:x∈l) (hy:y∈l) (hne:x≠y):Apart x y:=by
 induction l with
 | nil=>cases hx
 | cons z l ih=>
  obtain ⟨h1,h2⟩:=List.pairwise_cons.1 h;rcases List.mem_cons.1 hx with rfl | hx
  · rcases List.mem_cons.1 hy with rfl | hy
    · exact absurd rfl hne
    exact h1 y hy
  rcases List.mem_cons.1 hy with rfl | hy
  · exact (h1 x (by assumption)).symm
  exact ih h2 (by assumption) (by assumption)
theorem SW.asRead (h:SW b w0 (o::t) w) (hh:o'.holds w) (ho:∀ i,¬ o'.own i) (hr:∀ i,o'.rd i->o.own i):SW b w0 (o'::t) w:=by
 have ha:=List.pairwise_cons.1 h.1.apart;refine ⟨⟨h.1.base,fun y hy=>?_,fun y hy i hi=>?_,fun y hy i hi=>?_,List.pairwise_cons.2 ⟨fun y hy=>⟨fun i hi=>absurd hi (ho i),fun i hi hr'=>?_⟩,ha.2⟩⟩,h.2⟩
 · rcases List.mem_cons.1 hy with rfl | hy
   · exact hh
   exact h.1.holds y (List.mem_cons_of_mem _ hy)
 · rcases List.mem_cons.1 hy with rfl | hy
   · exact absurd hi (ho i)
   exact h.1.own y (List.mem_cons_of_mem _ hy) i hi
 · rcases List.mem_cons.1 hy with rfl | hy
   · exact (h.1.own _ (List.mem_cons_self ..) i (hr i hi)).2
   exact h.1.rd y (List.mem_cons_of_mem _ hy) i hi
 exact ((ha.1 y hy).1 i (hr i hr')).1 hi
theorem SW.also (h:SW b w0 l w) (hh:o'.holds w) (ho:∀ i,¬ o'.own i) (hlt:∀ i,o'.rd i->i<w.heap.size) (hr:∀ i,o'.rd i->∀ y∈l,¬ y.own i):SW b w0 (o'::l) w:=by
 refine ⟨⟨h.1.base,fun y hy=>?_,fun y hy i hi=>?_,fun y hy i hi=>?_,List.pairwise_cons.2 ⟨fun y hy=>⟨fun i hi=>absurd hi (ho i),fun i hi hr'=>hr i hr' y hy hi⟩,h.1.apart⟩⟩,h.2⟩
 · rcases List.mem_cons.1 hy with rfl | hy
   · exact hh
   exact h.1.holds y hy
 · rcases List.mem_cons.1 hy with rfl | hy
   · exact absurd hi (ho i)
   exact h.1.own y hy i hi
 rcases List.mem_cons.1 hy with rfl | hy
 · exact hlt i hi
 exact h.1.rd y hy i hi
theorem SW.noOwn (h:SW b w0 l w) (ho:o∈l) (hn:∀ i,¬ o.own i) {i:Nat} (hi:o.rd i):∀ y∈l,¬ y.own i:=fun y hy hw=>by
 by_cases e:y=o
 · subst e;exact hn i hw
 exact ((pair_all h.1.apart hy ho e).1 i hw).2 hi
theorem SW.again (h:SW b w0 l w) (hm:o∈l) (hn:∀ i,¬ o.own i) (hh:o'.holds w) (ho:∀ i,¬ o'.own i) (hr:∀ i,o'.rd i->o.rd i):SW b w0 (o'::l) w:=
 h.also hh ho (fun i hi=>h.1.rd o hm i (hr i hi)) (fun i hi=>h.noOwn hm hn (hr i hi))
theorem few_rest (idx:List Nat) (n:Nat) (hd:idx.Nodup) (hl:∀ i∈idx,i<n):∃ rest:List Nat,(idx++rest).Perm (List.range n):=by
 refine ⟨(List.range n).filter (fun i=> !idx.contains i),?_⟩;refine (List.perm_ext_iff_of_nodup ?_ List.nodup_range).2 (fun i=>?_)
 · refine List.nodup_append.2 ⟨hd,List.nodup_range.filter _,fun a ha c hc e=>?_⟩;subst e;have:=(List.mem_filter.1 hc).2;simp [ha] at this
 simp only [List.mem_append,List.mem_filter,List.mem_range];constructor
 · rintro (h1 | h1)
   · exact hl i h1
   exact h1.1
 intro h1;by_cases e:i∈idx
 · exact .inl e
 exact .inr ⟨h1,by simp [e]⟩
theorem SW.few {pre t:List Ob} (h:SW b w0 (pre++t) w) (idx:List Nat) {n:Nat} (hn:pre.length=n) (hd:idx.Nodup) (hl:∀ i∈idx,i<n):SW b w0 (idx.filterMap (fun i=>pre[i]?)++t) w:=by
 obtain ⟨rest,hp⟩:=few_rest idx n hd hl;have h1:=h.front (idx++rest) hn hp;rw [List.filterMap_append,List.append_assoc] at h1;refine h1.sub ?_;exact (List.Sublist.refl _).append (List.sublist_append_right _ _)
theorem SW.then (h:SW b w0 l w) (k:SW b w l' w'):SW b w0 l' w':=⟨k.1,h.2.trans k.2⟩
theorem SW.ne {i j g g':Nat} {t t':TypeId} {cs cs':Array Value} (h:SW b w0 l w) (hi:l[i]? =some (cellOb g t cs)) (hj:l[j]? =some (cellOb g' t' cs')) (hij:i<j):g≠g':=by
 obtain ⟨h1,e1⟩:=List.getElem?_eq_some_iff.1 hi;obtain ⟨h2,e2⟩:=List.getElem?_eq_some_iff.1 hj;have:=List.pairwise_iff_getElem.1 h.1.apart i j h1 h2 hij;rw [e1,e2] at this;intro e;exact (this.1 g rfl).1 e
end
section
variable {α β:Type}
def mpOb (ok:α->Prop) (kv:α->Value) (vv:β->Value) (m:Nat) (L:List (α×β)):Ob where
 own:=fun i=>i=m
 rd:=fun _=>False
 holds:=fun w=>MapIs ok kv vv w m L
 stable:=fun w w' h hs hk=>h.same (hk m (.inl rfl))
variable {ok:α->Prop} {kv:α->Value} {vv:β->Value} {b:Nat} {w0 w w':World} {l:List Ob}
theorem SW.addMp (h:SW b w0 l w):SW b w0 (mpOb ok kv vv w.heap.size []::l) (w.alloc (.map #[] 0)):=by
 have:=h.1.add (o':=mpOb ok kv vv w.heap.size []) (w':=w.alloc (.map #[] 0)) (bel1q _ _) (MapIs.made w) (fun i hi=>by have e:i=w.heap.size:=hi;simp [e]) (fun i hi=>hi.elim) (fun i hi=>hi.elim);exact ⟨this.1,h.2.trans this.2⟩
theorem SW.updMp (h:SW b w0 l w) (k:Nat) {m:Nat} {L L':List (α×β)} (hk:l[k]? =some (mpOb ok kv vv m L)) (hm:MapIs ok kv vv w' m L') (hg:w.grownBy w' (some m)):SW b w0 (l.set k (mpOb ok kv vv m L')) w':=by
 have:=h.1.stepAt k hk (w':=w') (o':=mpOb ok kv vv m L') (Fr.grown hg rfl (fun i hi=> .inl hi)) (fun i hi=>hi.elim) hm (fun i hi=>by
  rcases hi with hi | hi
  · have e:i=m:=hi;rw [e];exact hm.lt
  exact hi.elim)
 exact ⟨this.1,h.2.trans this.2⟩
end
def RowV (w:World) (t:TypeId) (sz:Nat) (A:Option Addr) (n:Nat) (xs:List Value):Prop:=
 xs.length=n*sz/\(n=0∨∃ g cur,A=some ⟨g,0,none⟩/\IsB w g t cur/\cur.toList.take (n*sz)=xs)
section
variable {w w':World} {t:TypeId} {sz n:Nat} {A:Option Addr} {xs:List Value}
theorem RowV.same (h:RowV w t sz A n xs) (hk:∀ i,0<n->A=some ⟨i,0,none⟩->w'.heap[i]? =w.heap[i]?):RowV w' t sz A n xs:=by
 refine ⟨h.1,?_⟩;rcases h.2 with h2 | ⟨g,cur,e,hi,hx⟩
 · exact .inl h2
 by_cases hn:n=0
 · exact .inl hn
 exact .inr ⟨g,cur,e,(hk g (by omega) e).trans hi,hx⟩
theorem RowV.lt (h:RowV w t sz A n xs) {i:Nat} (hn:0<n) (e:A=some ⟨i,0,none⟩):i<w.heap.size:=by
 rcases h.2 with h2 | ⟨g,cur,e2,hi,_⟩
 · omega
 rw [e] at e2;injection e2 with e2;injection e2 with e2;rw [e2];exact hi.lt
theorem RowV.at (h:RowV w t sz A n xs) (hn:0<n):∃ g,A=some ⟨g,0,none⟩/\g<w.heap.size/\∀ j,j<n*sz->w.cell? ⟨g,j,none⟩=xs[j]? :=by
 rcases h.2 with h2 | ⟨g,cur,e2,hi,hx⟩
 · omega
 refine ⟨g,e2,hi.lt,fun j hj=>?_⟩;rw [hi.cell, <- hx,List.getElem?_take_of_lt hj,Array.getElem?_toList]
theorem RowV.nil:RowV w t sz A 0 []:=⟨by simp,.inl rfl⟩
end
theorem SW.setAll12 {b:Nat} {w0 w:World} {l:List Ob} {g:Nat} {t:TypeId} {x0 x1 x2 x3 x4 x5 x6 x7 x8 x9 x10 x11:Value} (h:SW b w0 l w) (k:Nat) (hk:l[k]? =some (cellOb g t #[x0,x1,x2,x3,x4,x5,x6,x7,x8,x9,x10,x11])) (y0 y1 y2 y3 y4 y5 y6 y7 y8 y9 y10 y11:Value):SW b w0 (l.set k (cellOb g t #[y0,y1,y2,y3,y4,y5,y6,y7,y8,y9,y10,y11])) ((((((((((((w.setCell ⟨g,0,none⟩ y0).setCell ⟨g,1,none⟩ y1).setCell ⟨g,2,none⟩ y2).setCell ⟨g,3,none⟩ y3).setCell ⟨g,4,none⟩ y4).setCell ⟨g,5,none⟩ y5).setCell ⟨g,6,none⟩ y6).setCell ⟨g,7,none⟩ y7).setCell ⟨g,8,none⟩ y8).setCell ⟨g,9,none⟩ y9).setCell ⟨g,10,none⟩ y10).setCell ⟨g,11,none⟩ y11):=by
 have hkl:k<l.length:=(List.getElem?_eq_some_iff.1 hk).1;have h1:=h.setAt k hk 0 y0;rw [show (#[x0,x1,x2,x3,x4,x5,x6,x7,x8,x9,x10,x11]:Array Value).setIfInBounds 0 y0= #[y0,x1,x2,x3,x4,x5,x6,x7,x8,x9,x10,x11] from rfl] at h1;have h2:=h1.setAt k (List.getElem?_set_self hkl) 1 y1;rw [show (#[y0,x1,x2,x3,x4,x5,x6,x7,x8,x9,x10,x11]:Array Value).setIfInBounds 1 y1= #[y0,y1,x2,x3,x4,x5,x6,x7,x8,x9,x10,x11] from rfl,List.set_set] at h2;have h3:=h2.setAt k (List.getElem?_set_self hkl) 2 y2;rw [show (#[y0,y1,x2,x3,x4,x5,x6,x7,x8,x9,x10,x11]:Array Value).setIfInBounds 2 y2= #[y0,y1,y2,x3,x4,x5,x6,x7,x8,x9,x10,x11] from rfl,List.set_set] at h3;have h4:=h3.setAt k (List.getElem?_set_self hkl) 3 y3;rw [show (#[y0,y1,y2,x3,x4,x5,x6,x7,x8,x9,x10,x11]:Array Value).setIfInBounds 3 y3= #[y0,y1,y2,y3,x4,x5,x6,x7,x8,x9,x10,x11] from rfl,List.set_set] at h4;have h5:=h4.setAt k (List.getElem?_set_self hkl) 4 y4;rw [show (#[y0,y1,y2,y3,x4,x5,x6,x7,x8,x9,x10,x11]:Array Value).setIfInBounds 4 y4= #[y0,y1,y2,y3,y4,x5,x6,x7,x8,x9,x10,x11] from rfl,List.set_set] at h5;have h6:=h5.setAt k (List.getElem?_set_self hkl) 5 y5;rw [show (#[y0,y1,y2,y3,y4,x5,x6,x7,x8,x9,x10,x11]:Array Value).setIfInBounds 5 y5= #[y0,y1,y2,y3,y4,y5,x6,x7,x8,x9,x10,x11] from rfl,List.set_set] at h6
 have h7:=h6.setAt k (List.getElem?_set_self hkl) 6 y6;rw [show (#[y0,y1,y2,y3,y4,y5,x6,x7,x8,x9,x10,x11]:Array Value).setIfInBounds 6 y6= #[y0,y1,y2,y3,y4,y5,y6,x7,x8,x9,x10,x11] from rfl,List.set_set] at h7;have h8:=h7.setAt k (List.getElem?_set_self hkl) 7 y7;rw [show (#[y0,y1,y2,y3,y4,y5,y6,x7,x8,x9,x10,x11]:Array Value).setIfInBounds 7 y7= #[y0,y1,y2,y3,y4,y5,y6,y7,x8,x9,x10,x11] from rfl,List.set_set] at h8;have h9:=h8.setAt k (List.getElem?_set_self hkl) 8 y8;rw [show (#[y0,y1,y2,y3,y4,y5,y6,y7,x8,x9,x10,x11]:Array Value).setIfInBounds 8 y8= #[y0,y1,y2,y3,y4,y5,y6,y7,y8,x9,x10,x11] from rfl,List.set_set] at h9;have h10:=h9.setAt k (List.getElem?_set_self hkl) 9 y9;rw [show (#[y0,y1,y2,y3,y4,y5,y6,y7,y8,x9,x10,x11]:Array Value).setIfInBounds 9 y9= #[y0,y1,y2,y3,y4,y5,y6,y7,y8,y9,x10,x11] from rfl,List.set_set] at h10;have h11:=h10.setAt k (List.getElem?_set_self hkl) 10 y10;rw [show (#[y0,y1,y2,y3,y4,y5,y6,y7,y8,y9,x10,x11]:Array Value).setIfInBounds 10 y10= #[y0,y1,y2,y3,y4,y5,y6,y7,y8,y9,y10,x11] from rfl,List.set_set] at h11;have h12:=h11.setAt k (List.getElem?_set_self hkl) 11 y11;rw [show (#[y0,y1,y2,y3,y4,y5,y6,y7,y8,y9,y10,x11]:Array Value).setIfInBounds 11 y11= #[y0,y1,y2,y3,y4,y5,y6,y7,y8,y9,y10,y11] from rfl,List.set_set] at h12;exact h12
end Go.Proofs.YtmiknfneeipkeaaGreat
namespace Go.Proofs.YtmiknfneeipkeaaGreat
open Go.RowKit Go.MapKept Go.ChangeMaps
open Go.Maps (Keyed)
abbrev vID (i:ID):Value:=.agg #[.int .u64 i.1,.int .i64 i.2]
def encID (i:ID):List Value:=[.int .u64 i.1,.int .i64 i.2]
theorem encID_len (i:ID):(encID i).length=2:=rfl
def okID (i:ID):Prop:=(Lit.int .u64 i.1).wf=true/\(Lit.int .i64 i.2).wf=true
theorem row36:(36:TypeId)<Tryz.prog.types.size:=of_decide_eq_true (by kernel_rfl)
theorem kta36:Tryz.prog.keyTypeAt 2 36=true:=by kernel_rfl
theorem keyed36:Keyed Tryz.prog 36:=Keyed.of_law (deep_law_laid laidOutC (m:=2) (by omega) row36 kta36 (by rw [Tryz.underlying36]))
theorem kt36:Tryz.prog.keyType 36=true:=by kernel_rfl
theorem cellsOf36:Tryz.prog.cellsOf 36=2:=by kernel_rfl
theorem cellsOf34:Tryz.prog.cellsOf 34=1:=by kernel_rfl
theorem keyOf36 (i:ID) (h:okID i):keyOf Tryz.prog 36 (vID i)=some (.string (keyBytes [.int .u64 i.1,.int .i64 i.2])):=by
 obtain ⟨wa,wb⟩:=h;obtain ⟨m,hm⟩:=typesC;have hkt:=kt36;unfold keyOf;simp only [Tryz.underlying36];rw [if_pos (by simp [hkt,Value.formed,Tryz.underlying36,cellsOf36]),hm];unfold Program.keyLits;simp only [Tryz.underlying36,Value.cells];rw [if_pos (by rw [cellsOf36];exact ⟨rfl,by simp⟩)];simp [cellsOf34,cellsOf3,Program.keyLits,Tryz.underlying34,Tryz.underlying3,wa,wb]
theorem mkI:MK Tryz.prog 36 okID vID:=⟨keyed36,fun i h=>⟨_,keyOf36 i h⟩,fun a b h=>by
 simp [vID] at h;exact Prod.ext h.1 h.2⟩
abbrev vN (n:Int):Value:=.int .i64 n
theorem okID_of {i:ID} (h0:0<=i.1) (h1:i.1<18446744073709551616) (h2: -9223372036854775808<=i.2) (h3:i.2<=9223372036854775807):okID i:=by
 exact ⟨WalkArith.wf_u64 ⟨h0,by omega⟩,WalkArith.wf_i64 ⟨h2,h3⟩⟩
theorem okID_fp (bs:List UInt8) (h:bs.length<=9223372036854775807):okID (fpOf bs):=by
 have:=fpSum_lt bs;unfold pP at this;exact okID_of (by simp [fpOf]) (by simp only [fpOf];omega) (by simp only [fpOf];omega) (by simp only [fpOf];omega)
theorem bel1 (w:World) (o:Obj):Below w.heap.size w (w.alloc o):=bel1q w o
theorem setL_nodup {α β:Type} [DecidableEq α] {L:List (α×β)} (h:(L.map (·.1)).Nodup) (a:α) (v:β):((setL L a v).map (·.1)).Nodup:=by
 have h1:L.Pairwise (fun x y=>x.1≠y.1):=by simpa [List.Nodup,List.pairwise_map] using h
 have:=(setL_pairwise (R:=fun x y=>x.1≠y.1) h h1 a v (fun x y hxy=>hxy.symm) (fun c _ hc=>hc)).1;simpa [List.Nodup,List.pairwise_map] using this
abbrev vB1 (b:Bool):Value:=.bool b
theorem zero4 (W:World):(zeroValue 4).run Tryz.prog W= .ok (.bool false) W:=by
 simp only [zeroValue];kernel_rfl
section
variable {α:Type} [DecidableEq α] {k:TypeId} {ok:α->Prop} {kv:α->Value}
def inS (L:List (α×Bool)) (a:α):Bool:=(asc L a).getD false
theorem MapIs.lookB (M:MK Tryz.prog k ok kv) {t:TypeId} (ht:Tryz.prog.underlying t=some (.map k 4)) {w:World} {b:Nat} {L:List (α×Bool)} (h:MapIs ok kv vB1 w b L) {a:α} (ha:ok a):
 (Instr.lookup t (.map (some b)) (kv a) false).run Tryz.prog w= .ok (.bool (inS L a)) w:=by
 rw [h.look M ht (zero4 w) ha false];unfold inS;cases asc L a<;>rfl
theorem inS_set (L:List (α×Bool)) (a a':α) (v:Bool):inS (setL L a v) a'=if a=a' then v else inS L a':=by
 unfold inS;rw [asc_setL];split<;>rfl
theorem inS_nil (a:α):inS ([]:List (α×Bool)) a=false:=rfl
end
end Go.Proofs.YtmiknfneeipkeaaGreat
namespace Go.Proofs.YtmiknfneeipkeaaGreat
open Go.RowKit Go.Shelf Go.Sort
attribute [local go_sem] wext_cell
def Gives (v:Value) (w:World) (e:Ending) (w':World):Prop:=e= .returned v/\Below w.heap.size w w'
theorem gv {a r:Int} {w W:World} (h:a=r) (hb:Below w.heap.size w W):Gives (.int .i64 a) w (.returned (.int .i64 r)) W:=⟨by rw [h],hb⟩
theorem encID_one (i:ID):∀ u∈encID i,u.oneCell'=true:=by
 intro u hu;simp [encID] at hu;rcases hu with rfl | rfl<;>rfl
abbrev RdID (w:World) (x:Nat) (A:Option Addr) (l:List ID):Prop:=Rd encID 2 (0,0) w x A l
theorem info36:(Tryz.prog.info? 36).map (fun i=>(i.zero,i.size,i.bytes))=some (some (.agg #[.int .u64 0,.int .i64 0]),2,16):=by kernel_rfl
def orI (a b:Int):Int:=if a=0 then b else a
theorem nan65 (x:Int) (w:World):Calls Tryz.prog 143 #[.int .u64 x] w fun e w'=>e= .returned (.bool false)/\w'=w:=by
 go_enter Tryz.func143,Tryz.ntmps143;go_wp2
 go_ret;exact ⟨by simp,rfl⟩
set_option maxHeartbeats 1000000 in
theorem cmpU_any (x y:Int) (w:World):Calls Tryz.prog 107 #[.int .u64 x,.int .u64 y] w fun e w'=>e= .returned (.int .i64 (Lib.compareInt x y))/\w'=w:=by
 go_enter Tryz.func107,Tryz.ntmps107;go_wp2_with (go_at_call 143;refine (nan65 _ _).mono ?_;rintro e w' ⟨rfl,hw⟩;rw [hw])
 all_goals (go_ret;refine ⟨?_,rfl⟩;unfold Lib.compareInt;(repeat' split)<;>first | rfl | (exfalso;omega))
theorem nan66 (x:Int) (w:World):Calls Tryz.prog 144 #[.int .i64 x] w fun e w'=>e= .returned (.bool false)/\w'=w:=by
 go_enter Tryz.func144,Tryz.ntmps144;go_wp2
 go_ret;exact ⟨by simp,rfl⟩
set_option maxHeartbeats 1000000 in
theorem cmpI_any (x y:Int) (w:World):Calls Tryz.prog 108 #[.int .i64 x,.int .i64 y] w fun e w'=>e= .returned (.int .i64 (Lib.compareInt x y))/\w'=w:=by
 go_enter Tryz.func108,Tryz.ntmps108;go_wp2_with (go_at_call 144;refine (nan66 _ _).mono ?_;rintro e w' ⟨rfl,hw⟩;rw [hw])
 all_goals (go_ret;refine ⟨?_,rfl⟩;unfold Lib.compareInt;(repeat' split)<;>first | rfl | (exfalso;omega))
set_option maxHeartbeats 400000 in
theorem Or_two (g:Nat) (a b:Int) (w:World) (h0:w.cell? ⟨g,0,none⟩=some (.int .i64 a)) (h1:w.cell? ⟨g,1,none⟩=some (.int .i64 b)):
 Calls Tryz.prog 106 #[.slice (some ⟨g,0,none⟩) 2 2] w fun e w'=>e= .returned (.int .i64 (orI a b))/\w=w':=by
 obtain ⟨r,Hr⟩:∃ r,Hid (orI a b=r):=⟨_,rfl⟩;rw [Hr.out];go_enter Tryz.func106,Tryz.ntmps106;go_wp2
 go_loop [8] (fun i=>∃ k:Nat,k<=2/\i= .int .i64 k/\Hid (0<k->a=0)/\Hid (1<k->b=0)) (fun i=>2-(intOf i).toNat)
 case atStart=>exact ⟨0,by omega,rfl,fun h=>absurd h (by omega),fun h=>absurd h (by omega)⟩
 obtain ⟨k,hk,rfl,HA,HB⟩:=hrel;by_cases hk0:k=0
 · have hc:w.cell? ⟨g,k,none⟩=some (.int .i64 a):=by rw [hk0];exact h0
   have Hk:=hid hk0;have hk2:k<2:=by omega
   clear h0 h1 hk0;by_cases ha:a=0
   · have hb':(a !=0)=false:=by simp [ha]
     have Ha:=hid ha;clear ha;go_wp2
     go_round
     case rel=>exact ⟨k+1,by omega,by go_num,fun _=>Ha.out,fun h=>absurd h (by have:=Hk.out;omega)⟩
     simp [intOf];omega
   have hb':(a !=0)=true:=by simp [ha]
   have hr:r=a:=by rw [<- Hr.out,orI,if_neg ha]
   subst hr;clear ha;go_wp2
   go_ret;exact ⟨rfl,rfl⟩
 by_cases hk1:k=1
 · have hc:w.cell? ⟨g,k,none⟩=some (.int .i64 b):=by rw [hk1];exact h1
   have Hk:=hid hk1;have hk2:k<2:=by omega
   have hr:r=b:=by rw [<- Hr.out,orI,if_pos (HA.out (by omega))]
   subst hr;clear h0 h1 hk0 hk1;by_cases hb:r=0
   · have hb':(r !=0)=false:=by simp [hb]
     have Hb:=hid hb;clear hb;go_wp2
     go_round
     case rel=>exact ⟨k+1,by omega,by go_num,fun _=>HA.out (by have:=Hk.out;omega),fun _=>Hb.out⟩
     simp [intOf];omega
   have hb':(r !=0)=true:=by simp [hb]
   clear hb;go_wp2
   go_ret;exact ⟨rfl,rfl⟩
 have hk2:¬ k<2:=by omega
 have hr:r=0:=by rw [<- Hr.out,orI,if_pos (HA.out (by omega)),HB.out (by omega)]
 subst hr;go_wp2
 go_ret;exact ⟨rfl,rfl⟩
theorem grow3 (W:World) (a b c:Obj) (q:Nat):(((W.alloc a).alloc b).drewN q).alloc c=grow (W.drewN q) #[a,b,c]:=by
 show ((((W.drewN q).alloc a).alloc b).alloc c)=grow (W.drewN q) #[a,b,c];rw [alloc_eq_grow,alloc_eq_grow,alloc_eq_grow,grow_grow,grow_grow];rfl
def cmpID (x y:ID):Int:=orI (Lib.compareInt x.1 y.1) (Lib.compareInt x.2 y.2)
set_option maxHeartbeats 1000000 in
theorem compareIDs_grow (x1 x2 y1 y2:Int) (W:World):Calls Tryz.prog 111 #[.agg #[.int .u64 x1,.int .i64 x2],.agg #[.int .u64 y1,.int .i64 y2]] W fun e w'=>e= .returned (.int .i64 (cmpID (x1,x2) (y1,y2)))/\∃ q os',w'=grow (W.drewN q) os':=by
 have hcon1:=fun W'=>cmpU_any x1 y1 W';have hcon2:=fun W'=>cmpI_any x2 y2 W';obtain ⟨r,Hr⟩:∃ r,Hid (cmpID (x1,x2) (y1,y2)=r):=⟨_,rfl⟩;have Hr2:Hid (orI (Lib.compareInt x1 y1) (Lib.compareInt x2 y2)=r):=Hr;rw [Hr.out];generalize Lib.compareInt x1 y1=c1 at hcon1 Hr2;generalize Lib.compareInt x2 y2=c2 at hcon2 Hr2;have H1:=hid hcon1;have H2:=hid hcon2;clear hcon1 hcon2;go_enter Tryz.func111,Tryz.ntmps111;go_wp2_with fail
 refine wp_region_draw_tail 10 (by kernel_rfl) (by kernel_rfl) ?_;simp only [List.take_succ_cons,List.take_zero,List.drop_succ_cons,List.drop_zero];repeat (go_big_quiet_step ((first | (go_at_call 107;exact Calls.quiet_of_same (H1.out _)) | (go_at_call 108;exact Calls.quiet_of_same (H2.out _)))))
 refine wpQuiet_nil ?_;intro q2;go_wp2_with (go_at_call 106;refine (Or_two _ c1 c2 _ ?c1 ?c2).mono ?_)
 case c1=>exact new_cell _ _ _ _ (by simp) 0
 case c2=>exact new_cell _ _ _ _ (by simp) 1
 rintro e w' ⟨rfl,rfl⟩;rw [Hr2.out];go_wp2
 go_ret;exact ⟨rfl,q2,_,grow3 W _ _ _ q2⟩
set_option maxHeartbeats 1000000 in
theorem acmp_grow (x1 x2 y1 y2:Int) (W:World):Calls Tryz.prog 55 #[.agg #[.int .u64 x1,.int .i64 x2],.agg #[.int .u64 y1,.int .i64 y2]] W fun e w'=>e= .returned (.int .i64 (cmpID (x1,x2) (y1,y2)))/\∃ q os',w'=grow (W.drewN q) os':=by
 have hcon1:=fun W'=>cmpU_any x1 y1 W';have hcon2:=fun W'=>cmpI_any x2 y2 W';obtain ⟨r,Hr⟩:∃ r,Hid (cmpID (x1,x2) (y1,y2)=r):=⟨_,rfl⟩;have Hr2:Hid (orI (Lib.compareInt x1 y1) (Lib.compareInt x2 y2)=r):=Hr;rw [Hr.out];generalize Lib.compareInt x1 y1=c1 at hcon1 Hr2;generalize Lib.compareInt x2 y2=c2 at hcon2 Hr2;have H1:=hid hcon1;have H2:=hid hcon2;clear hcon1 hcon2;go_enter Tryz.func55,Tryz.ntmps55;go_wp2_with fail
 refine wp_region_draw_tail 10 (by kernel_rfl) (by kernel_rfl) ?_;simp only [List.take_succ_cons,List.take_zero,List.drop_succ_cons,List.drop_zero];repeat (go_big_quiet_step ((first | (go_at_call 107;exact Calls.quiet_of_same (H1.out _)) | (go_at_call 108;exact Calls.quiet_of_same (H2.out _)))))
 refine wpQuiet_nil ?_;intro q2;go_wp2_with (go_at_call 106;refine (Or_two _ c1 c2 _ ?c1 ?c2).mono ?_)
 case c1=>exact new_cell _ _ _ _ (by simp) 0
 case c2=>exact new_cell _ _ _ _ (by simp) 1
 rintro e w' ⟨rfl,rfl⟩;rw [Hr2.out];go_wp2
 go_ret;exact ⟨rfl,q2,_,grow3 W _ _ _ q2⟩
set_option maxHeartbeats 1000000 in
theorem pcmp_grow (x1 x2 y1 y2:Int) (W:World):Calls Tryz.prog 90 #[.agg #[.int .u64 x1,.int .i64 x2],.agg #[.int .u64 y1,.int .i64 y2]] W fun e w'=>e= .returned (.int .i64 (cmpID (x1,x2) (y1,y2)))/\∃ q os',w'=grow (W.drewN q) os':=by
 have hcon1:=fun W'=>cmpU_any x1 y1 W';have hcon2:=fun W'=>cmpI_any x2 y2 W';obtain ⟨r,Hr⟩:∃ r,Hid (cmpID (x1,x2) (y1,y2)=r):=⟨_,rfl⟩;have Hr2:Hid (orI (Lib.compareInt x1 y1) (Lib.compareInt x2 y2)=r):=Hr;rw [Hr.out];generalize Lib.compareInt x1 y1=c1 at hcon1 Hr2;generalize Lib.compareInt x2 y2=c2 at hcon2 Hr2;have H1:=hid hcon1;have H2:=hid hcon2;clear hcon1 hcon2;go_enter Tryz.func90,Tryz.ntmps90;go_wp2_with fail
 refine wp_region_draw_tail 10 (by kernel_rfl) (by kernel_rfl) ?_;simp only [List.take_succ_cons,List.take_zero,List.drop_succ_cons,List.drop_zero];repeat (go_big_quiet_step ((first | (go_at_call 107;exact Calls.quiet_of_same (H1.out _)) | (go_at_call 108;exact Calls.quiet_of_same (H2.out _)))))
 refine wpQuiet_nil ?_;intro q2;go_wp2_with (go_at_call 106;refine (Or_two _ c1 c2 _ ?c1 ?c2).mono ?_)
 case c1=>exact new_cell _ _ _ _ (by simp) 0
 case c2=>exact new_cell _ _ _ _ (by simp) 1
 rintro e w' ⟨rfl,rfl⟩;rw [Hr2.out];go_wp2
 go_ret;exact ⟨rfl,q2,_,grow3 W _ _ _ q2⟩
theorem below_grow (W:World) (q:Nat) (os:Array Obj):Below W.heap.size W (grow (W.drewN q) os):=
 ⟨rfl,rfl,rfl,by simp [grow],fun k hk=>heap_grow_old _ _ hk⟩
theorem compareIDs_any (x1 x2 y1 y2:Int) (w:World):Calls Tryz.prog 111 #[.agg #[.int .u64 x1,.int .i64 x2],.agg #[.int .u64 y1,.int .i64 y2]] w (Gives (.int .i64 (cmpID (x1,x2) (y1,y2))) w):=
 (compareIDs_grow x1 x2 y1 y2 w).mono fun _ _ ⟨he,q,os,hw⟩=>⟨he,hw ▸ below_grow w q os⟩
theorem acmp_any (x1 x2 y1 y2:Int) (w:World):Calls Tryz.prog 55 #[.agg #[.int .u64 x1,.int .i64 x2],.agg #[.int .u64 y1,.int .i64 y2]] w (Gives (.int .i64 (cmpID (x1,x2) (y1,y2))) w):=
 (acmp_grow x1 x2 y1 y2 w).mono fun _ _ ⟨he,q,os,hw⟩=>⟨he,hw ▸ below_grow w q os⟩
theorem pcmp_any (x1 x2 y1 y2:Int) (w:World):Calls Tryz.prog 90 #[.agg #[.int .u64 x1,.int .i64 x2],.agg #[.int .u64 y1,.int .i64 y2]] w (Gives (.int .i64 (cmpID (x1,x2) (y1,y2))) w):=
 (pcmp_grow x1 x2 y1 y2 w).mono fun _ _ ⟨he,q,os,hw⟩=>⟨he,hw ▸ below_grow w q os⟩
def ltID (x y:ID):Bool:=decide (x.1<y.1∨x.1=y.1/\x.2<y.2)
theorem lt_cmpID (x y:ID):ltOf cmpID x y=ltID x y:=by
 unfold ltOf cmpID orI Lib.compareInt ltID;by_cases h1:x.1<y.1
 · simp [h1]
 by_cases h2:y.1<x.1
 · have:¬ x.1=y.1:=by omega
   simp [h1,h2,this]
 have:x.1=y.1:=by omega
 by_cases h3:x.2<y.2
 · simp [this,h3]
 by_cases h4:y.2<x.2<;>simp [this,h3,h4]
theorem cmpID_lt {x y:ID} (h:ltID x y=true):cmpID x y<0:=by
 have:=lt_cmpID x y;rw [h] at this;simpa [ltOf] using this
theorem cmpID_ge {x y:ID} (h:ltID x y=false):0<=cmpID x y:=by
 have:=lt_cmpID x y;rw [h] at this;simpa [ltOf] using this
theorem cmpID_bd (x y:ID): -1<=cmpID x y/\cmpID x y<=1:=by
 unfold cmpID orI Lib.compareInt;repeat' split
 all_goals omega
set_option maxHeartbeats 1000000 in
theorem Less_any (x1 x2 y1 y2:Int) (w:World):Calls Tryz.prog 71 #[.agg #[.int .u64 x1,.int .i64 x2],.agg #[.int .u64 y1,.int .i64 y2]] w (Gives (.bool (ltID (x1,x2) (y1,y2))) w):=by
 have fin:∀ b:Bool,ltID (x1,x2) (y1,y2)=b->∀ W,W=(w.alloc (.cells #[.int .u64 x1,.int .i64 x2] 36)).alloc (.cells #[.int .u64 y1,.int .i64 y2] 36)->Gives (.bool (ltID (x1,x2) (y1,y2))) w (.returned (.bool b)) W:=by
  rintro b h W rfl;exact ⟨by rw [h],(bel1 _ _).alloc (by simp) _⟩
 by_cases h1:x1<y1
 · go_enter Tryz.func71,Tryz.ntmps71;go_wp2_with fail
   go_ret;exact fin _ (by simp [ltID];omega) _ rfl
 by_cases h2:x1=y1
 · subst h2;by_cases h3:x2<y2
   · have V:Hid (ltID (x1,x2) (x1,y2)=true):=by simp [Hid,ltID];omega
     go_enter Tryz.func71,Tryz.ntmps71;go_wp2_with fail
     go_ret;exact fin _ V.out _ rfl
   have V:Hid (ltID (x1,x2) (x1,y2)=false):=by simp [Hid,ltID];omega
   go_enter Tryz.func71,Tryz.ntmps71;go_wp2_with fail
   go_ret;exact fin _ V.out _ rfl
 have hb:(x1==y1)=false:=by rw [beq_eq_false_iff_ne];exact h2
 have V:Hid (ltID (x1,x2) (y1,y2)=false):=by simp [Hid,ltID];omega
 go_enter Tryz.func71,Tryz.ntmps71;go_wp2_with fail
 go_ret;exact fin _ V.out _ rfl
theorem swoID:SWO (ltOf cmpID) where
 irrefl x:=by rw [lt_cmpID];simp [ltID]
 trans x y z h1 h2:=by rw [lt_cmpID] at *; simp [ltID] at *; omega
 ntrans x y z h1 h2:=by rw [lt_cmpID] at *; simp [ltID] at *; omega
end Go.Proofs.YtmiknfneeipkeaaGreat
