/- Q -/
import Derived.Test.YteabgcollokgjaaGreatDoorY02
set_option linter.unusedSimpArgs false
set_option linter.unusedVariables false
set_option maxRecDepth 100000
set_option maxHeartbeats 32000000
namespace Go.Proofs.YteabgcollokgjaaGreatDoor
section
open Go.RowKit Go.MapKept Go.ChangeMaps
open Go.Maps (Keyed)
section
variable {α β:Type} [DecidableEq α]
def delL:List (α×β)->α->List (α×β)
 | [],_=>[]
 | c::L,a=>if c.1=a then L else c::delL L a
theorem delL_none {L:List (α×β)} {a:α} (h:∀ c∈L,c.1≠a):delL L a=L:=by
 induction L with
 | nil=>rfl
 | cons c L ih=>rw [delL,if_neg (h c (by simp)),ih (fun c hc=>h c (by simp [hc]))]
theorem delL_at {L:List (α×β)} (hn:(L.map (·.1)).Nodup) {j:Nat} {c:α×β} (h:L[j]? =some c):delL L c.1=L.eraseIdx j:=by
 induction L generalizing j with
 | nil=>simp at h
 | cons d L ih=>
  simp only [List.map_cons,List.nodup_cons] at hn;cases j with
  | zero=>simp at h;subst h;simp [delL]
  | succ j=>
   simp only [List.getElem?_cons_succ] at h;have:d.1≠c.1:=fun e=>hn.1 (by rw [e];exact List.mem_map.2 ⟨c,List.mem_of_getElem? h,rfl⟩);rw [delL,if_neg this,ih hn.2 h];rfl
theorem delL_sub (L:List (α×β)) (a:α):∀ c∈delL L a,c∈L:=by
 induction L with
 | nil=>simp [delL]
 | cons d L ih=>
  intro c hc;rw [delL] at hc;split at hc
  · exact List.mem_cons_of_mem _ hc
  rcases List.mem_cons.1 hc with rfl | hc
  · simp
  exact List.mem_cons_of_mem _ (ih c hc)
theorem asc_delL {L:List (α×β)} (hn:(L.map (·.1)).Nodup) (a a':α):asc (delL L a) a'=if a=a' then none else asc L a':=by
 induction L with
 | nil=>simp [delL,asc]
 | cons c L ih=>
  simp only [List.map_cons,List.nodup_cons] at hn;rw [delL];split
  · rename_i e
    subst e;split
    · rename_i e2
      subst e2;exact asc_none (fun d hd e3=>hn.1 (e3 ▸ List.mem_map.2 ⟨d,hd,rfl⟩))
    rename_i e2
    rw [asc,if_neg e2]
  rename_i e
  simp only [asc,ih hn.2];split
  · rename_i e2
    rw [if_neg (fun e3=>e (e2.trans e3.symm))]
  rfl
theorem delL_pairwise {R:(α×β)->(α×β)->Prop} {L:List (α×β)} (h:L.Pairwise R) (a:α):(delL L a).Pairwise R:=by
 induction L with
 | nil=>simp [delL]
 | cons c L ih=>
  obtain ⟨h1,h2⟩:=List.pairwise_cons.1 h;rw [delL];split
  · exact h2
  exact List.pairwise_cons.2 ⟨fun d hd=>h1 d (delL_sub L a d hd),ih h2⟩
theorem setL_pairwise {R:(α×β)->(α×β)->Prop} {L:List (α×β)} (hn:(L.map (·.1)).Nodup) (h:L.Pairwise R) (a:α) (v:β) (hs:∀ x y,R x y->R y x) (hv:∀ c∈L,c.1≠a->R c (a,v)):(setL L a v).Pairwise R/\∀ c∈setL L a v,c=(a,v)∨c∈L:=by
 induction L with
 | nil=>simp [setL]
 | cons c L ih=>
  obtain ⟨h1,h2⟩:=List.pairwise_cons.1 h;simp only [List.map_cons,List.nodup_cons] at hn;obtain ⟨i1,i2⟩:=ih hn.2 h2 (fun d hd=>hv d (by simp [hd]));rw [setL];split
  · rename_i e
    refine ⟨List.pairwise_cons.2 ⟨fun d hd=>?_,h2⟩,fun d hd=>?_⟩
    · by_cases hd1:d.1=a
      · exact absurd (List.mem_map.2 ⟨d,hd,by rw [hd1,e]⟩) hn.1
      exact hs _ _ (hv d (by simp [hd]) hd1)
    rcases List.mem_cons.1 hd with rfl | hd
    · exact .inl rfl
    exact .inr (by simp [hd])
  rename_i e
  refine ⟨List.pairwise_cons.2 ⟨fun d hd=>?_,i1⟩,fun d hd=>?_⟩
  · rcases i2 d hd with rfl | hd
    · exact hv c (by simp) e
    exact h1 d hd
  rcases List.mem_cons.1 hd with rfl | hd
  · exact .inr (by simp)
  rcases i2 d hd with h | h
  · exact .inl h
  exact .inr (by simp [h])
end
section
variable {α β:Type} [DecidableEq α]
variable {P:Program} {k:TypeId} {ok:α->Prop} {kv:α->Value} {vv:β->Value}
theorem map_erase {γ δ:Type} (f:γ->δ) (l:List γ) (j:Nat):(l.eraseIdx j).map f=(l.map f).eraseIdx j:=by
 induction l generalizing j with
 | nil=>simp
 | cons c l ih=>
  cases j with
  | zero=>simp
  | succ j=>simp [ih]
theorem set_block {W:World} {b:Nat} {o o':Obj} (ho:W.heap[b]? =some o):W.grownBy (setBlock W b o') (some b)/\(setBlock W b o').heap.size=W.heap.size/\(setBlock W b o').heap[b]? =some o':=by
 have hlt:b<W.heap.size:=(Array.getElem?_eq_some_iff.1 ho).1;refine ⟨⟨rfl,rfl,rfl,by simp [setBlock],fun i hi hne=>?_⟩,by simp [setBlock],by simp [setBlock,hlt]⟩;have:b≠i:=fun e=>hne (by rw [e]);simp [setBlock,this]
theorem MapIs.update (M:MK P k ok kv) {t e:TypeId} (ht:P.underlying t=some (.map k e)) {w:World} {b:Nat} {L:List (α×β)} (h:MapIs ok kv vv w b L) {a:α} (ha:ok a) (v:β):
 ∃ w',(Instr.mapUpdate t (.map (some b)) (kv a) (vv v)).run P w= .ok () w'/\MapIs ok kv vv w' b (setL L a v)/\w.grownBy w' (some b)/\w'.heap.size=w.heap.size:=by
 obtain ⟨es,clock,hb,hs,he,hok⟩:=h;obtain ⟨l,hl⟩:=M.key a ha
 have hok':∀ c∈setL L a v,ok c.1:=by
  intro c hc;have:c.1∈(setL L a v).map (·.1):=List.mem_map.2 ⟨c,hc,rfl⟩;rcases (setL_keys L a v c.1).1 this with h | h
  · rw [h];exact ha
  obtain ⟨d,hd,e⟩:=List.mem_map.1 h;rw [<- e];exact hok d hd
 rcases MapIs.find (w:=w) M hs he hok ha with ⟨h1,h0,h2⟩ | ⟨j,x,v0,h1,h2,h3,h4,h5⟩
 · refine ⟨setBlock w b (.map (es.push ⟨kv a,vv v,clock⟩) (clock+1)),?_,⟨_,_,(set_block hb).2.2,stamped_push hs h0,?_,hok'⟩,(set_block hb).1,(set_block hb).2.1⟩
   · simp [Instr.mapUpdate,run_underlying ht,MapKept.run_getObj_map hb,M.K.check w false hl,h1,MapKept.run_setObj_map _ hb,Result.andThen,setBlock]
   rw [setL_none h2];simp [he]
 have hj:es[j]? =some x:=by simpa using h2
 refine ⟨setBlock w b (.map (es.modify j (fun e'=>{ e' with key:=kv a,val:=vv v })) clock),?_,⟨_,_,(set_block hb).2.2,?_,setL_enc hs he h4 v,hok'⟩,(set_block hb).1,(set_block hb).2.1⟩
 · simp [Instr.mapUpdate,run_underlying ht,MapKept.run_getObj_map hb,M.K.check w false hl,h1,hj,h3,M.K.stays w hl,MapKept.run_setObj_map _ hb,Result.andThen,setBlock]
 refine stamped_modify hs _ _ (fun _ _=>rfl) (fun e' _ he'=>?_);rw [hj] at he';cases he'
 exact h3.symm
theorem MapIs.delete (M:MK P k ok kv) {t e:TypeId} (ht:P.underlying t=some (.map k e)) {w:World} {b:Nat} {L:List (α×β)} (h:MapIs ok kv vv w b L) {a:α} (ha:ok a) (kt ty:TypeId):
 ∃ w',(Builtin.delete_ #[t,kt] ty #[.map (some b),kv a]).run P w= .ok (.tuple #[]) w'/\MapIs ok kv vv w' b (delL L a)/\w.grownBy w' (some b)/\w'.heap.size=w.heap.size:=by
 obtain ⟨es,clock,hb,hs,he,hok⟩:=h;obtain ⟨l,hl⟩:=M.key a ha;have hok':∀ c∈delL L a,ok c.1:=fun c hc=>hok c (delL_sub L a c hc);rcases MapIs.find (w:=w) M hs he hok ha with ⟨h1,h0,h2⟩ | ⟨j,x,v0,h1,h2,h3,h4,h5⟩
 · refine ⟨setBlock w b (.map es clock),?_,⟨_,_,(set_block hb).2.2,hs,by rw [delL_none h2];exact he,hok'⟩,(set_block hb).1,(set_block hb).2.1⟩;simp [Builtin.delete_,run_underlying ht,MapKept.run_getObj_map hb,M.K.check w _ hl,h1,MapKept.run_setObj_map _ hb,Result.andThen,setBlock]
 refine ⟨setBlock w b (.map (es.eraseIdxIfInBounds j) clock),?_,⟨_,_,(set_block hb).2.2,stamped_erase hs j,?_,hok'⟩,(set_block hb).1,(set_block hb).2.1⟩
 · simp [Builtin.delete_,run_underlying ht,MapKept.run_getObj_map hb,M.K.check w _ hl,h1,MapKept.run_setObj_map _ hb,Result.andThen,setBlock]
 have e1:delL L a=L.eraseIdx j:=delL_at (keys_nodup hs he) h4
 have hjl:j<es.size:=by
  have:=(List.getElem?_eq_some_iff.1 h2).1;simpa using this
 rw [e1,Array.eraseIdxIfInBounds,dif_pos hjl,Array.toList_eraseIdx,map_erase,map_erase,he]
end
end
section
open Go.RowKit Go.MapKept Go.ChangeMaps
theorem of_drew {B:Nat} {w w':World} (h:Below B w.drew w'):Below B w w':=⟨h.os,h.tape,h.output,h.size,h.block⟩
theorem bel1 (w:World) (o:Obj):Below w.heap.size w (w.alloc o):=(Below.refl _ _).alloc (Nat.le_refl _) o
abbrev En:=BD×List UInt8
abbrev Files:=List (ByteArray×En)
def okS (s:ByteArray):Prop:=s.size<=maxLen
abbrev kS (s:ByteArray):Value:=.string s
def vE (p:En):Value:=vB p.1
theorem mkS:MK Tryz.prog 9 okS kS:=⟨Maps.string_keyed Tryz.underlying9,fun s h=>⟨.string s.data.toList,by simp only [okS] at h;simp [keyOf,Tryz.underlying9,mapKey,h]⟩,fun a b h=>by injection h⟩
theorem zero22 (w:World):(zeroValue 34).run Tryz.prog w= .ok (vE (⟨none,0,0⟩,[])) w:=by kernel_rfl
def FM (w:World) (b:Nat) (E:Files):Prop:=MapIs okS kS vE w b E/\(∀ e∈E,RB w e.2.1 e.2.2)/\E.Pairwise (fun x y=>∀ g,blk x.2.1=some g->blk y.2.1≠some g)
def rooms (E:Files):List (Nat×Nat):=E.flatMap (fun e=>room e.2.1)
def plain (E:Files):List (ByteArray×List UInt8):=E.map (fun e=>(e.1,e.2.2))
def Succ (E E':Files) (H:Nat):Prop:=∀ e∈E',∀ g,blk e.2.1=some g->H<=g∨∃ d∈E,blk d.2.1=some g/\d.2.1.len<=e.2.1.len/\d.2.1.cap=e.2.1.cap
theorem mem_room {d:BD} {p:Nat×Nat}:p∈room d↔blk d=some p.1/\p.2=d.len/\d.len<d.cap:=by
 unfold room blk;cases d.A with
 | none=>simp
 | some ad=>
  by_cases h:d.len<d.cap
  · simp [h];constructor
    · rintro rfl;exact ⟨rfl,rfl⟩
    rintro ⟨h1,h2⟩;exact Prod.ext h1.symm h2
  simp [h]
theorem mem_rooms {E:Files} {p:Nat×Nat}:p∈rooms E↔∃ e∈E,blk e.2.1=some p.1/\p.2=e.2.1.len/\e.2.1.len<e.2.1.cap:=by
 unfold rooms;rw [List.mem_flatMap];constructor
 · rintro ⟨e,he,hp⟩;exact ⟨e,he,mem_room.1 hp⟩
 rintro ⟨e,he,hp⟩;exact ⟨e,he,mem_room.2 hp⟩
def Safe (E:Files) (d:BD):Prop:=∀ p∈rooms E,blk d=some p.1->d.len<=p.2
theorem Safe.next {E E':Files} {H:Nat} {d:BD} (h:Safe E d) (hs:Succ E E' H) (hd:∀ g,blk d=some g->g<H):Safe E' d:=by
 intro p hp hb;obtain ⟨e,he,h1,h2,h3⟩:=mem_rooms.1 hp;rcases hs e he p.1 h1 with h4 | ⟨c,hc,c1,c2,c3⟩
 · have:=hd p.1 hb;omega
 have:=h (p.1,c.2.1.len) (mem_rooms.2 ⟨c,hc,c1,rfl,by omega⟩) hb;simp only at this;omega
theorem plain_setL (E:Files) (s:ByteArray) (v:En):plain (setL E s v)=setL (plain E) s v.2:=by
 induction E with
 | nil=>rfl
 | cons c E ih=>
  rw [setL];show _=setL ((c.1,c.2.2)::plain E) s v.2;rw [setL];by_cases h:c.1=s
  · simp [h,plain]
  rw [if_neg h,if_neg h];show (c.1,c.2.2)::plain (setL E s v)=_;rw [ih]
theorem plain_delL (E:Files) (s:ByteArray):plain (delL E s)=delL (plain E) s:=by
 induction E with
 | nil=>rfl
 | cons c E ih=>
  rw [delL];show _=delL ((c.1,c.2.2)::plain E) s;rw [delL];by_cases h:c.1=s
  · simp [h,plain]
  rw [if_neg h,if_neg h];show (c.1,c.2.2)::plain (delL E s)=_;rw [ih]
theorem asc_plain (E:Files) (s:ByteArray):asc (plain E) s=(asc E s).map (·.2):=by
 induction E with
 | nil=>rfl
 | cons c E ih=>
  show asc ((c.1,c.2.2)::plain E) s=_;rw [asc,asc];split
  · rfl
  exact ih
theorem is_map {w:World} {b:Nat} {E:Files} (h:MapIs okS kS vE w b E) {t:TypeId} {cs:Array Value}:¬ IsB w b t cs:=by
 intro hb;obtain ⟨es,clock,h1,_⟩:=h;unfold IsB at hb;rw [h1] at hb;cases hb
theorem RB.ne_map {w:World} {b:Nat} {E:Files} (h:MapIs okS kS vE w b E) {d:BD} {bs:List UInt8} (hr:RB w d bs):blk d≠some b:=by
 intro e;cases hA:d.A with
 | none=>simp [blk,hA] at e
 | some ad=>
  obtain ⟨g,cur,rfl,hg,_⟩:=hr.2.2.2 ad hA;simp [blk,hA] at e;subst e;exact is_map h hg
theorem FM.kept {w w':World} {b:Nat} {E:Files} (h:FM w b E) (hb:w'.heap[b]? =w.heap[b]?) (hr:∀ e∈E,RB w e.2.1 e.2.2->RB w' e.2.1 e.2.2):FM w' b E:=⟨h.1.same hb,fun e he=>hr e he (h.2.1 e he),h.2.2⟩
theorem FM.on {w w':World} {b:Nat} {E:Files} (h:FM w b E) (hb:Below w.heap.size w w'):FM w' b E:=h.kept (hb.block b h.1.lt) (fun _ _ hr=>hr.on hb)
theorem FM.own {E:Files} (h:E.Pairwise (fun x y=>∀ g,blk x.2.1=some g->blk y.2.1≠some g)) {c d:ByteArray×En} (hc:c∈E) (hd:d∈E) {g:Nat} (h1:blk c.2.1=some g) (h2:blk d.2.1=some g):c=d:=by
 induction E with
 | nil=>cases hc
 | cons x E ih=>
  obtain ⟨a,b⟩:=List.pairwise_cons.1 h;rcases List.mem_cons.1 hc with e1 | hc1
  · rcases List.mem_cons.1 hd with e2 | hd1
    · rw [e1,e2]
    subst e1;exact absurd h2 (a d hd1 g h1)
  rcases List.mem_cons.1 hd with e2 | hd1
  · subst e2;exact absurd h1 (a c hc1 g h2)
  exact ih b hc1 hd1
def OpPost (b:Nat) (E:Files) (F':List (ByteArray×List UInt8)) (w:World) (e:Ending) (w':World):Prop:=
 e= .returned (.tuple #[])/\∃ E',FM w' b E'/\plain E'=F'/\Succ E E' w.heap.size/\Ch w w' (fun i=>i=b) (rooms E)
theorem grown_ch {w w':World} {b:Nat} (h:w.grownBy w' (some b)) (G:List (Nat×Nat)):Ch w w' (fun i=>i=b) G:=
 ⟨h.os,h.tape,h.output,h.size,fun i hi hm _=>h.block i hi (fun e=>hm (by injection e)),fun p _ hm cur hc=>⟨cur,hc.grown h (fun e=>hm (by injection e)),rfl,fun _ _=>rfl⟩⟩
theorem Ch.after {w w1 w':World} {M:Nat->Prop} {G:List (Nat×Nat)} (h0:Below w.heap.size w w1) (h:Ch w1 w' M G):Ch w w' M G:=
 ⟨h.os.trans h0.os,h.tape.trans h0.tape,h.output.trans h0.output,Nat.le_trans h0.size h.size,fun i hi hm hg=>(h.block i (Nat.lt_of_lt_of_le hi h0.size) hm hg).trans (h0.block i hi),fun p hp hm cur hc=>h.bytes p hp hm cur (hc.on h0)⟩
theorem Ch.then {w w1 w':World} {M:Nat->Prop} {G:List (Nat×Nat)} (h:Ch w w1 M G) (h2:Ch w1 w' M G):Ch w w' M G:=by
 refine ⟨h2.os.trans h.os,h2.tape.trans h.tape,h2.output.trans h.output,Nat.le_trans h.size h2.size,fun i hi hm hg=>(h2.block i (Nat.lt_of_lt_of_le hi h.size) hm hg).trans (h.block i hi hm hg),fun p hp hm cur hc=>?_⟩;obtain ⟨c1,a1,a2,a3⟩:=h.bytes p hp hm cur hc;obtain ⟨c2,b1,b2,b3⟩:=h2.bytes p hp hm c1 a1;exact ⟨c2,b1,by omega,fun j hj=>(b3 j hj).trans (a3 j hj)⟩
theorem RB.grown {w w':World} {b:Nat} {d:BD} {bs:List UInt8} (h:RB w d bs) (hg:w.grownBy w' (some b)) (hb:blk d≠some b):RB w' d bs:=h.ch (grown_ch hg []) (fun g e hm=>hb (by rw [e];exact congrArg some hm)) (by simp)
theorem FM.set_ {w w':World} {b:Nat} {E:Files} (h:FM w b E) {s:ByteArray} {d:BD} {bs:List UInt8} (hm:MapIs okS kS vE w' b (setL E s (d,bs))) (hg:w.grownBy w' (some b)) (hd:RB w d bs) (hne:∀ c∈E,c.1≠s->∀ g,blk c.2.1=some g->blk d≠some g):FM w' b (setL E s (d,bs)):=by
 obtain ⟨p1,p2⟩:=setL_pairwise (R:=fun x y:ByteArray×En=>∀ g,blk x.2.1=some g->blk y.2.1≠some g) h.1.nodup h.2.2 s (d,bs) (fun x y hxy g hy hx=>hxy g hx hy) (fun c hc hcs g h1=>hne c hc hcs g h1);refine ⟨hm,fun e he=>?_,p1⟩;rcases p2 e he with rfl | he
 · exact hd.grown hg (RB.ne_map h.1 hd)
 exact (h.2.1 e he).grown hg (RB.ne_map h.1 (h.2.1 e he))
theorem Succ.refl (E:Files) (H:Nat):Succ E E H:=fun e he _g hg=> .inr ⟨e,he,hg,Nat.le_refl _,rfl⟩
theorem Succ.sub {E E':Files} (h:∀ e∈E',e∈E) (H:Nat):Succ E E' H:=fun e he _g hg=> .inr ⟨e,h e he,hg,Nat.le_refl _,rfl⟩
abbrev vOp (run:Value) (nm to:ByteArray) (d:BD) (tears:Bool):Value:=.agg #[run,.string nm,.string to,.slice d.A d.len d.cap,.bool tears]
theorem remove_any (b:Nat) (E:Files) (run:Value) (nm to:ByteArray) (d:BD) (tears:Bool) (w:World) (h:FM w b E) (hn:okS nm):
 Calls Tryz.prog 235 #[.map (some b),vOp run nm to d tears] w (OpPost b E (delL (plain E) nm) w):=by
 obtain ⟨w2,hrun,hm,hg,hsz⟩:=MapIs.delete mkS Tryz.underlying133 (h.1.alloc (.cells #[run,.string nm,.string to,.slice d.A d.len d.cap,.bool tears] 239)) hn 9 0;have hrun':∀ ty,(Builtin.delete_ #[133,9] ty #[.map (some b),.string nm]).run Tryz.prog (w.alloc (.cells #[run,.string nm,.string to,.slice d.A d.len d.cap,.bool tears] 239))= .ok (.tuple #[]) w2:=fun _=>hrun;have H:=Lib.hid h;have Hm:=Lib.hid hm;have Hg:=Lib.hid hg;clear h hm hg hrun hsz;go_enter Tryz.func235,Tryz.ntmps235;go_wp2_with fail
 go_end0;have hfm:=H.out.on (bel1 w (.cells #[run,.string nm,.string to,.slice d.A d.len d.cap,.bool tears] 239));refine ⟨rfl,delL E nm,⟨Hm.out,fun e he=>?_,delL_pairwise hfm.2.2 nm⟩,plain_delL E nm,Succ.sub (delL_sub E nm) _,Ch.after (bel1 _ _) (grown_ch Hg.out _)⟩;have he':=delL_sub E nm e he;exact (hfm.2.1 e he').grown Hg.out (RB.ne_map hfm.1 (hfm.2.1 e he'))
end
end Go.Proofs.YteabgcollokgjaaGreatDoor
