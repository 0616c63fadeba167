/- Q -/
import Derived.Test.YteabgcollokgjaaGreatDoorQH02
import Derived.Deep.RegionHeld3
set_option linter.unusedSimpArgs false
set_option linter.unusedVariables false
set_option maxRecDepth 100000
set_option maxHeartbeats 32000000
namespace Go.Proofs.YteabgcollokgjaaGreatDoor
section
open Go.RowKit Go.MapKept Go.ChangeMaps
theorem of_drew {B:Nat} {w w':World} (h:Below B w.drew w'):Below B w w':=⟨h.os,h.tape,h.output,h.size,h.block⟩
theorem bel1 (w:World) (o:Obj):Below w.heap.size w (w.alloc o):=(Below.refl _ _).alloc (Nat.le_refl _) o
abbrev En:=BD×List UInt8
abbrev Files:=List (ByteArray×En)
def okS (s:ByteArray):Prop:=s.size<=maxLen
abbrev kS (s:ByteArray):Value:=.string s
def vE (p:En):Value:=vB p.1
theorem mkS:MK Tryz.prog 9 okS kS:=⟨Maps.string_keyed Tryz.underlying9,fun s h=>⟨.string s.data.toList,by simp only [okS] at h;simp [keyOf,Tryz.underlying9,mapKey,h]⟩,fun a b h=>by injection h⟩
theorem zero22 (w:World):(zeroValue 34).run Tryz.prog w= .ok (vE (⟨none,0,0⟩,[])) w:=by kernel_rfl
def FM (w:World) (b:Nat) (E:Files):Prop:=MapIs okS kS vE w b E/\(∀ e∈E,RB w e.2.1 e.2.2)/\E.Pairwise (fun x y=>∀ g,blk x.2.1=some g->blk y.2.1≠some g)
def rooms (E:Files):List (Nat×Nat):=E.flatMap (fun e=>room e.2.1)
def plain (E:Files):List (ByteArray×List UInt8):=E.map (fun e=>(e.1,e.2.2))
def Succ (E E':Files) (H:Nat):Prop:=∀ e∈E',∀ g,blk e.2.1=some g->H<=g∨∃ d∈E,blk d.2.1=some g/\d.2.1.len<=e.2.1.len/\d.2.1.cap=e.2.1.cap
theorem mem_room {d:BD} {p:Nat×Nat}:p∈room d↔blk d=some p.1/\p.2=d.len/\d.len<d.cap:=by
 unfold room blk;cases d.A with
 | none=>simp
 | some ad=>
  by_cases h:d.len<d.cap
  · simp [h];constructor
    · rintro rfl;exact ⟨rfl,rfl⟩
    rintro ⟨h1,h2⟩;exact Prod.ext h1.symm h2
  simp [h]
theorem mem_rooms {E:Files} {p:Nat×Nat}:p∈rooms E↔∃ e∈E,blk e.2.1=some p.1/\p.2=e.2.1.len/\e.2.1.len<e.2.1.cap:=by
 unfold rooms;rw [List.mem_flatMap];constructor
 · rintro ⟨e,he,hp⟩;exact ⟨e,he,mem_room.1 hp⟩
 rintro ⟨e,he,hp⟩;exact ⟨e,he,mem_room.2 hp⟩
def Safe (E:Files) (d:BD):Prop:=∀ p∈rooms E,blk d=some p.1->d.len<=p.2
theorem Safe.next {E E':Files} {H:Nat} {d:BD} (h:Safe E d) (hs:Succ E E' H) (hd:∀ g,blk d=some g->g<H):Safe E' d:=by
 intro p hp hb;obtain ⟨e,he,h1,h2,h3⟩:=mem_rooms.1 hp;rcases hs e he p.1 h1 with h4 | ⟨c,hc,c1,c2,c3⟩
 · have:=hd p.1 hb;omega
 have:=h (p.1,c.2.1.len) (mem_rooms.2 ⟨c,hc,c1,rfl,by omega⟩) hb;simp only at this;omega
theorem plain_setL (E:Files) (s:ByteArray) (v:En):plain (setL E s v)=setL (plain E) s v.2:=by
 induction E with
 | nil=>rfl
 | cons c E ih=>
  rw [setL];show _=setL ((c.1,c.2.2)::plain E) s v.2;rw [setL];by_cases h:c.1=s
  · simp [h,plain]
  rw [if_neg h,if_neg h];show (c.1,c.2.2)::plain (setL E s v)=_;rw [ih]
theorem plain_delL (E:Files) (s:ByteArray):plain (delL E s)=delL (plain E) s:=by
 induction E with
 | nil=>rfl
 | cons c E ih=>
  rw [delL];show _=delL ((c.1,c.2.2)::plain E) s;rw [delL];by_cases h:c.1=s
  · simp [h,plain]
  rw [if_neg h,if_neg h];show (c.1,c.2.2)::plain (delL E s)=_;rw [ih]
theorem asc_plain (E:Files) (s:ByteArray):asc (plain E) s=(asc E s).map (·.2):=by
 induction E with
 | nil=>rfl
 | cons c E ih=>
  show asc ((c.1,c.2.2)::plain E) s=_;rw [asc,asc];split
  · rfl
  exact ih
theorem is_map {w:World} {b:Nat} {E:Files} (h:MapIs okS kS vE w b E) {t:TypeId} {cs:Array Value}:¬ IsB w b t cs:=by
 intro hb;obtain ⟨es,clock,h1,_⟩:=h;unfold IsB at hb;rw [h1] at hb;cases hb
theorem RB.ne_map {w:World} {b:Nat} {E:Files} (h:MapIs okS kS vE w b E) {d:BD} {bs:List UInt8} (hr:RB w d bs):blk d≠some b:=by
 intro e;cases hA:d.A with
 | none=>simp [blk,hA] at e
 | some ad=>
  obtain ⟨g,cur,rfl,hg,_⟩:=hr.2.2.2 ad hA;simp [blk,hA] at e;subst e;exact is_map h hg
theorem FM.kept {w w':World} {b:Nat} {E:Files} (h:FM w b E) (hb:w'.heap[b]? =w.heap[b]?) (hr:∀ e∈E,RB w e.2.1 e.2.2->RB w' e.2.1 e.2.2):FM w' b E:=⟨h.1.same hb,fun e he=>hr e he (h.2.1 e he),h.2.2⟩
theorem FM.on {w w':World} {b:Nat} {E:Files} (h:FM w b E) (hb:Below w.heap.size w w'):FM w' b E:=h.kept (hb.block b h.1.lt) (fun _ _ hr=>hr.on hb)
theorem FM.own {E:Files} (h:E.Pairwise (fun x y=>∀ g,blk x.2.1=some g->blk y.2.1≠some g)) {c d:ByteArray×En} (hc:c∈E) (hd:d∈E) {g:Nat} (h1:blk c.2.1=some g) (h2:blk d.2.1=some g):c=d:=by
 induction E with
 | nil=>cases hc
 | cons x E ih=>
  obtain ⟨a,b⟩:=List.pairwise_cons.1 h;rcases List.mem_cons.1 hc with e1 | hc1
  · rcases List.mem_cons.1 hd with e2 | hd1
    · rw [e1,e2]
    subst e1;exact absurd h2 (a d hd1 g h1)
  rcases List.mem_cons.1 hd with e2 | hd1
  · subst e2;exact absurd h1 (a c hc1 g h2)
  exact ih b hc1 hd1
def OpPost (b:Nat) (E:Files) (F':List (ByteArray×List UInt8)) (w:World) (e:Ending) (w':World):Prop:=
 e= .returned (.tuple #[])/\∃ E',FM w' b E'/\plain E'=F'/\Succ E E' w.heap.size/\Ch w w' (fun i=>i=b) (rooms E)
theorem grown_ch {w w':World} {b:Nat} (h:w.grownBy w' (some b)) (G:List (Nat×Nat)):Ch w w' (fun i=>i=b) G:=
 ⟨h.os,h.tape,h.output,h.size,fun i hi hm _=>h.block i hi (fun e=>hm (by injection e)),fun p _ hm cur hc=>⟨cur,hc.grown h (fun e=>hm (by injection e)),rfl,fun _ _=>rfl⟩⟩
theorem Ch.after {w w1 w':World} {M:Nat->Prop} {G:List (Nat×Nat)} (h0:Below w.heap.size w w1) (h:Ch w1 w' M G):Ch w w' M G:=
 ⟨h.os.trans h0.os,h.tape.trans h0.tape,h.output.trans h0.output,Nat.le_trans h0.size h.size,fun i hi hm hg=>(h.block i (Nat.lt_of_lt_of_le hi h0.size) hm hg).trans (h0.block i hi),fun p hp hm cur hc=>h.bytes p hp hm cur (hc.on h0)⟩
theorem Ch.then {w w1 w':World} {M:Nat->Prop} {G:List (Nat×Nat)} (h:Ch w w1 M G) (h2:Ch w1 w' M G):Ch w w' M G:=by
 refine ⟨h2.os.trans h.os,h2.tape.trans h.tape,h2.output.trans h.output,Nat.le_trans h.size h2.size,fun i hi hm hg=>(h2.block i (Nat.lt_of_lt_of_le hi h.size) hm hg).trans (h.block i hi hm hg),fun p hp hm cur hc=>?_⟩;obtain ⟨c1,a1,a2,a3⟩:=h.bytes p hp hm cur hc;obtain ⟨c2,b1,b2,b3⟩:=h2.bytes p hp hm c1 a1;exact ⟨c2,b1,by omega,fun j hj=>(b3 j hj).trans (a3 j hj)⟩
theorem RB.grown {w w':World} {b:Nat} {d:BD} {bs:List UInt8} (h:RB w d bs) (hg:w.grownBy w' (some b)) (hb:blk d≠some b):RB w' d bs:=h.ch (grown_ch hg []) (fun g e hm=>hb (by rw [e];exact congrArg some hm)) (by simp)
theorem FM.set_ {w w':World} {b:Nat} {E:Files} (h:FM w b E) {s:ByteArray} {d:BD} {bs:List UInt8} (hm:MapIs okS kS vE w' b (setL E s (d,bs))) (hg:w.grownBy w' (some b)) (hd:RB w d bs) (hne:∀ c∈E,c.1≠s->∀ g,blk c.2.1=some g->blk d≠some g):FM w' b (setL E s (d,bs)):=by
 obtain ⟨p1,p2⟩:=setL_pairwise (R:=fun x y:ByteArray×En=>∀ g,blk x.2.1=some g->blk y.2.1≠some g) h.1.nodup h.2.2 s (d,bs) (fun x y hxy g hy hx=>hxy g hx hy) (fun c hc hcs g h1=>hne c hc hcs g h1);refine ⟨hm,fun e he=>?_,p1⟩;rcases p2 e he with rfl | he
 · exact hd.grown hg (RB.ne_map h.1 hd)
 exact (h.2.1 e he).grown hg (RB.ne_map h.1 (h.2.1 e he))
theorem Succ.refl (E:Files) (H:Nat):Succ E E H:=fun e he _g hg=> .inr ⟨e,he,hg,Nat.le_refl _,rfl⟩
theorem Succ.sub {E E':Files} (h:∀ e∈E',e∈E) (H:Nat):Succ E E' H:=fun e he _g hg=> .inr ⟨e,h e he,hg,Nat.le_refl _,rfl⟩
abbrev vOp (run:Value) (nm to:ByteArray) (d:BD) (tears:Bool):Value:=.agg #[run,.string nm,.string to,.slice d.A d.len d.cap,.bool tears]
theorem remove_any (b:Nat) (E:Files) (run:Value) (nm to:ByteArray) (d:BD) (tears:Bool) (w:World) (h:FM w b E) (hn:okS nm):
 Calls Tryz.prog 235 #[.map (some b),vOp run nm to d tears] w (OpPost b E (delL (plain E) nm) w):=by
 obtain ⟨w2,hrun,hm,hg,hsz⟩:=MapIs.delete mkS Tryz.underlying133 (h.1.alloc (.cells #[run,.string nm,.string to,.slice d.A d.len d.cap,.bool tears] 239)) hn 9 0;have hrun':∀ ty,(Builtin.delete_ #[133,9] ty #[.map (some b),.string nm]).run Tryz.prog (w.alloc (.cells #[run,.string nm,.string to,.slice d.A d.len d.cap,.bool tears] 239))= .ok (.tuple #[]) w2:=fun _=>hrun;have H:=Lib.hid h;have Hm:=Lib.hid hm;have Hg:=Lib.hid hg;clear h hm hg hrun hsz;go_enter Tryz.func235,Tryz.ntmps235;go_wp2_with fail
 go_end0;have hfm:=H.out.on (bel1 w (.cells #[run,.string nm,.string to,.slice d.A d.len d.cap,.bool tears] 239));refine ⟨rfl,delL E nm,⟨Hm.out,fun e he=>?_,delL_pairwise hfm.2.2 nm⟩,plain_delL E nm,Succ.sub (delL_sub E nm) _,Ch.after (bel1 _ _) (grown_ch Hg.out _)⟩;have he':=delL_sub E nm e he;exact (hfm.2.1 e he').grown Hg.out (RB.ne_map hfm.1 (hfm.2.1 e he'))
end
end Go.Proofs.YteabgcollokgjaaGreatDoor
