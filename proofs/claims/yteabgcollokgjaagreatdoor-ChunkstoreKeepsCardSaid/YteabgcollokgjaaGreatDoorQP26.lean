/- Q -/
import Derived.Test.YteabgcollokgjaaGreatDoorQP25
set_option linter.unusedSimpArgs false
set_option linter.unusedVariables false
set_option maxRecDepth 100000
set_option maxHeartbeats 32000000
open List renaming setIfInBounds_toArray → zA
namespace Go.Proofs.YteabgcollokgjaaGreatDoor
section
open Go.RowKit Go.MapKept Go.ChangeMaps Go.Shelf Go.Sort
section
variable {b:Nat} {w0 w w':World} {l l':List Ob}
theorem SW.then (h:SW b w0 l w) (k:SW b w l' w'):SW b w0 l' w':=⟨k.1,h.2.trans k.2⟩
theorem SW.behind {x:SR} {o:Ob} (h:SW b w0 (o::x.obs l) w):SW b w0 (x.obs (o::l)) w:=
 SW.front (pre:=[o,devOb x.p x.r x.s,cellOb x.ps 131 x.cells,chOb x.cm x.C,flOb x.fm x.F]) (t:=l) h [1,2,3,4,0] (n:=5) rfl (by decide)
end
theorem New_L (w:World):Calls Tryz.prog 21 #[] w (fun e w'=>∃ r,e= .returned (vPtr (w.heap.size+2))/\SW w.heap.size w [devOb (w.heap.size+2) r St.new] w'):=by
 refine (New_any w).mono ?_;rintro e w' ⟨rfl,hd,hb⟩;refine ⟨_,rfl,(SW.refl (Sep.nil w (Nat.le_refl _))).addN hb hd (fun i hi=>⟨?_,hd.own_lt hi⟩) (fun i hi=>⟨?_,hd.reads_lt hi⟩)⟩
 · rcases hi with hi | ⟨q,hq,rfl⟩
   · rcases hi with rfl | rfl | rfl | hi
     · omega
     · exact Nat.le_refl _
     · exact Nat.le_succ _
     cases hi
   cases hq
 obtain ⟨d,hd,_⟩:=hi;rcases hd with ⟨_,he,_⟩ | ⟨_,he,_⟩ | ⟨_,he,_⟩<;>cases he
section
variable {ns:List ByteArray} {b:Nat} {w0 w:World} {x:SR} {l:List Ob}
def PutNL (ns:List ByteArray) (b:Nat) (w0:World) (x:SR) (bs:List UInt8) (l:List Ob) (e:Ending) (w':World):Prop:=
 e= .returned (.tuple #[.agg #[.int .u64 (fpOf bs).1,.int .i64 (fpOf bs).2],.int .i64 0])/\∃ d,SW b w0 ((putS x (fpOf bs) d bs).obs l) w'/\Cl ns (putS x (fpOf bs) d bs)
theorem PutN_L (h:SW b w0 (x.obs l) w) (hc:Cl ns x) (A:Option Addr) (c:Nat) (bs:List UInt8) (hs:RS w A bs) (h1:1<=bs.length) (h2:bs.length<=8192) (ha:asc x.C (fpOf bs)=none) (hl:x.C.length<4096):
 Calls Tryz.prog 23 #[vPtr x.ps,.slice A bs.length c] w (PutNL ns b w0 x bs l):=by
 have hz:=sizeC_le x.C hc.ids8;have hz2:=hc.size;have hw:=hc.waits;have hp:(Go.Proofs.YteabgcollokgjaaGreatDoor.pends x.C).length<=x.C.length:=by unfold Go.Proofs.YteabgcollokgjaaGreatDoor.pends;rw [List.length_map];exact List.length_filter_le _ _
 refine (Put_new h.1 hc.toWF A c bs hs h1 h2 ha hl hc.wait0 hc.wait1 (by omega) (by omega)).mono ?_;rintro e w' ⟨rfl,d,hs',_,hb⟩;have hsw:SW b w0 ((putS x (fpOf bs) d bs).obs l) w':=⟨hs',h.2.trans hb⟩;have hr:=hs'.spend (x:=putS x (fpOf bs) d bs) (id:=fpOf bs) (d:=d) (bs:=bs) (mem_of_asc (by simp only [putS];rw [asc_setL];simp));exact ⟨rfl,d,hsw,put_cl hc (rb_some hr.1 h1) h1 h2 ha hl⟩
theorem PutS_L (h:SW b w0 (x.obs l) w) (hc:Cl ns x) (A:Option Addr) (c:Nat) (bs:List UInt8) (hs:RS w A bs) (h1:1<=bs.length) (h2:bs.length<=8192) (hv:valC x (fpOf bs)=some bs):
 Calls Tryz.prog 23 #[vPtr x.ps,.slice A bs.length c] w (fun e w'=>e= .returned (.tuple #[.agg #[.int .u64 (fpOf bs).1,.int .i64 (fpOf bs).2],.int .i64 0])/\SW b w0 (x.obs l) w'):=by
 unfold valC at hv;cases ha:asc x.C (fpOf bs) with
 | none=>rw [ha] at hv;cases hv
 | some pl=>
  rw [ha] at hv;have:=Put_there h.1 hc.toWF A c bs hs h1 h2 pl ha bs hv;rw [if_pos rfl,if_pos rfl] at this;refine this.mono ?_;rintro e w' ⟨rfl,hb⟩;exact ⟨rfl,h.on hb⟩
def GetCP (b:Nat) (w0:World) (x:SR) (E:Int) (bs:List UInt8) (l:List Ob) (e:Ending) (w':World):Prop:=
 ∃ d,e= .returned (.tuple #[.slice d.A d.len d.cap,.int .i64 E])/\SW b w0 (x.obs (bufOb d bs::l)) w'
theorem Get_L (h:SW b w0 (x.obs l) w) (hc:Cl ns x) (i:ID) (hi:okID i) (bs:List UInt8) (hv:valC x i=some bs):Calls Tryz.prog 30 #[vPtr x.ps,.agg #[.int .u64 i.1,.int .i64 i.2]] w (GetCP b w0 x 0 bs l):=by
 unfold valC at hv;cases ha:asc x.C i with
 | none=>rw [ha] at hv;cases hv
 | some pl=>
  rw [ha] at hv;have hv:readC x.s x.nm i pl=some bs:=hv;have:=Get_at h.1 hc.toWF i hi pl ha;rw [hv] at this;refine this.mono ?_;rintro e w' ⟨d,rfl,hr,hn,hb⟩;exact ⟨d,rfl,(h.newBytes hb hr hn).behind⟩
theorem GetN_L (h:SW b w0 (x.obs l) w) (hc:Cl ns x) (i:ID) (hi:okID i) (ha:asc x.C i=none):Calls Tryz.prog 30 #[vPtr x.ps,.agg #[.int .u64 i.1,.int .i64 i.2]] w (GetCP b w0 x 333 [] l):=by
 refine (Get_no h.1 hc.toWF i hi ha).mono ?_;rintro e w' ⟨d,rfl,hr,hn,hb⟩;exact ⟨d,rfl,(h.newBytes hb hr hn).behind⟩
def FlushL (ns:List ByteArray) (b:Nat) (w0:World) (x:SR) (l:List Ob) (e:Ending) (w':World):Prop:=
 e= .returned (.int .i64 0)/\∃ x',SW b w0 (x'.obs l) w'/\Cl ns x'/\Flushed x x'
theorem Flush_L (h:SW b w0 (x.obs l) w) (hc:Cl ns x) (hp2:(pends x.C).length<=49) (hsum:flen x.F+frSum (pends x.C)<=1048576):Calls Tryz.prog 35 #[vPtr x.ps] w (FlushL ns b w0 x l):=by
 have hw:=hc.waits;by_cases hp:pends x.C=[]
 · have h0:x.wait=0:=by rw [hw,hp];rfl
   refine (Flush_idle h.1 hc.live hc.up h0).mono ?_;rintro e w' ⟨rfl,rfl⟩;refine ⟨rfl,x,h,hc,⟨fun _=>rfl,fun _=>rfl,fun c hcc=>?_,h0,rfl,rfl,rfl,rfl,by rw [hp];simp [frSum],fun _ _=>rfl,fun h=>h,fun h=>h⟩⟩;obtain ⟨i,pl⟩:=c;cases pl with
   | «at» o=>exact ⟨o,rfl⟩
   | pend d bs=>
    have:=pends_of hcc (hc.pA i d bs hcc).1;rw [hp] at this;cases this
 have h0:x.wait≠0:=by
  have:=List.length_pos_iff.2 hp;omega
 refine (Flush_any h.1 hc.toWH h0 hp hp2 hsum).mono ?_;rintro e w' ⟨q,k1,k2,k3,k4⟩;obtain ⟨he,x',a1,a2,a3⟩:=flush_cl hc k1 hp hsum k3 k4;exact ⟨he,x',h.then a3,a1,a2⟩
def RemL (ns:List ByteArray) (b:Nat) (w0:World) (x:SR) (ids:List ID) (l:List Ob) (e:Ending) (w':World):Prop:=
 e= .returned (.tuple #[.int .i64 ((goneL x.C ids).length:Int),.int .i64 0])/\∃ x',SW b w0 (x'.obs l) w'/\Cl ns x'/\Gone x ids x'
theorem Cl.ren {ns:List ByteArray} {x:SR} (hc:Cl ns x) {G:List (ID×Bool)} (ha:anyAt x.C G=true):readE x.s (fileN x.nm)=0/\(∀ y∈durs x.C,(y.2:Int)+28+y.1.2<=(readB x.s (fileN x.nm)).length)/\entSum (durs x.C)<=1048576:=by
 obtain ⟨f0,hF⟩:=anyAt_file hc ha;obtain ⟨hT0,D0,hD1,hD2,hD3⟩:=hc.file f0 hF;obtain ⟨hR1,hR2⟩:=readE_ok hc.up (nameB_file hc.nv) hD1;refine ⟨hR1,fun y hy=>?_,Nat.le_trans hc.frames hc.len⟩;have hm:=durs_mem hy;have h0:0<=y.1.2:=by have:=(hc.ids8 _ hm).1;simp only at this;omega
 have:=(cutOk_len (hD3 _ _ hm)).2 h0;rw [hR2];omega
theorem Rem_L (h:SW b w0 (x.obs l) w) (hc:Cl ns x) (A:Option Addr) (c:Nat) (ids:List ID) (hA:riOb A ids∈l) (hok:∀ i∈ids,okID i) (hl:ids.length<=100000):Calls Tryz.prog 25 #[vPtr x.ps,.slice A ids.length c] w (RemL ns b w0 x ids l):=by
 have hz:=sizeC_le x.C hc.ids8;have hz2:=hc.size;have hfew:=hc.few;refine (Remove_any h.1 hc.toWH A c ids hA hok hl (fun f hf=>(hc.file f hf).1) (fun ha=>hc.ren ha) (fun ha=>anyAt_file hc ha) (by omega) (by omega)).mono ?_;intro e w' hp;obtain ⟨he,x',a1,a2,a3⟩:=rem_cl hc hp;exact ⟨he,x',h.then a3,a1,a2⟩
theorem Pending_L (h:SW b w0 (x.obs l) w) (v:Int) (hv:x.wait=v):Calls Tryz.prog 29 #[vPtr x.ps] w (fun e w'=>e= .returned (.int .i64 v)/\w=w'):=hv ▸ Pending_any h.1
end
def OpenL (ns:List ByteArray) (b p:Nat) (nm:ByteArray) (w0:World) (l:List Ob) (e:Ending) (w':World):Prop:=
 ∃ x,e= .returned (.tuple #[vPtr x.ps,.int .i64 0])/\SW b w0 (x.obs l) w'/\Cl ns x/\x.C=[]/\x.F=none/\x.nm=nm/\x.p=p/\x.wait=0/\x.bytes=0
theorem Open_L {ns:List ByteArray} {b:Nat} {w0 w:World} {l:List Ob} {p:Nat} {r:Rp} {s:St} (h:SW b w0 (devOb p r s::l) w) (nm:ByteArray) (hn:nameV nm=true) (hd:s.dn=false) (hf:s.f=0) (he:∀ m,s.now m=none) (ho:s.ops.length<=900000) (h1:fileN nm∈ns) (h2:ns.length<=200):
 Calls Tryz.prog 20 #[vPtr p,.string nm] w (OpenL ns b p nm w0 l):=by
 refine (Open_empty h.1 nm hn hd he).mono ?_;rintro e w' ⟨H,hH,rfl,hs⟩;exact ⟨openedS p r s nm H,rfl,h.then hs,opened_cl hn hd hf he ho h1 h2,rfl,rfl,rfl,rfl,rfl,rfl⟩
theorem SW.newIds2 {b:Nat} {w0 w:World} {l:List Ob} (h:SW b w0 l w) (i j:ID):SW b w0 (riOb (some ⟨w.heap.size,0,none⟩) [i,j]::l) (w.alloc (.cells #[.int .u64 i.1,.int .i64 i.2,.int .u64 j.1,.int .i64 j.2] 31)):=by
 have hlt:w.heap.size<(w.alloc (.cells #[.int .u64 i.1,.int .i64 i.2,.int .u64 j.1,.int .i64 j.2] 31)).heap.size:=by simp
 refine h.addN ((Below.refl _ _).alloc (Nat.le_refl _) _) ⟨(fun e=>by cases e),fun ad e=>?_⟩ (fun i hi=>hi.elim) (fun k hk=>?_)
 · injection e with e;subst e;refine ⟨_,rfl,⟨_,IsB.new _ _ _,by simp,fun k hk=>?_⟩,hlt⟩;have:k=0∨k=1:=by simp at hk;omega
   rcases this with rfl | rfl<;>exact ⟨rfl,rfl⟩
 have hk':(some ⟨w.heap.size,0,none⟩:Option Addr)=some ⟨k,0,none⟩:=hk;injection hk' with hk';injection hk' with hk';subst hk';exact ⟨Nat.le_refl _,hlt⟩
end
section
open Go.RowKit
inductive Tr where
 | nil
 | take (k:Nat) (t:Tr)
 | one (k:Nat) (t:Tr)
 | two (k:Nat) (t:Tr) (k2:Nat) (t2:Tr)
 | three (k:Nat) (t:Tr) (k2:Nat) (t2:Tr) (k3:Nat) (t3:Tr)
section
variable {P:Program} {ops:Array Oper} {md:Region.Mode} {S:World->Prop} {Q:Exit->Act->World->Prop}
def runC (P:Program) (ops:Array Oper) (Q:Exit->Act->World->Prop) (S:World->Prop) (o:Oper) (K:Act->World->Prop) (a:Act) (w:World):Prop:=
 if Region.wanted o (yielded ops a.tmps)=true then Oper.wp P o a w (fun a' w'=>S w'/\K a' w') Q else S w/\K (a.put o.dst undef) w
def wpTr (P:Program) (ops:Array Oper) (Q:Exit->Act->World->Prop) (S:World->Prop) (T:Act->World->Prop):Tr->Act->World->Prop
 | .nil,a,w=>T a w
 | .take k t,a,w=>∃ v,YieldsIf P ops S (ops.getD k default) v a/\wpTr P ops Q S T t (a.put (ops.getD k default).dst v) w
 | .one k t,a,w=>runC P ops Q S (ops.getD k default) (wpTr P ops Q S T t) a w
 | .two k t k2 t2,a,w=>runC P ops Q S (ops.getD k default) (wpTr P ops Q S T t) a w/\runC P ops Q S (ops.getD k2 default) (wpTr P ops Q S T t2) a w
 | .three k t k2 t2 k3 t3,a,w=>runC P ops Q S (ops.getD k default) (wpTr P ops Q S T t) a w/\runC P ops Q S (ops.getD k2 default) (wpTr P ops Q S T t2) a w/\runC P ops Q S (ops.getD k3 default) (wpTr P ops Q S T t3) a w
def treeB (md:Region.Mode) (ops:Array Oper) (n g:Nat):Nat->Tr->Array Bool->Bool
 | 0,.nil,listed=>Region.seqB md ops g n listed
 | f+1,.take k t,listed=>decide (k<n)&&(Region.ready md ops listed).contains k&&Region.free md ops listed k&&treeB md ops n g f t (listed.setIfInBounds k true)
 | f+1,.one k t,listed=>decide (k<n)&&decide (Region.ready md ops listed=[k])&&treeB md ops n g f t (listed.setIfInBounds k true)
 | f+1,.two k t k2 t2,listed=>decide (k<n)&&decide (k2<n)&&decide (Region.ready md ops listed=[k,k2])&&treeB md ops n g f t (listed.setIfInBounds k true)&&treeB md ops n g f t2 (listed.setIfInBounds k2 true)
 | f+1,.three k t k2 t2 k3 t3,listed=>decide (k<n)&&decide (k2<n)&&decide (k3<n)&&decide (Region.ready md ops listed=[k,k2,k3])&&treeB md ops n g f t (listed.setIfInBounds k true)&&treeB md ops n g f t2 (listed.setIfInBounds k2 true)&&treeB md ops n g f t3 (listed.setIfInBounds k3 true)
 | _,_,_=>false
theorem runC_op {k:Nat} {K:Act->World->Prop} {a:Act} {w:World} (hk:k<ops.size) (h:runC P ops Q S (ops.getD k default) K a w):wpOp P ops Q k (fun a' w'=>S w'/\K a' w') a w:=by
 have h0:ops[k]? =some (ops.getD k default):=by simp [Array.getD_eq_getD_getElem?, hk]
 unfold wpOp;simp only [h0];unfold runC at h;by_cases hwt:Region.wanted (ops.getD k default) (yielded ops a.tmps)=true
 · rw [if_pos hwt] at h |-; exact .inl h
 rw [if_neg hwt] at h |-; exact h
theorem headH_of_tree {n g:Nat} {T:Act->World->Prop} (hsel:Region.noSelect ops=true) (hQ:∀ c a d v w,Q (.panic c) (a.put d v) w->Q (.panic c) a w) (hs:Region.sinkB md ops n=true) (hc:Region.chainB md ops n=true) (hn:n<ops.size):
 ∀ (f:Nat) (t:Tr) (listed:Array Bool) (a:Act) (w:World),HeadInv md ops n listed->S w->
 treeB md ops n g f t listed=true->wpTr P ops Q S T t a w->
 headH P md ops Q S n (fun listed' a' w'=>Region.seqB md ops g n listed'=true/\T a' w') f listed a w
 | 0,.nil,listed,a,w,_,_,hB,h=>⟨by simpa [treeB] using hB,by simpa [wpTr] using h⟩
 | f+1,.take k t,listed,a,w,inv,hS,hB,h=>by
  simp only [treeB,Bool.and_eq_true,decide_eq_true_eq] at hB;obtain ⟨⟨⟨hkn,hr⟩,hf⟩,hB'⟩:=hB;have hk:k<ops.size:=by omega
  have h0:ops[k]? =some (ops.getD k default):=by simp [Array.getD_eq_getD_getElem?, hk]
  have hr':k∈Region.ready md ops listed:=by simpa using hr
  obtain ⟨v,hy,hK⟩:∃ v,YieldsIf P ops S (ops.getD k default) v a/\wpTr P ops Q S T t (a.put (ops.getD k default).dst v) w:=h
  exact headH_first h0 (Region.noSelect_spec hsel) hQ hs hc hn hkn (fun listed' a' w' hL=>seqB_ready hL.1) f listed a w inv (Region.free_spec h0 hf) hr' hy hS
   (headH_of_tree hsel hQ hs hc hn f t _ _ w (inv.set hr' hkn) hS hB' hK)
 | f+1,.one k t,listed,a,w,inv,hS,hB,h=>by
  simp only [treeB,Bool.and_eq_true,decide_eq_true_eq] at hB;obtain ⟨⟨hkn,hr⟩,hB'⟩:=hB;refine ⟨fun h1=>(by rw [hr] at h1;cases h1),fun i hi=>?_⟩;have hr':i∈Region.ready md ops listed:=hi;rw [hr] at hi;obtain rfl:i=k:=by simpa using hi
  exact ⟨hkn,wpOp_mono (fun a' w' h'=>⟨h'.1,headH_of_tree hsel hQ hs hc hn f t _ a' w' (inv.set hr' hkn) h'.1 hB' h'.2⟩) (runC_op (by omega) h)⟩
 | f+1,.two k t k2 t2,listed,a,w,inv,hS,hB,h=>by
  simp only [treeB,Bool.and_eq_true,decide_eq_true_eq] at hB;obtain ⟨⟨⟨⟨hkn,hkn2⟩,hr⟩,hB'⟩,hB2⟩:=hB;refine ⟨fun h1=>(by rw [hr] at h1;cases h1),fun i hi=>?_⟩;have hr':i∈Region.ready md ops listed:=hi;rw [hr] at hi;simp only [List.mem_cons,List.not_mem_nil,or_false] at hi;obtain ⟨h1,h2⟩:runC P ops Q S (ops.getD k default) (wpTr P ops Q S T t) a w/\runC P ops Q S (ops.getD k2 default) (wpTr P ops Q S T t2) a w:=h;rcases hi with rfl | rfl
  · exact ⟨hkn,wpOp_mono (fun a' w' h'=>⟨h'.1,headH_of_tree hsel hQ hs hc hn f t _ a' w' (inv.set hr' hkn) h'.1 hB' h'.2⟩) (runC_op (by omega) h1)⟩
  exact ⟨hkn2,wpOp_mono (fun a' w' h'=>⟨h'.1,headH_of_tree hsel hQ hs hc hn f t2 _ a' w' (inv.set hr' hkn2) h'.1 hB2 h'.2⟩) (runC_op (by omega) h2)⟩
 | f+1,.three k t k2 t2 k3 t3,listed,a,w,inv,hS,hB,h=>by
  simp only [treeB,Bool.and_eq_true,decide_eq_true_eq] at hB;obtain ⟨⟨⟨⟨⟨⟨hkn,hkn2⟩,hkn3⟩,hr⟩,hB'⟩,hB2⟩,hB3⟩:=hB;refine ⟨fun h1=>(by rw [hr] at h1;cases h1),fun i hi=>?_⟩;have hr':i∈Region.ready md ops listed:=hi;rw [hr] at hi;simp only [List.mem_cons,List.not_mem_nil,or_false] at hi;obtain ⟨h1,h2,h3⟩:runC P ops Q S (ops.getD k default) (wpTr P ops Q S T t) a w/\runC P ops Q S (ops.getD k2 default) (wpTr P ops Q S T t2) a w/\runC P ops Q S (ops.getD k3 default) (wpTr P ops Q S T t3) a w:=h;rcases hi with rfl | rfl | rfl
  · exact ⟨hkn,wpOp_mono (fun a' w' h'=>⟨h'.1,headH_of_tree hsel hQ hs hc hn f t _ a' w' (inv.set hr' hkn) h'.1 hB' h'.2⟩) (runC_op (by omega) h1)⟩
  · exact ⟨hkn2,wpOp_mono (fun a' w' h'=>⟨h'.1,headH_of_tree hsel hQ hs hc hn f t2 _ a' w' (inv.set hr' hkn2) h'.1 hB2 h'.2⟩) (runC_op (by omega) h2)⟩
  exact ⟨hkn3,wpOp_mono (fun a' w' h'=>⟨h'.1,headH_of_tree hsel hQ hs hc hn f t3 _ a' w' (inv.set hr' hkn3) h'.1 hB3 h'.2⟩) (runC_op (by omega) h3)⟩
 | 0,.take _ _,_,_,_,_,_,hB,_=>by simp [treeB] at hB
 | 0,.one _ _,_,_,_,_,_,hB,_=>by simp [treeB] at hB
 | 0,.two _ _ _ _,_,_,_,_,_,hB,_=>by simp [treeB] at hB
 | 0,.three _ _ _ _ _ _,_,_,_,_,_,hB,_=>by simp [treeB] at hB
 | f+1,.nil,_,_,_,_,_,hB,_=>by simp [treeB] at hB
def treeTailB (md:Region.Mode) (ops:Array Oper) (n:Nat) (t:Tr):Bool:=
 Region.noSelect ops&&decide (n<ops.size)&&Region.sinkB md ops n&&Region.chainB md ops n&&treeB md ops n (ops.size-n) n t (Array.replicate ops.size false)
theorem wp_region_tree {id:Nat} {a:Act} {w:World} {l:List Oper} (n:Nat) (t:Tr) (S:World->Prop) (hm:P.follows .mixedOrders=true) (hQ:∀ c a d v w,Q (.panic c) (a.put d v) w->Q (.panic c) a w) (hB:treeTailB .any l.toArray n t=true) (hS:S w.drew)
 (h:wpTr P l.toArray Q S (fun a' w'=>wpList P l.toArray Q (l.drop n) a' w') t a w.drew):(Code.region id l.toArray true).wp P Q a w:=by
 simp only [treeTailB,Bool.and_eq_true,decide_eq_true_eq] at hB;obtain ⟨⟨⟨⟨hsel,hn⟩,hs⟩,hc⟩,hlex⟩:=hB;have hdl:(l.drop n).length=l.toArray.size-n:=by simp
 have inv0:HeadInv .any l.toArray n (Array.replicate l.toArray.size false):=
  ⟨by simp,fun j oj _ hl=>(by rw [getD_replicate_false] at hl;cases hl),fun t _ ht=>getD_in (by simpa using ht) (getD_replicate_false _ _)⟩
 have H:=headH_of_tree (md:=.any) (g:=l.toArray.size-n) hsel hQ hs hc hn n t _ a w.drew inv0 hS hlex h;refine wp_region_any hm ?_
 have:=any_of_headH (Q:=Q) (S:=S) (g:=l.toArray.size-n) (fun listed a' w' hL=>by
  have:=wpAny_of_seq (md:=.any) (Q':=Q) (l.drop n) n listed a' w' (fun j=>by simp [List.getElem?_drop]) (by rw [hdl];exact hL.1) hL.2;rwa [hdl] at this) _ _ _ _ H
 rw [show n+(l.toArray.size-n)=l.toArray.size by omega] at this;exact this
theorem wpTr_nil {T:Act->World->Prop} {a:Act} {w:World} (h:T a w):wpTr P ops Q S T .nil a w:=h
theorem wpTr_take {T:Act->World->Prop} {k:Nat} {t:Tr} {a:Act} {w:World} {o:Oper} (ho:ops.getD k default=o) (v:Value) (hy:YieldsIf P ops S o v a) (h:wpTr P ops Q S T t (a.put o.dst v) w):wpTr P ops Q S T (.take k t) a w:=by
 subst ho;exact ⟨v,hy,h⟩
theorem wpTr_run {K:Act->World->Prop} {k:Nat} {a:Act} {w:World} {o:Oper} (ho:ops.getD k default=o) (h:∀ K':Act->World->Prop,Shut (∀ a w,S w->K a w->K' a w)->if Region.wanted o (yielded ops a.tmps)=true then Oper.wp P o a w K' Q else K' (a.put o.dst undef) w):runC P ops Q S (ops.getD k default) K a w:=by
 subst ho;exact h _ (fun _ _ h1 h2=>⟨h1,h2⟩)
theorem getD_lit {l:List Oper} {k:Nat} {o:Oper} (h:l[k]? =some o):l.toArray.getD k default=o:=by
 simp only [Array.getD_eq_getD_getElem?, List.getElem?_toArray,h,Option.getD_some]
theorem wpTr_runL {l:List Oper} {K:Act->World->Prop} {k:Nat} {a:Act} {w:World} {o:Oper} (ho:l[k]? =some o) (h:∀ K':Act->World->Prop,Shut (∀ a w,S w->K a w->K' a w)->if Region.wanted o (yielded l.toArray a.tmps)=true then Oper.wp P o a w K' Q else K' (a.put o.dst undef) w):runC P l.toArray Q S (l.toArray.getD k default) K a w:=
 wpTr_run (getD_lit ho) h
theorem wpTr_takeL {l:List Oper} {T:Act->World->Prop} {k:Nat} {t:Tr} {a:Act} {w:World} {o:Oper} (ho:l[k]? =some o) (v:Value) (hy:YieldsIf P l.toArray S o v a) (h:wpTr P l.toArray Q S T t (a.put o.dst v) w):wpTr P l.toArray Q S T (.take k t) a w:=
 wpTr_take (getD_lit ho) v hy h
theorem wpTr_one {T:Act->World->Prop} {k:Nat} {t:Tr} {a:Act} {w:World} (h:runC P ops Q S (ops.getD k default) (wpTr P ops Q S T t) a w):wpTr P ops Q S T (.one k t) a w:=h
theorem wpTr_two {T:Act->World->Prop} {k k2:Nat} {t t2:Tr} {a:Act} {w:World} (h:runC P ops Q S (ops.getD k default) (wpTr P ops Q S T t) a w) (h2:runC P ops Q S (ops.getD k2 default) (wpTr P ops Q S T t2) a w):wpTr P ops Q S T (.two k t k2 t2) a w:=⟨h,h2⟩
theorem wpTr_three {T:Act->World->Prop} {k k2 k3:Nat} {t t2 t3:Tr} {a:Act} {w:World} (h:runC P ops Q S (ops.getD k default) (wpTr P ops Q S T t) a w) (h2:runC P ops Q S (ops.getD k2 default) (wpTr P ops Q S T t2) a w) (h3:runC P ops Q S (ops.getD k3 default) (wpTr P ops Q S T t3) a w):wpTr P ops Q S T (.three k t k2 t2 k3 t3) a w:=⟨h,h2,h3⟩
end
end
section
open Go.RowKit Go.MapKept Go.ChangeMaps Go.Shelf Go.Sort
def RHPost (bs:List UInt8) (off:Nat) (w:World) (e:Ending) (w':World):Prop:=
 ∃ i b,e= .returned (.tuple #[vID i,.bool b])/\(∀ j,rdHead bs off=some j->i=j/\b=true)/\(rdHead bs off=none->b=false)/\Below w.heap.size w w'
theorem prefix_rs {w:World} {A B:Option Addr} {a b:List UInt8} (ha:RS w A a) (hb:RS w B b) (c d:Nat) (hc:a.length<=c):Calls Tryz.prog 231 #[.slice A a.length c,.slice B b.length d] w (fun e w'=>e= .returned (.bool (Lib.hasPrefix a b))/\w=w'):=
 (Tryz.bytes_HasPrefix_all A B a.length c b.length d (ints a) (ints b) w (ints_len a) (ints_len b) hc ha.bytesIn hb.bytesIn).mono (by
   rintro e w' ⟨rfl,rfl⟩;exact ⟨by rw [bytes_ints,bytes_ints],rfl⟩)
theorem mark_rs (w:World) (fz:Nat×Nat):RS (w.alloc (.cells #[.int .u8 83,.int .u8 89,.int .u8 67,.int .u8 83] 5 fz)) (some ⟨w.heap.size,0,none⟩) markB:=by
 refine ⟨(fun e=>by cases e),fun ad e=>⟨w.heap.size,0,by injection e with e;exact e.symm,fun j hj=>?_⟩⟩;rw [Nat.zero_add,cell_of_row _ w.heap.size j #[.int .u8 83,.int .u8 89,.int .u8 67,.int .u8 83] 5 fz (heap_alloc_new w _)];have hj':j<4:=by simpa [markB] using hj
 have hc:j=0∨j=1∨j=2∨j=3:=by omega
 rcases hc with rfl | rfl | rfl | rfl<;>rfl
structure RN (bs:List UInt8) (off k:Nat) (C:Array Value):Prop where
 k2:k<=2
 sz:C.size=2
 done:∀ m,m<k->C[m]? =some (.int .u64 ((leN ((bs.drop (off+4+8*m)).take 8):Nat):Int))
 todo:∀ m,k<=m->m<2->C[m]? =some (.int .u64 0)
theorem RN.zero (bs:List UInt8) (off:Nat):RN bs off 0 #[.int .u64 0,.int .u64 0]:=
 ⟨by omega,rfl,fun m h=>by omega,fun m _ h=>by
  have hc:m=0∨m=1:=by omega
  rcases hc with rfl | rfl<;>rfl⟩
theorem RN.next {bs:List UInt8} {off k:Nat} {C:Array Value} (h:RN bs off k C) (hk:k<2):RN bs off (k+1) (C.setIfInBounds k (.int .u64 ((leN ((bs.drop (off+4+8*k)).take 8):Nat):Int))):=
 ⟨by omega,by rw [Array.size_setIfInBounds];exact h.sz,fun m hm=>by
  rw [Array.getElem?_setIfInBounds];by_cases e:k=m
  · subst e;rw [if_pos rfl,if_pos (by rw [h.sz];exact hk)]
  · rw [if_neg e];exact h.done m (by omega),fun m h1 h2=>by
  rw [Array.getElem?_setIfInBounds,if_neg (by omega)];exact h.todo m (by omega) h2⟩
structure RQ (bs:List UInt8) (off k:Nat) (C:Array Value) (q:Nat) (D:Array Value):Prop where
 q8:q<=8
 sz:D.size=2
 here:D[k]? =some (.int .u64 ((leN ((bs.drop (off+4+8*k)).take q):Nat):Int))
 other:∀ m,m≠k->D[m]? =C[m]?
theorem RQ.zero {bs:List UInt8} {off k:Nat} {C:Array Value} (h:RN bs off k C) (hk:k<2):RQ bs off k C 0 C:=
 ⟨by omega,h.sz,by rw [List.take_zero];exact h.todo k (Nat.le_refl _) hk,fun _ _=>rfl⟩
theorem RQ.next {bs:List UInt8} {off k q:Nat} {C D:Array Value} (h:RQ bs off k C q D) (hk:k<2) (hq:q<8):RQ bs off k C (q+1) (D.setIfInBounds k (.int .u64 ((leN ((bs.drop (off+4+8*k)).take (q+1)):Nat):Int))):=
 ⟨by omega,by rw [Array.size_setIfInBounds];exact h.sz,by rw [Array.getElem?_setIfInBounds,if_pos rfl,if_pos (by rw [h.sz];exact hk)],fun m hm=>by
  rw [Array.getElem?_setIfInBounds,if_neg (by omega)];exact h.other m hm⟩
theorem RQ.done {bs:List UInt8} {off k:Nat} {C D:Array Value} (h:RQ bs off k C 8 D) (hC:RN bs off k C) (hk:k<2):RN bs off (k+1) D:=
 ⟨by omega,h.sz,fun m hm=>by
  by_cases e:m=k
  · subst e;exact h.here
  rw [h.other m e];exact hC.done m (by omega),fun m h1 h2=>by rw [h.other m (by omega)];exact hC.todo m (by omega) h2⟩
theorem or_step (bs:List UInt8) (p q:Nat) (hp:p+q<bs.length) (hq:q<8) (xb:UInt8) (hx:bs.getD (p+q) 0=xb):
 bits .or .u64 ((leN ((bs.drop p).take q):Nat):Int) (IntKind.u64.wrap (IntKind.u64.wrap ((xb.toNat:Nat):Int)*2^(8*q)))=((leN ((bs.drop p).take (q+1)):Nat):Int):=by
 have hb:=xb.toNat_lt;have h8:(2:Nat)^(8*q)<=2^56:=Nat.pow_le_pow_right (by omega) (by omega)
 have hm:xb.toNat*2^(8*q)<18446744073709551616:=by
  have:xb.toNat*2^(8*q)<=255*2^56:=Nat.mul_le_mul (by omega) h8;omega
 have e1:IntKind.u64.wrap ((xb.toNat:Nat):Int)=((xb.toNat:Nat):Int):=by
  rw [IntKind.wrap_u64];omega
 have e2:((xb.toNat:Nat):Int)*2^(8*q)=((xb.toNat*2^(8*q):Nat):Int):=by
  rw [Int.natCast_mul,Int.natCast_pow];rfl
 have e3:IntKind.u64.wrap ((xb.toNat*2^(8*q):Nat):Int)=((xb.toNat*2^(8*q):Nat):Int):=by
  rw [IntKind.wrap_u64];omega
 have hl:=leN_lt ((bs.drop p).take q);have hl2:((bs.drop p).take q).length<=8:=by rw [List.length_take];omega
 have hl3:(2:Nat)^(8*((bs.drop p).take q).length)<=2^64:=Nat.pow_le_pow_right (by omega) (by omega);rw [e1,e2,e3,bits_or_u64_nat _ _ (by omega) hm,leN_step bs p q hp,hx,Nat.mul_comm]
theorem wrap_s64 (n:Nat) (h:n<18446744073709551616):wrap64 (n:Int)=s64 n:=by
 unfold s64 wrap64;split<;>omega
theorem readHead_any (A:Option Addr) (c:Nat) (bs:List UInt8) (off:Nat) (w:World) (h:RS w A bs) (hn:bs.length<=4194304) (hc:bs.length<=c) (ho:off<bs.length):
 Calls Tryz.prog 176 #[.slice A bs.length c,.int .i64 1,.int .i64 (off:Int)] w (RHPost bs off w):=by
 obtain ⟨g,og,rfl,hcl⟩:∃ g o,A=some ⟨g,o,none⟩/\True:=by
  cases A with
  | none=>exact absurd (h.1 rfl) (by omega)
  | some ad=>obtain ⟨g,o,rfl,_⟩:=h.2 ad rfl;exact ⟨g,o,rfl,trivial⟩
 clear hcl;have H:=Lib.hid h;clear h;have hlt:¬ (c:Int)<(off:Int):=by omega
 have hz0:(w.alloc (.cells #[.int .u64 0,.int .i64 0] 31)).heap.size=w.heap.size+1:=by simp
 obtain ⟨W,HW⟩:∃ W,Hid (w.alloc (.cells #[.int .u64 0,.int .i64 0] 31)=W):=⟨_,rfl⟩;have B0:Hid (Below w.heap.size w W):=by rw [Hid, <- HW.out];exact bel1q _ _
 have hz:W.heap.size=w.heap.size+1:=by rw [<- HW.out];exact hz0
 have IB:Hid (IsB W w.heap.size 31 #[.int .u64 0,.int .i64 0]):=by rw [Hid, <- HW.out];exact IsB.new w 31 _
 have HM:Hid (RS (W.alloc (.cells #[.int .u8 83,.int .u8 89,.int .u8 67,.int .u8 83] 5 (4,5))) (some ⟨w.heap.size+1,0,none⟩) markB):=by
  rw [Hid, <- hz];exact mark_rs W (4,5)
 have hcv:(convert 34 34 (.slice (some ⟨w.heap.size+1,0,none⟩) 4 4)).run Tryz.prog (W.alloc (.cells #[.int .u8 83,.int .u8 89,.int .u8 67,.int .u8 83] 5))= .ok (.slice (some ⟨w.heap.size+1,0,none⟩) 4 4) (W.alloc (.cells #[.int .u8 83,.int .u8 89,.int .u8 67,.int .u8 83] 5 (4,5))):=by
  rw [<- hz];exact Lib.run_convert_bytes_const (P:=Tryz.prog) W 34 5 #[.int .u8 83,.int .u8 89,.int .u8 67,.int .u8 83] 4 4 Tryz.underlying34 Tryz.underlying5
 have B1:Hid (Below w.heap.size w (W.alloc (.cells #[.int .u8 83,.int .u8 89,.int .u8 67,.int .u8 83] 5 (4,5)))):=B0.out.alloc (by omega) _;have B2:Hid (Below W.heap.size W (W.alloc (.cells #[.int .u8 83,.int .u8 89,.int .u8 67,.int .u8 83] 5 (4,5)))):=bel1q _ _;have hd:(bs.drop off).length=bs.length-off:=List.length_drop
 have HS:Hid (RS (W.alloc (.cells #[.int .u8 83,.int .u8 89,.int .u8 67,.int .u8 83] 5 (4,5))) (some ⟨g,og+off,none⟩) (bs.drop off)):=by
  have:=H.out.sub off (bs.length-off) (by omega);rw [List.take_of_length_le (by rw [hd];omega)] at this;exact this.on B1.out
 have HP:=Lib.hid (prefix_rs HS.out HM.out (c-off) 4 (by rw [hd];omega));rw [hd,show markB.length=4 from rfl] at HP;obtain ⟨pf,HPF⟩:∃ p,Hid (Lib.hasPrefix (bs.drop off) markB=p):=⟨_,rfl⟩;rw [HPF.out] at HP;have hW2:(W.alloc (.cells #[.int .u8 83,.int .u8 89,.int .u8 67,.int .u8 83] 5 (4,5))).heap.size=w.heap.size+2:=by simp [hz]
 have IB2:Hid (IsB (W.alloc (.cells #[.int .u8 83,.int .u8 89,.int .u8 67,.int .u8 83] 5 (4,5))) w.heap.size 31 #[.int .u64 0,.int .i64 0]):=IB.out.on B2.out;have hW:=HW.out;clear HW;subst hW;have S1:Hid (SW w.heap.size w [cellOb w.heap.size 31 #[.int .u64 0,.int .i64 0]] ((w.alloc (.cells #[.int .u64 0,.int .i64 0] 31)).alloc (.cells #[.int .u8 83,.int .u8 89,.int .u8 67,.int .u8 83] 5 (4,5)))):=((SW.nil w).newCell 31 #[.int .u64 0,.int .i64 0]).on B2.out;cases pf with
 | false=>
  have d0:=(S1.out.cell 0 rfl).cell 0;have d1:=(S1.out.cell 0 rfl).cell 1;have f0:=(S1.out.cell 0 rfl).frozen 0;have f1:=(S1.out.cell 0 rfl).frozen 1
  have HN:Hid (rdHead bs off=none):=by
   refine rdHead_mark bs off (fun h=>?_);have h2:=HPF.out;unfold Lib.hasPrefix at h2;rw [<- h] at h2;have:List.isPrefixOf (List.take 4 (List.drop off bs)) (List.drop off bs)=true:=List.isPrefixOf_iff_prefix.2 (List.take_prefix _ _);rw [this] at h2;cases h2
  go_enter Tryz.func176,Tryz.ntmps176;go_wp2_with (go_at_call 231;(with_reducible refine HP.out.mono ?_);rintro e w1 ⟨rfl,rfl⟩)
  generalize (w.alloc (.cells #[.int .u64 0,.int .i64 0] 31)).alloc (.cells #[.int .u8 83,.int .u8 89,.int .u8 67,.int .u8 83] 5 (4,5))=W2 at *; refine bodyPost_ret (v:=.tuple #[.agg #[.int .u64 0,.int .i64 0],.bool false]) ?_ rfl ⟨(0,0),false,rfl,(fun j hj=>by rw [HN.out] at hj;cases hj),fun _=>rfl,B1.out⟩;simp [results,Tryz.results176,go_sem,d0,d1]
 | true=>
  by_cases hsh:bs.length<off+28
  · have HN:Hid (rdHead bs off=none):=rdHead_short bs off hsh;have d0:=(S1.out.cell 0 rfl).cell 0;have d1:=(S1.out.cell 0 rfl).cell 1;have f0:=(S1.out.cell 0 rfl).frozen 0;have f1:=(S1.out.cell 0 rfl).frozen 1;have ht:(bs.length:Int)-(off:Int)<28:=by omega
    go_enter Tryz.func176,Tryz.ntmps176;go_wp2_with (go_at_call 231;(with_reducible refine HP.out.mono ?_);rintro e w1 ⟨rfl,rfl⟩)
    generalize (w.alloc (.cells #[.int .u64 0,.int .i64 0] 31)).alloc (.cells #[.int .u8 83,.int .u8 89,.int .u8 67,.int .u8 83] 5 (4,5))=W2 at *; refine bodyPost_ret (v:=.tuple #[.agg #[.int .u64 0,.int .i64 0],.bool false]) ?_ rfl ⟨(0,0),false,rfl,(fun j hj=>by rw [HN.out] at hj;cases hj),fun _=>rfl,B1.out⟩;simp [results,Tryz.results176,go_sem,d0,d1]
  have ht:¬ (bs.length:Int)-(off:Int)<28:=by omega
  go_enter Tryz.func176,Tryz.ntmps176;go_wp2_with (go_at_call 231;(with_reducible refine HP.out.mono ?_);rintro e w1 ⟨rfl,rfl⟩)
  generalize (w.alloc (.cells #[.int .u64 0,.int .i64 0] 31)).alloc (.cells #[.int .u8 83,.int .u8 89,.int .u8 67,.int .u8 83] 5 (4,5))=W2 at*
  have S3:Hid (SW w.heap.size w [cellOb (w.heap.size+2) 306 #[.int .u64 0,.int .u64 0],cellOb w.heap.size 31 #[.int .u64 0,.int .i64 0]] (W2.alloc (.cells #[.int .u64 0,.int .u64 0] 306))):=by
   have:=S1.out.newCell 306 #[.int .u64 0,.int .u64 0];rw [hW2] at this;exact this
  clear HP hcv HM HS IB IB2 B0 B2 hz0 hz hd HPF ht S1 B1;generalize W2.alloc (.cells #[.int .u64 0,.int .u64 0] 306)=W3 at S3 |-; clear hW2;go_loopw [27] (fun i wr=>∃ (k:Nat) (C:Array Value),i= .int .i64 (k:Int)/\Hid (RN bs off k C)/\Hid (SW w.heap.size w [cellOb (w.heap.size+2) 306 C,cellOb w.heap.size 31 #[.int .u64 0,.int .i64 0]] wr)) (fun i _=>2-(intOf i).toNat)
  case atStart=>exact ⟨0,_,rfl,RN.zero bs off,S3⟩
  obtain ⟨k,C,rfl,HR,S4⟩:=hrel;by_cases hk:k<2
  · go_wp2_with fail
    rename World=>wa;go_loopw [30] (fun j wr=>∃ (q:Nat) (D:Array Value),j= .int .i64 (q:Int)/\Hid (RQ bs off k C q D)/\Hid (SW w.heap.size w [cellOb (w.heap.size+2) 306 D,cellOb w.heap.size 31 #[.int .u64 0,.int .i64 0]] wr)) (fun j _=>8-(intOf j).toNat)
    case atStart=>exact ⟨0,_,rfl,RQ.zero HR.out hk,S4⟩
    obtain ⟨q,D,rfl,HQ,S5⟩:=hrel;by_cases hq:q<8
    · have HX:Hid (RS wr (some ⟨g,og,none⟩) bs):=H.out.on S5.out.2
      have hb0:wr.cell? ⟨g,og+(off+4+8*k+q),none⟩=some (.int .u8 (((bs.getD (off+4+8*k+q) 0).toNat:Nat):Int)):=by
       obtain ⟨g',o',e,hc'⟩:=HX.out.2 _ rfl;injection e with e1 e2 _;subst e1 e2;exact hc' _ (by omega)
      have ha0:wr.cell? ⟨w.heap.size+2,k,none⟩=some (.int .u64 ((leN ((bs.drop (off+4+8*k)).take q):Nat):Int)):=((S5.out.cell 0 rfl).cell k).trans HQ.out.here;have fa0:=(S5.out.cell 0 rfl).frozen k;generalize hxb:bs.getD (off+4+8*k+q) 0=xb at *; have HXB:=Lib.hid hxb;clear hxb;go_upto_region 10 with fail
      go_region
      rw [or_step bs (off+4+8*k) q (by omega) hq xb HXB.out];have S6:=Lib.hid ((S5.out.setAt 0 rfl k (.int .u64 ((leN ((bs.drop (off+4+8*k)).take (q+1)):Nat):Int))).drew);generalize (wr.setCell ⟨w.heap.size+2,k,none⟩ (.int .u64 ((leN ((bs.drop (off+4+8*k)).take (q+1)):Nat):Int))).drew=wb at S6 |-; have HQ2:=Lib.hid (HQ.out.next hk hq);clear hb0 ha0 fa0 HX S5 HQ;generalize leN ((bs.drop (off+4+8*k)).take (q+1))=v1 at *; generalize leN ((bs.drop (off+4+8*k)).take q)=v0 at *; go_wp2_with fail
      go_roundw
      case rel=>exact ⟨q+1,_,by go_num,HQ2,S6⟩
      simp [intOf];omega
    obtain rfl:q=8:=by have:=HQ.out.q8;omega
    have HR2:=Lib.hid (HQ.out.done HR.out hk);clear HQ;go_wp2_with fail
    go_roundw
    case rel=>exact ⟨k+1,D,by go_num,HR2,S5⟩
    simp [intOf];omega
  obtain rfl:k=2:=by have:=HR.out.k2;omega
  have h0:=HR.out.done 0 (by omega);have h1:=HR.out.done 1 (by omega);have e0:=(S4.out.cell 0 rfl).cell 0;have e1:=(S4.out.cell 0 rfl).cell 1;rw [h0] at e0;rw [h1] at e1;have hw0:Hid (wrap64 ((leN ((bs.drop (off+4+8*0)).take 8):Nat):Int)=s64 (leN ((bs.drop (off+4+8*0)).take 8))):=wrap_s64 _ (leN8 _);have HL1:Hid (leN ((bs.drop (off+4+8*1)).take 8)<18446744073709551616):=leN8 _;obtain ⟨N0,HN0⟩:∃ N,Hid (leN ((bs.drop (off+4+8*0)).take 8)=N):=⟨_,rfl⟩;obtain ⟨N1,HN1⟩:∃ N,Hid (leN ((bs.drop (off+4+8*1)).take 8)=N):=⟨_,rfl⟩;rw [HN0.out] at e0 hw0;rw [HN1.out] at e1 HL1
  have HID:Hid (rdID bs off=((N1:Int),s64 N0)):=by
   rw [Hid, <- HN0.out, <- HN1.out];rfl
  clear h0 h1;go_upto_region 14 with fail
  have S5:SW w.heap.size w [cellOb wr.heap.size 31 #[.int .u64 (N1:Int),.int .i64 (s64 N0)],cellOb (w.heap.size+2) 306 C,cellOb w.heap.size 31 #[.int .u64 0,.int .i64 0]] (wr.alloc (.cells #[.int .u64 (N1:Int),.int .i64 (s64 N0)] 31)).drew:=(S4.out.newCell 31 _).drew;rw [hw0.out];have HN1':=HL1.out;have HHD:Hid (∀ W,Calls Tryz.prog 232 #[.agg #[.int .u64 (N1:Int),.int .i64 (s64 N0)],.int .i64 1,.int .i64 (off:Int)] W (NewB (headB ((N1:Int),s64 N0) 1 off) W)):=fun W=>head_any N1 (s64 N0) 1 off W HN1' (by omega) (by omega);have hHl:(headB ((N1:Int),s64 N0) 1 off).length=28:=headB_len _ _ _;have HB:Hid (∀ W,Below w.heap.size w W->RS W (some ⟨g,og+off,none⟩) ((bs.drop off).take 28)):=fun W hb=>(H.out.sub off 28 (by omega)).on hb;have hcl:((bs.drop off).take 28).length=28:=by rw [List.length_take,List.length_drop];omega
  have HR1:Hid (∀ j,rdHead bs off=some j->((N1:Int),s64 N0)=j/\decide (headB ((N1:Int),s64 N0) 1 off=(bs.drop off).take 28)=true):=by
   intro j hj;unfold rdHead at hj;rw [HID.out] at hj;split at hj
   · rename_i h1
     injection hj with hj;exact ⟨hj,decide_eq_true h1.2.symm⟩
   cases hj
  have HR2:Hid (rdHead bs off=none->decide (headB ((N1:Int),s64 N0) 1 off=(bs.drop off).take 28)=false):=by
   intro hj;unfold rdHead at hj;rw [HID.out] at hj;split at hj
   · cases hj
   rename_i h1
   exact decide_eq_false (fun e=>h1 ⟨by omega,e.symm⟩)
  generalize headB ((N1:Int),s64 N0) 1 off=hd at *; generalize (bs.drop off).take 28=ct at *; generalize wr.heap.size=G at *; generalize wr.alloc _=W4 at *; have hof:Hid (IntKind.i64.wrap ((off:Int)+28)=((off+28:Nat):Int)):=by rw [Hid,IntKind.wrap_i64];omega
  clear hw0 HN0 HN1 HID e0 e1 HN1' HL1 S3 HR;refine wp_region_tree 12 (.take 0 (.take 1 (.take 2 (.take 3 (.take 5 (.take 6 (.take 7 (.take 8 (.take 9 (.one 4 (.one 10 (.one 11 .nil)))))))))))) (fun w'=>IsB w' G 31 #[.int .u64 (N1:Int),.int .i64 (s64 N0)]) (by kernel_rfl) (fun _ _ d _ _ h=>by cases d<;>exact h) (by kernel_rfl) (SW.cell S5 0 rfl) ?_
  iterate 7
   refine wpTr_takeL rfl ?_ (Or.inl ⟨by rfl,?_⟩) ?_;rotate_left
   · (intro w' hSw;have q0:=hSw.cell 0;have q1:=hSw.cell 1;go_simp;try with_reducible rfl)
   try simp only [Act.put,zA,List.set]
  refine wpTr_takeL rfl (.int .i64 ((off+28:Nat):Int)) (Or.inl ⟨by rfl,?_⟩) ?_
  · (intro w' hSw;go_simp;simp only [hof.out];omega)
  try simp only [Act.put,zA,List.set]
  refine wpTr_takeL rfl (.slice (some ⟨g,og+off,none⟩) 28 (c-off)) (Or.inl ⟨by rfl,?_⟩) ?_
  · (intro w' hSw;go_simp;rw [if_pos ⟨by omega,by omega⟩,if_pos (by omega),if_neg (by omega),show ((off:Int)+28).toNat-off=28 by omega])
  try simp only [Act.put,zA,List.set]
  refine wpTr_one ?_;refine wpTr_runL rfl (fun K' hK'=>?_);go_simp;go_at_call 232
  refine (HHD.out _).mono ?_;rintro e wc1 ⟨⟨A1,n1,c1⟩,rfl,rb1,rn1,bl1⟩;have hn1:hd.length=n1:=rb1.1;subst hn1;have SC1:SW w.heap.size w (rsOb A1 hd::cellOb G 31 #[.int .u64 (N1:Int),.int .i64 (s64 N0)]::cellOb (w.heap.size+2) 306 C::cellOb w.heap.size 31 #[.int .u64 0,.int .i64 0]::[]) wc1:=(SW.newBytes S5 bl1 rb1 rn1).bufRs;clear rb1 bl1 rn1;go_wp2_with fail
  refine hK'.out _ _ (SW.cell SC1 1 rfl) ?_;clear hK' K';try simp only [Act.put,zA,List.set]
  refine wpTr_one ?_;refine wpTr_runL rfl (fun K' hK'=>?_);go_simp;go_at_call 86
  refine ((show Calls Tryz.prog 86 #[.slice A1 28 c1,.slice (some ⟨g,og+off,none⟩) 28 (c-off)] _ _ by have h:=equal_rs (a:=hd) (b:=ct) (SW.get SC1 0 (o:=rsOb A1 hd) rfl) (HB.out _ SC1.2) c1 (c-off);rw [hHl,hcl] at h;exact h)).mono ?_;rintro e wc2 ⟨rfl,rfl⟩;go_wp2_with fail
  refine hK'.out _ _ (SW.cell SC1 1 rfl) ?_;clear hK' K';try simp only [Act.put,zA,List.set]
  refine wpTr_one ?_;refine wpTr_runL rfl (fun K' hK'=>?_);have z0:=(SW.cell SC1 3 rfl).cell 0;have f0:=(SW.cell SC1 3 rfl).frozen 0;have z1:=(SW.cell SC1 3 rfl).cell 1;have f1:=(SW.cell SC1 3 rfl).frozen 1;have SZ3:SW w.heap.size w (rsOb A1 hd::cellOb G 31 #[.int .u64 (N1:Int),.int .i64 (s64 N0)]::cellOb (w.heap.size+2) 306 C::cellOb w.heap.size 31 #[.int .u64 (N1:Int),.int .i64 (s64 N0)]::[]) _:=(SW.setAt (SW.setAt SC1 3 rfl 0 (.int .u64 (N1:Int))) 3 rfl 1 (.int .i64 (s64 N0)));go_simp;refine hK'.out _ _ (SW.cell SZ3 1 rfl) ?_;clear hK' K' z0 f0 z1 f1;obtain ⟨wz3,eW3,SY3⟩:∃ wz3,Hid (_=wz3)/\SW w.heap.size w (rsOb A1 hd::cellOb G 31 #[.int .u64 (N1:Int),.int .i64 (s64 N0)]::cellOb (w.heap.size+2) 306 C::cellOb w.heap.size 31 #[.int .u64 (N1:Int),.int .i64 (s64 N0)]::[]) wz3:=⟨_,rfl,SZ3⟩;rw [eW3.out];clear eW3 SZ3;try simp only [Act.put,zA,List.set]
  refine wpTr_nil ?_;simp only [List.drop_succ_cons,List.drop_zero];have r0:=(SW.cell SY3 3 rfl).cell 0;have r1:=(SW.cell SY3 3 rfl).cell 1;go_wp2_with fail
  refine bodyPost_ret (v:=.tuple #[.agg #[.int .u64 (N1:Int),.int .i64 (s64 N0)],.bool (decide (hd=ct))]) ?_ rfl ⟨((N1:Int),s64 N0),_,rfl,HR1.out,HR2.out,SY3.2⟩;simp [results,Tryz.results176,go_sem,r0,r1]
end
end Go.Proofs.YteabgcollokgjaaGreatDoor
