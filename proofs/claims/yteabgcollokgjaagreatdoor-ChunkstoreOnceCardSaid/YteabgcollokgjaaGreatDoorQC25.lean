/- Q -/
import Derived.Test.YteabgcollokgjaaGreatDoorQC24
import Derived.Shelf.Strconv.AtoiErr
import Derived.Shelf.Strconv.Atoi
set_option linter.unusedSimpArgs false
set_option linter.unusedVariables false
set_option maxRecDepth 100000
set_option maxHeartbeats 32000000
open Go.Lib (hid)
open List renaming mem_cons_of_mem → zA
open Nat renaming le_refl → zB
namespace Go.Proofs.YteabgcollokgjaaGreatDoor
section
open Go.RowKit Go.MapKept Go.ChangeMaps Go.Shelf Go.Sort
section
variable {b:Nat} {w0 w w':World} {l l':List Ob}
theorem SW.then (h:SW b w0 l w) (k:SW b w l' w'):SW b w0 l' w':=⟨k.1,h.2.trans k.2⟩
theorem SW.behind {x:SR} {o:Ob} (h:SW b w0 (o::x.obs l) w):SW b w0 (x.obs (o::l)) w:=
 SW.front (pre:=[o,devOb x.p x.r x.s,cellOb x.ps 131 x.cells,chOb x.cm x.C,flOb x.fm x.F]) (t:=l) h [1,2,3,4,0] (n:=5) rfl (by decide)
end
theorem New_L (w:World):Calls Tryz.prog 21 #[] w (fun e w'=>∃ r,e= .returned (vPtr (w.heap.size+2))/\SW w.heap.size w [devOb (w.heap.size+2) r St.new] w'):=by
 refine (New_any w).mono ?_;rintro e w' ⟨rfl,hd,hb⟩;refine ⟨_,rfl,(SW.refl (Sep.nil w (zB _))).addN hb hd (fun i hi=>⟨?_,hd.own_lt hi⟩) (fun i hi=>⟨?_,hd.reads_lt hi⟩)⟩
 · rcases hi with hi | ⟨q,hq,rfl⟩
   · rcases hi with rfl | rfl | rfl | hi
     · omega
     · exact zB _
     · exact Nat.le_succ _
     cases hi
   cases hq
 obtain ⟨d,hd,_⟩:=hi;rcases hd with ⟨_,he,_⟩ | ⟨_,he,_⟩ | ⟨_,he,_⟩<;>cases he
section
variable {ns:List ByteArray} {b:Nat} {w0 w:World} {x:SR} {l:List Ob}
def PutNL (ns:List ByteArray) (b:Nat) (w0:World) (x:SR) (bs:List UInt8) (l:List Ob) (e:Ending) (w':World):Prop:=
 e= .returned (.tuple #[.agg #[.int .u64 (fpOf bs).1,.int .i64 (fpOf bs).2],.int .i64 0])/\∃ d,SW b w0 ((putS x (fpOf bs) d bs).obs l) w'/\Cl ns (putS x (fpOf bs) d bs)
theorem PutN_L (h:SW b w0 (x.obs l) w) (hc:Cl ns x) (A:Option Addr) (c:Nat) (bs:List UInt8) (hs:RS w A bs) (h1:1<=bs.length) (h2:bs.length<=8192) (ha:asc x.C (fpOf bs)=none) (hl:x.C.length<4096):
 Calls Tryz.prog 23 #[vPtr x.ps,.slice A bs.length c] w (PutNL ns b w0 x bs l):=by
 have hz:=sizeC_le x.C hc.ids8;have hz2:=hc.size;have hw:=hc.waits;have hp:(Go.Proofs.YteabgcollokgjaaGreatDoor.pends x.C).length<=x.C.length:=by unfold Go.Proofs.YteabgcollokgjaaGreatDoor.pends;rw [List.length_map];exact List.length_filter_le _ _
 refine (Put_new h.1 hc.toWF A c bs hs h1 h2 ha hl hc.wait0 hc.wait1 (by omega) (by omega)).mono ?_;rintro e w' ⟨rfl,d,hs',_,hb⟩;have hsw:SW b w0 ((putS x (fpOf bs) d bs).obs l) w':=⟨hs',h.2.trans hb⟩;have hr:=hs'.spend (x:=putS x (fpOf bs) d bs) (id:=fpOf bs) (d:=d) (bs:=bs) (mem_of_asc (by simp only [putS];rw [asc_setL];simp));exact ⟨rfl,d,hsw,put_cl hc (rb_some hr.1 h1) h1 h2 ha hl⟩
theorem PutS_L (h:SW b w0 (x.obs l) w) (hc:Cl ns x) (A:Option Addr) (c:Nat) (bs:List UInt8) (hs:RS w A bs) (h1:1<=bs.length) (h2:bs.length<=8192) (hv:valC x (fpOf bs)=some bs):
 Calls Tryz.prog 23 #[vPtr x.ps,.slice A bs.length c] w (fun e w'=>e= .returned (.tuple #[.agg #[.int .u64 (fpOf bs).1,.int .i64 (fpOf bs).2],.int .i64 0])/\SW b w0 (x.obs l) w'):=by
 unfold valC at hv;cases ha:asc x.C (fpOf bs) with
 | none=>rw [ha] at hv;cases hv
 | some pl=>
  rw [ha] at hv;have:=Put_there h.1 hc.toWF A c bs hs h1 h2 pl ha bs hv;rw [if_pos rfl,if_pos rfl] at this;refine this.mono ?_;rintro e w' ⟨rfl,hb⟩;exact ⟨rfl,h.on hb⟩
def GetCP (b:Nat) (w0:World) (x:SR) (E:Int) (bs:List UInt8) (l:List Ob) (e:Ending) (w':World):Prop:=
 ∃ d,e= .returned (.tuple #[.slice d.A d.len d.cap,.int .i64 E])/\SW b w0 (x.obs (bufOb d bs::l)) w'
theorem Get_L (h:SW b w0 (x.obs l) w) (hc:Cl ns x) (i:ID) (hi:okID i) (bs:List UInt8) (hv:valC x i=some bs):Calls Tryz.prog 30 #[vPtr x.ps,.agg #[.int .u64 i.1,.int .i64 i.2]] w (GetCP b w0 x 0 bs l):=by
 unfold valC at hv;cases ha:asc x.C i with
 | none=>rw [ha] at hv;cases hv
 | some pl=>
  rw [ha] at hv;have hv:readC x.s x.nm i pl=some bs:=hv;have:=Get_at h.1 hc.toWF i hi pl ha;rw [hv] at this;refine this.mono ?_;rintro e w' ⟨d,rfl,hr,hn,hb⟩;exact ⟨d,rfl,(h.newBytes hb hr hn).behind⟩
theorem GetN_L (h:SW b w0 (x.obs l) w) (hc:Cl ns x) (i:ID) (hi:okID i) (ha:asc x.C i=none):Calls Tryz.prog 30 #[vPtr x.ps,.agg #[.int .u64 i.1,.int .i64 i.2]] w (GetCP b w0 x 333 [] l):=by
 refine (Get_no h.1 hc.toWF i hi ha).mono ?_;rintro e w' ⟨d,rfl,hr,hn,hb⟩;exact ⟨d,rfl,(h.newBytes hb hr hn).behind⟩
def FlushL (ns:List ByteArray) (b:Nat) (w0:World) (x:SR) (l:List Ob) (e:Ending) (w':World):Prop:=
 e= .returned (.int .i64 0)/\∃ x',SW b w0 (x'.obs l) w'/\Cl ns x'/\Flushed x x'
theorem Flush_L (h:SW b w0 (x.obs l) w) (hc:Cl ns x) (hp2:(pends x.C).length<=49) (hsum:flen x.F+frSum (pends x.C)<=1048576):Calls Tryz.prog 35 #[vPtr x.ps] w (FlushL ns b w0 x l):=by
 have hw:=hc.waits;by_cases hp:pends x.C=[]
 · have h0:x.wait=0:=by rw [hw,hp];rfl
   refine (Flush_idle h.1 hc.live hc.up h0).mono ?_;rintro e w' ⟨rfl,rfl⟩;refine ⟨rfl,x,h,hc,⟨fun _=>rfl,fun _=>rfl,fun c hcc=>?_,h0,rfl,rfl,rfl,rfl,by rw [hp];simp [frSum],fun _ _=>rfl,fun h=>h,fun h=>h⟩⟩;obtain ⟨i,pl⟩:=c;cases pl with
   | «at» o=>exact ⟨o,rfl⟩
   | pend d bs=>
    have:=pends_of hcc (hc.pA i d bs hcc).1;rw [hp] at this;cases this
 have h0:x.wait≠0:=by
  have:=List.length_pos_iff.2 hp;omega
 refine (Flush_any h.1 hc.toWH h0 hp hp2 hsum).mono ?_;rintro e w' ⟨q,k1,k2,k3,k4⟩;obtain ⟨he,x',a1,a2,a3⟩:=flush_cl hc k1 hp hsum k3 k4;exact ⟨he,x',h.then a3,a1,a2⟩
def RemL (ns:List ByteArray) (b:Nat) (w0:World) (x:SR) (ids:List ID) (l:List Ob) (e:Ending) (w':World):Prop:=
 e= .returned (.tuple #[.int .i64 ((goneL x.C ids).length:Int),.int .i64 0])/\∃ x',SW b w0 (x'.obs l) w'/\Cl ns x'/\Gone x ids x'
theorem Cl.ren {ns:List ByteArray} {x:SR} (hc:Cl ns x) {G:List (ID×Bool)} (ha:anyAt x.C G=true):readE x.s (fileN x.nm)=0/\(∀ y∈durs x.C,(y.2:Int)+28+y.1.2<=(readB x.s (fileN x.nm)).length)/\entSum (durs x.C)<=1048576:=by
 obtain ⟨f0,hF⟩:=anyAt_file hc ha;obtain ⟨hT0,D0,hD1,hD2,hD3⟩:=hc.file f0 hF;obtain ⟨hR1,hR2⟩:=readE_ok hc.up (nameB_file hc.nv) hD1;refine ⟨hR1,fun y hy=>?_,Nat.le_trans hc.frames hc.len⟩;have hm:=durs_mem hy;have h0:0<=y.1.2:=by have:=(hc.ids8 _ hm).1;simp only at this;omega
 have:=(cutOk_len (hD3 _ _ hm)).2 h0;rw [hR2];omega
theorem Rem_L (h:SW b w0 (x.obs l) w) (hc:Cl ns x) (A:Option Addr) (c:Nat) (ids:List ID) (hA:riOb A ids∈l) (hok:∀ i∈ids,okID i) (hl:ids.length<=100000):Calls Tryz.prog 25 #[vPtr x.ps,.slice A ids.length c] w (RemL ns b w0 x ids l):=by
 have hz:=sizeC_le x.C hc.ids8;have hz2:=hc.size;have hfew:=hc.few;refine (Remove_any h.1 hc.toWH A c ids hA hok hl (fun f hf=>(hc.file f hf).1) (fun ha=>hc.ren ha) (fun ha=>anyAt_file hc ha) (by omega) (by omega)).mono ?_;intro e w' hp;obtain ⟨he,x',a1,a2,a3⟩:=rem_cl hc hp;exact ⟨he,x',h.then a3,a1,a2⟩
theorem Pending_L (h:SW b w0 (x.obs l) w) (v:Int) (hv:x.wait=v):Calls Tryz.prog 29 #[vPtr x.ps] w (fun e w'=>e= .returned (.int .i64 v)/\w=w'):=hv ▸ Pending_any h.1
theorem Bytes_L (h:SW b w0 (x.obs l) w) (v:Int) (hv:x.bytes=v):Calls Tryz.prog 26 #[vPtr x.ps] w (fun e w'=>e= .returned (.int .i64 v)/\w=w'):=hv ▸ Bytes_any_ h.1
end
def OpenL (ns:List ByteArray) (b p:Nat) (nm:ByteArray) (w0:World) (l:List Ob) (e:Ending) (w':World):Prop:=
 ∃ x,e= .returned (.tuple #[vPtr x.ps,.int .i64 0])/\SW b w0 (x.obs l) w'/\Cl ns x/\x.C=[]/\x.F=none/\x.nm=nm/\x.p=p/\x.wait=0/\x.bytes=0
theorem Open_L {ns:List ByteArray} {b:Nat} {w0 w:World} {l:List Ob} {p:Nat} {r:Rp} {s:St} (h:SW b w0 (devOb p r s::l) w) (nm:ByteArray) (hn:nameV nm=true) (hd:s.dn=false) (hf:s.f=0) (he:∀ m,s.now m=none) (ho:s.ops.length<=900000) (h1:fileN nm∈ns) (h2:ns.length<=200):
 Calls Tryz.prog 20 #[vPtr p,.string nm] w (OpenL ns b p nm w0 l):=by
 refine (Open_empty h.1 nm hn hd he).mono ?_;rintro e w' ⟨H,hH,rfl,hs⟩;exact ⟨openedS p r s nm H,rfl,h.then hs,opened_cl hn hd hf he ho h1 h2,rfl,rfl,rfl,rfl,rfl,rfl⟩
theorem SW.newIds2 {b:Nat} {w0 w:World} {l:List Ob} (h:SW b w0 l w) (i j:ID):SW b w0 (riOb (some ⟨w.heap.size,0,none⟩) [i,j]::l) (w.alloc (.cells #[.int .u64 i.1,.int .i64 i.2,.int .u64 j.1,.int .i64 j.2] 31)):=by
 have hlt:w.heap.size<(w.alloc (.cells #[.int .u64 i.1,.int .i64 i.2,.int .u64 j.1,.int .i64 j.2] 31)).heap.size:=by simp
 refine h.addN ((Below.refl _ _).alloc (zB _) _) ⟨(fun e=>by cases e),fun ad e=>?_⟩ (fun i hi=>hi.elim) (fun k hk=>?_)
 · injection e with e;subst e;refine ⟨_,rfl,⟨_,IsB.new _ _ _,by simp,fun k hk=>?_⟩,hlt⟩;have:k=0∨k=1:=by simp at hk;omega
   rcases this with rfl | rfl<;>exact ⟨rfl,rfl⟩
 have hk':(some ⟨w.heap.size,0,none⟩:Option Addr)=some ⟨k,0,none⟩:=hk;injection hk' with hk';injection hk' with hk';subst hk';exact ⟨zB _,hlt⟩
end
section
open Go.RowKit
inductive Tr where
 | nil
 | take (k:Nat) (t:Tr)
 | one (k:Nat) (t:Tr)
 | two (k:Nat) (t:Tr) (k2:Nat) (t2:Tr)
 | three (k:Nat) (t:Tr) (k2:Nat) (t2:Tr) (k3:Nat) (t3:Tr)
section
variable {P:Program} {ops:Array Oper} {md:Region.Mode} {S:World->Prop} {Q:Exit->Act->World->Prop}
def runC (P:Program) (ops:Array Oper) (Q:Exit->Act->World->Prop) (S:World->Prop) (o:Oper) (K:Act->World->Prop) (a:Act) (w:World):Prop:=
 if Region.wanted o (yielded ops a.tmps)=true then Oper.wp P o a w (fun a' w'=>S w'/\K a' w') Q else S w/\K (a.put o.dst undef) w
def wpTr (P:Program) (ops:Array Oper) (Q:Exit->Act->World->Prop) (S:World->Prop) (T:Act->World->Prop):Tr->Act->World->Prop
 | .nil,a,w=>T a w
 | .take k t,a,w=>∃ v,YieldsIf P ops S (ops.getD k default) v a/\wpTr P ops Q S T t (a.put (ops.getD k default).dst v) w
 | .one k t,a,w=>runC P ops Q S (ops.getD k default) (wpTr P ops Q S T t) a w
 | .two k t k2 t2,a,w=>runC P ops Q S (ops.getD k default) (wpTr P ops Q S T t) a w/\runC P ops Q S (ops.getD k2 default) (wpTr P ops Q S T t2) a w
 | .three k t k2 t2 k3 t3,a,w=>runC P ops Q S (ops.getD k default) (wpTr P ops Q S T t) a w/\runC P ops Q S (ops.getD k2 default) (wpTr P ops Q S T t2) a w/\runC P ops Q S (ops.getD k3 default) (wpTr P ops Q S T t3) a w
def treeB (md:Region.Mode) (ops:Array Oper) (n g:Nat):Nat->Tr->Array Bool->Bool
 | 0,.nil,listed=>Region.seqB md ops g n listed
 | f+1,.take k t,listed=>decide (k<n)&&(Region.ready md ops listed).contains k&&Region.free md ops listed k&&treeB md ops n g f t (listed.setIfInBounds k true)
 | f+1,.one k t,listed=>decide (k<n)&&decide (Region.ready md ops listed=[k])&&treeB md ops n g f t (listed.setIfInBounds k true)
 | f+1,.two k t k2 t2,listed=>decide (k<n)&&decide (k2<n)&&decide (Region.ready md ops listed=[k,k2])&&treeB md ops n g f t (listed.setIfInBounds k true)&&treeB md ops n g f t2 (listed.setIfInBounds k2 true)
 | f+1,.three k t k2 t2 k3 t3,listed=>decide (k<n)&&decide (k2<n)&&decide (k3<n)&&decide (Region.ready md ops listed=[k,k2,k3])&&treeB md ops n g f t (listed.setIfInBounds k true)&&treeB md ops n g f t2 (listed.setIfInBounds k2 true)&&treeB md ops n g f t3 (listed.setIfInBounds k3 true)
 | _,_,_=>false
theorem runC_op {k:Nat} {K:Act->World->Prop} {a:Act} {w:World} (hk:k<ops.size) (h:runC P ops Q S (ops.getD k default) K a w):wpOp P ops Q k (fun a' w'=>S w'/\K a' w') a w:=by
 have h0:ops[k]? =some (ops.getD k default):=by simp [Array.getD_eq_getD_getElem?, hk]
 unfold wpOp;simp only [h0];unfold runC at h;by_cases hwt:Region.wanted (ops.getD k default) (yielded ops a.tmps)=true
 · rw [if_pos hwt] at h |-; exact .inl h
 rw [if_neg hwt] at h |-; exact h
theorem headH_of_tree {n g:Nat} {T:Act->World->Prop} (hsel:Region.noSelect ops=true) (hQ:∀ c a d v w,Q (.panic c) (a.put d v) w->Q (.panic c) a w) (hs:Region.sinkB md ops n=true) (hc:Region.chainB md ops n=true) (hn:n<ops.size):
 ∀ (f:Nat) (t:Tr) (listed:Array Bool) (a:Act) (w:World),HeadInv md ops n listed->S w->
 treeB md ops n g f t listed=true->wpTr P ops Q S T t a w->
 headH P md ops Q S n (fun listed' a' w'=>Region.seqB md ops g n listed'=true/\T a' w') f listed a w
 | 0,.nil,listed,a,w,_,_,hB,h=>⟨by simpa [treeB] using hB,by simpa [wpTr] using h⟩
 | f+1,.take k t,listed,a,w,inv,hS,hB,h=>by
  simp only [treeB,Bool.and_eq_true,decide_eq_true_eq] at hB;obtain ⟨⟨⟨hkn,hr⟩,hf⟩,hB'⟩:=hB;have hk:k<ops.size:=by omega
  have h0:ops[k]? =some (ops.getD k default):=by simp [Array.getD_eq_getD_getElem?, hk]
  have hr':k∈Region.ready md ops listed:=by simpa using hr
  obtain ⟨v,hy,hK⟩:∃ v,YieldsIf P ops S (ops.getD k default) v a/\wpTr P ops Q S T t (a.put (ops.getD k default).dst v) w:=h
  exact headH_first h0 (Region.noSelect_spec hsel) hQ hs hc hn hkn (fun listed' a' w' hL=>seqB_ready hL.1) f listed a w inv (Region.free_spec h0 hf) hr' hy hS
   (headH_of_tree hsel hQ hs hc hn f t _ _ w (inv.set hr' hkn) hS hB' hK)
 | f+1,.one k t,listed,a,w,inv,hS,hB,h=>by
  simp only [treeB,Bool.and_eq_true,decide_eq_true_eq] at hB;obtain ⟨⟨hkn,hr⟩,hB'⟩:=hB;refine ⟨fun h1=>(by rw [hr] at h1;cases h1),fun i hi=>?_⟩;have hr':i∈Region.ready md ops listed:=hi;rw [hr] at hi;obtain rfl:i=k:=by simpa using hi
  exact ⟨hkn,wpOp_mono (fun a' w' h'=>⟨h'.1,headH_of_tree hsel hQ hs hc hn f t _ a' w' (inv.set hr' hkn) h'.1 hB' h'.2⟩) (runC_op (by omega) h)⟩
 | f+1,.two k t k2 t2,listed,a,w,inv,hS,hB,h=>by
  simp only [treeB,Bool.and_eq_true,decide_eq_true_eq] at hB;obtain ⟨⟨⟨⟨hkn,hkn2⟩,hr⟩,hB'⟩,hB2⟩:=hB;refine ⟨fun h1=>(by rw [hr] at h1;cases h1),fun i hi=>?_⟩;have hr':i∈Region.ready md ops listed:=hi;rw [hr] at hi;simp only [List.mem_cons,List.not_mem_nil,or_false] at hi;obtain ⟨h1,h2⟩:runC P ops Q S (ops.getD k default) (wpTr P ops Q S T t) a w/\runC P ops Q S (ops.getD k2 default) (wpTr P ops Q S T t2) a w:=h;rcases hi with rfl | rfl
  · exact ⟨hkn,wpOp_mono (fun a' w' h'=>⟨h'.1,headH_of_tree hsel hQ hs hc hn f t _ a' w' (inv.set hr' hkn) h'.1 hB' h'.2⟩) (runC_op (by omega) h1)⟩
  exact ⟨hkn2,wpOp_mono (fun a' w' h'=>⟨h'.1,headH_of_tree hsel hQ hs hc hn f t2 _ a' w' (inv.set hr' hkn2) h'.1 hB2 h'.2⟩) (runC_op (by omega) h2)⟩
 | f+1,.three k t k2 t2 k3 t3,listed,a,w,inv,hS,hB,h=>by
  simp only [treeB,Bool.and_eq_true,decide_eq_true_eq] at hB;obtain ⟨⟨⟨⟨⟨⟨hkn,hkn2⟩,hkn3⟩,hr⟩,hB'⟩,hB2⟩,hB3⟩:=hB;refine ⟨fun h1=>(by rw [hr] at h1;cases h1),fun i hi=>?_⟩;have hr':i∈Region.ready md ops listed:=hi;rw [hr] at hi;simp only [List.mem_cons,List.not_mem_nil,or_false] at hi;obtain ⟨h1,h2,h3⟩:runC P ops Q S (ops.getD k default) (wpTr P ops Q S T t) a w/\runC P ops Q S (ops.getD k2 default) (wpTr P ops Q S T t2) a w/\runC P ops Q S (ops.getD k3 default) (wpTr P ops Q S T t3) a w:=h;rcases hi with rfl | rfl | rfl
  · exact ⟨hkn,wpOp_mono (fun a' w' h'=>⟨h'.1,headH_of_tree hsel hQ hs hc hn f t _ a' w' (inv.set hr' hkn) h'.1 hB' h'.2⟩) (runC_op (by omega) h1)⟩
  · exact ⟨hkn2,wpOp_mono (fun a' w' h'=>⟨h'.1,headH_of_tree hsel hQ hs hc hn f t2 _ a' w' (inv.set hr' hkn2) h'.1 hB2 h'.2⟩) (runC_op (by omega) h2)⟩
  exact ⟨hkn3,wpOp_mono (fun a' w' h'=>⟨h'.1,headH_of_tree hsel hQ hs hc hn f t3 _ a' w' (inv.set hr' hkn3) h'.1 hB3 h'.2⟩) (runC_op (by omega) h3)⟩
 | 0,.take _ _,_,_,_,_,_,hB,_=>by simp [treeB] at hB
 | 0,.one _ _,_,_,_,_,_,hB,_=>by simp [treeB] at hB
 | 0,.two _ _ _ _,_,_,_,_,_,hB,_=>by simp [treeB] at hB
 | 0,.three _ _ _ _ _ _,_,_,_,_,_,hB,_=>by simp [treeB] at hB
 | f+1,.nil,_,_,_,_,_,hB,_=>by simp [treeB] at hB
def treeTailB (md:Region.Mode) (ops:Array Oper) (n:Nat) (t:Tr):Bool:=
 Region.noSelect ops&&decide (n<ops.size)&&Region.sinkB md ops n&&Region.chainB md ops n&&treeB md ops n (ops.size-n) n t (Array.replicate ops.size false)
theorem wp_region_tree {id:Nat} {a:Act} {w:World} {l:List Oper} (n:Nat) (t:Tr) (S:World->Prop) (hm:P.follows .mixedOrders=true) (hQ:∀ c a d v w,Q (.panic c) (a.put d v) w->Q (.panic c) a w) (hB:treeTailB .any l.toArray n t=true) (hS:S w.drew)
 (h:wpTr P l.toArray Q S (fun a' w'=>wpList P l.toArray Q (l.drop n) a' w') t a w.drew):(Code.region id l.toArray true).wp P Q a w:=by
 simp only [treeTailB,Bool.and_eq_true,decide_eq_true_eq] at hB;obtain ⟨⟨⟨⟨hsel,hn⟩,hs⟩,hc⟩,hlex⟩:=hB;have hdl:(l.drop n).length=l.toArray.size-n:=by simp
 have inv0:HeadInv .any l.toArray n (Array.replicate l.toArray.size false):=
  ⟨by simp,fun j oj _ hl=>(by rw [getD_replicate_false] at hl;cases hl),fun t _ ht=>getD_in (by simpa using ht) (getD_replicate_false _ _)⟩
 have H:=headH_of_tree (md:=.any) (g:=l.toArray.size-n) hsel hQ hs hc hn n t _ a w.drew inv0 hS hlex h;refine wp_region_any hm ?_
 have:=any_of_headH (Q:=Q) (S:=S) (g:=l.toArray.size-n) (fun listed a' w' hL=>by
  have:=wpAny_of_seq (md:=.any) (Q':=Q) (l.drop n) n listed a' w' (fun j=>by simp [List.getElem?_drop]) (by rw [hdl];exact hL.1) hL.2;rwa [hdl] at this) _ _ _ _ H
 rw [show n+(l.toArray.size-n)=l.toArray.size by omega] at this;exact this
theorem wpTr_nil {T:Act->World->Prop} {a:Act} {w:World} (h:T a w):wpTr P ops Q S T .nil a w:=h
theorem wpTr_take {T:Act->World->Prop} {k:Nat} {t:Tr} {a:Act} {w:World} {o:Oper} (ho:ops.getD k default=o) (v:Value) (hy:YieldsIf P ops S o v a) (h:wpTr P ops Q S T t (a.put o.dst v) w):wpTr P ops Q S T (.take k t) a w:=by
 subst ho;exact ⟨v,hy,h⟩
theorem wpTr_run {K:Act->World->Prop} {k:Nat} {a:Act} {w:World} {o:Oper} (ho:ops.getD k default=o) (h:∀ K':Act->World->Prop,Shut (∀ a w,S w->K a w->K' a w)->if Region.wanted o (yielded ops a.tmps)=true then Oper.wp P o a w K' Q else K' (a.put o.dst undef) w):runC P ops Q S (ops.getD k default) K a w:=by
 subst ho;exact h _ (fun _ _ h1 h2=>⟨h1,h2⟩)
theorem getD_lit {l:List Oper} {k:Nat} {o:Oper} (h:l[k]? =some o):l.toArray.getD k default=o:=by
 simp only [Array.getD_eq_getD_getElem?, List.getElem?_toArray,h,Option.getD_some]
theorem wpTr_runL {l:List Oper} {K:Act->World->Prop} {k:Nat} {a:Act} {w:World} {o:Oper} (ho:l[k]? =some o) (h:∀ K':Act->World->Prop,Shut (∀ a w,S w->K a w->K' a w)->if Region.wanted o (yielded l.toArray a.tmps)=true then Oper.wp P o a w K' Q else K' (a.put o.dst undef) w):runC P l.toArray Q S (l.toArray.getD k default) K a w:=
 wpTr_run (getD_lit ho) h
theorem wpTr_takeL {l:List Oper} {T:Act->World->Prop} {k:Nat} {t:Tr} {a:Act} {w:World} {o:Oper} (ho:l[k]? =some o) (v:Value) (hy:YieldsIf P l.toArray S o v a) (h:wpTr P l.toArray Q S T t (a.put o.dst v) w):wpTr P l.toArray Q S T (.take k t) a w:=
 wpTr_take (getD_lit ho) v hy h
theorem wpTr_one {T:Act->World->Prop} {k:Nat} {t:Tr} {a:Act} {w:World} (h:runC P ops Q S (ops.getD k default) (wpTr P ops Q S T t) a w):wpTr P ops Q S T (.one k t) a w:=h
theorem wpTr_two {T:Act->World->Prop} {k k2:Nat} {t t2:Tr} {a:Act} {w:World} (h:runC P ops Q S (ops.getD k default) (wpTr P ops Q S T t) a w) (h2:runC P ops Q S (ops.getD k2 default) (wpTr P ops Q S T t2) a w):wpTr P ops Q S T (.two k t k2 t2) a w:=⟨h,h2⟩
end
end
section
open Go.RowKit Go.MapKept Go.ChangeMaps Go.Shelf Go.Sort

end
section
open Go.RowKit Go.MapKept Go.ChangeMaps Go.Shelf Go.Sort
attribute [local go_sem] wext_cell
end
section
open Go.RowKit Go.MapKept Go.ChangeMaps Go.Shelf Go.Sort
attribute [local go_sem] wext_cell
end
end Go.Proofs.YteabgcollokgjaaGreatDoor
namespace Go.Proofs
section
open Go.Shelf

end
end Go.Proofs
namespace Go.Proofs.YteabgcollokgjaaGreatDoor
section
open Go.RowKit Go.MapKept Go.ChangeMaps Go.Shelf Go.Sort
def foldI (v n:Int):Int:=if n<=1 then 0 else if v.tmod n<0 then v.tmod n+n else v.tmod n
theorem foldI_in (v n:Int):0<=foldI v n/\(1<n->foldI v n<n):=by
 unfold foldI;split
 · omega
 have t1:=tmod_lt' v n (by omega);have t2:=tmod_gt' v n (by omega);split<;>omega
theorem Fold_x (v n:Int) (w:World) (hn:n<=4294967296):Calls Tryz.prog 24 #[.int .i64 v,.int .i64 n] w (fun e w'=>e= .returned (.int .i64 (foldI v n))/\w=w'):=by
 by_cases h1:n<=1
 · have e:foldI v n=0:=if_pos h1;rw [e];go_enter Tryz.func24,Tryz.ntmps24;go_wp2
   go_ret;exact ⟨rfl,rfl⟩
 have t1:=tmod_lt' v n (by omega);have t2:=tmod_gt' v n (by omega);have e:foldI v n=if v.tmod n<0 then v.tmod n+n else v.tmod n:=if_neg h1
 rw [e];obtain ⟨t,ht⟩:∃ t,v.tmod n=t:=⟨_,rfl⟩;rw [ht] at t1 t2 |-; have hn0:(n==0)=false:=by rw [beq_eq_false_iff_ne];omega
 have hnm:(n== -1)=false:=by rw [beq_eq_false_iff_ne];omega
 by_cases h2:t<0
 · rw [if_pos h2];go_enter Tryz.func24,Tryz.ntmps24;go_wp2
   go_ret;exact ⟨rfl,rfl⟩
 rw [if_neg h2];go_enter Tryz.func24,Tryz.ntmps24;go_wp2
 go_ret;exact ⟨rfl,rfl⟩
def tapeV (L:List Int) (n:Nat):Int:=if n<L.length then L.getD n 0 else ((n:Int)*7).tmod 11
def tnext (L:List Int) (n:Nat) (k:Int):Int:=foldI (tapeV L n) k
theorem tnext_in (L:List Int) (n:Nat) (k:Int):0<=tnext L n k/\(1<k->tnext L n k<k):=foldI_in _ _
def RdL (w:World) (g:Nat) (A:Option Addr) (L:List Int):Prop:=0<L.length->∃ b o,A=some ⟨b,o,none⟩/\b<w.heap.size/\b≠g/\∀ j,j<L.length->w.cell? ⟨b,o+j,none⟩=some (.int .i64 (L.getD j 0))
def tpOb (g:Nat) (A:Option Addr) (c:Nat) (L:List Int) (n:Nat):Ob where
 own:=fun i=>i=g
 rd:=fun i=>0<L.length/\∃ o,A=some ⟨i,o,none⟩
 holds:=fun w=>IsB w g 50 #[.slice A L.length c,.int .i64 n]/\RdL w g A L/\L.length<=9223372036854775807
 stable:=fun w w' h hs hk=>by
  refine ⟨(hk g (.inl rfl)).trans h.1,fun hp=>?_,h.2.2⟩;obtain ⟨b,o,e,hlt,hne,hc⟩:=h.2.1 hp;have h2:=hk b (.inr ⟨hp,o,e⟩);refine ⟨b,o,e,Nat.lt_of_lt_of_le hlt hs.2.2.2,hne,fun j hj=>?_⟩;rw [<- hc j hj];simp [World.cell?, h2]
section
variable {b:Nat} {w0 w:World} {l:List Ob} {g:Nat} {A:Option Addr} {c:Nat} {L:List Int} {n:Nat}
theorem SW.tick (h:SW b w0 l w) (k:Nat) (hk:l[k]? =some (tpOb g A c L n)):SW b w0 (l.set k (tpOb g A c L (n+1))) (w.setCell ⟨g,1,none⟩ (.int .i64 ((n:Int)+1))):=by
 have hh:=h.get k hk;have hgr:w.grownBy (w.setCell ⟨g,1,none⟩ (.int .i64 ((n:Int)+1))) (some g):=g_set (p:=⟨g,1,none⟩) (g_refl _ _) (.inl rfl) _;have hlt:=hh.1.lt;have hsz:(w.setCell ⟨g,1,none⟩ (.int .i64 ((n:Int)+1))).heap.size=w.heap.size:=by simp [World.setCell]
 have hnew:(tpOb g A c L (n+1)).holds (w.setCell ⟨g,1,none⟩ (.int .i64 ((n:Int)+1))):=by
  refine ⟨by simpa using hh.1.set_ 1 (.int .i64 ((n:Int)+1)),fun hp=>?_,hh.2.2⟩;obtain ⟨b',o,e,hl,hne,hc⟩:=hh.2.1 hp;exact ⟨b',o,e,by rw [hsz];exact hl,hne,fun j hj=>(g_cell hgr hl hne).trans (hc j hj)⟩
 have:=h.1.stepAt k hk (o':=tpOb g A c L (n+1)) (Fr.grown hgr rfl (fun i hi=> .inl hi)) (fun i hi=> .inr (.inl hi)) hnew (fun i hi=>by
  rw [hsz];rcases hi with hi | ⟨hp,o,e⟩
  · have hi:i=g:=hi;rw [hi];exact hlt
  obtain ⟨b',o',e',hl,_⟩:=hh.2.1 hp;rw [e] at e';injection e' with e';injection e' with e' _;rw [e'];exact hl)
 exact ⟨this.1,h.2.trans this.2⟩
theorem Next_x (h:SW b w0 l w) (k:Nat) (hk:l[k]? =some (tpOb g A c L n)) (m:Int) (hm:m<=4294967296) (hn:n<=1000000):
 Calls Tryz.prog 33 #[vPtr g,.int .i64 m] w (fun e w'=>e= .returned (.int .i64 (tnext L n m))/\SW b w0 (l.set k (tpOb g A c L (n+1))) w'):=by
 have hh:=h.get k hk;have hc0:w.cell? ⟨g,0,none⟩=some (.slice A L.length c):=hh.1.cell 0;have hc1:w.cell? ⟨g,1,none⟩=some (.int .i64 n):=hh.1.cell 1;have hf1:w.frozen? ⟨g,1,none⟩=false:=hh.1.frozen 1;have H1:=hid (fun q:Nat=>(h.on (bdrewN (Below.refl _ _) q)).tick k hk);have h3:=hh.2.2;by_cases hlt:n<L.length
 · obtain ⟨b',o,rfl,hb,_,hc⟩:=hh.2.1 (by omega);have hcl:w.cell? ⟨b',o+n,none⟩=some (.int .i64 (L.getD n 0)):=hc n hlt;have et:tapeV L n=L.getD n 0:=if_pos hlt;unfold tnext;rw [et];clear hc hh h et;obtain ⟨v,Hv⟩:∃ v,Hid (L.getD n 0=v):=⟨_,rfl⟩;rw [Hv.out] at hcl |-; have hltb:decide (n<L.length)=true:=by simp;omega
   go_enter Tryz.func33,Tryz.ntmps33;go_wp2_with fail
   go_quiet (fail)
   go_wp2_with fail
   go_quiet (fail)
   go_wp2_with fail
   refine (Fold_x v m _ hm).mono ?_;rintro e w1 ⟨rfl,rfl⟩;go_wp2_with fail
   go_ret;exact ⟨rfl,H1.out _⟩
 have et:tapeV L n=((n:Int)*7).tmod 11:=if_neg hlt;unfold tnext;rw [et];clear hh h et;have hltb:decide (n<L.length)=false:=by simp;omega
 go_enter Tryz.func33,Tryz.ntmps33;go_wp2_with fail
 go_quiet (fail)
 go_wp2_with fail
 refine (Fold_x _ m _ hm).mono ?_;rintro e w1 ⟨rfl,rfl⟩;go_wp2_with fail
 go_ret;exact ⟨rfl,H1.out _⟩
end
theorem set_self {α:Type}:∀ (L:List α) (i:Nat) (v:α),L[i]? =some v->L.set i v=L
 | [],_,_,h=>by simp at h
 | x::L,0,v,h=>by
  have h:x=v:=by simpa using h
  rw [List.set_cons_zero,h]
 | x::L,i+1,v,h=>by rw [List.set_cons_succ,set_self L i v (by simpa using h)]
section
variable {b:Nat} {w0 w w':World} {l t:List Ob} {o o':Ob}
theorem pair_all {l:List Ob} (h:l.Pairwise Apart) {x y:Ob} (hx:x∈l) (hy:y∈l) (hne:x≠y):Apart x y:=by
 induction l with
 | nil=>cases hx
 | cons z l ih=>
  obtain ⟨h1,h2⟩:=List.pairwise_cons.1 h;rcases List.mem_cons.1 hx with rfl | hx
  · rcases List.mem_cons.1 hy with rfl | hy
    · exact absurd rfl hne
    exact h1 y hy
  rcases List.mem_cons.1 hy with rfl | hy
  · exact (h1 x (by assumption)).symm
  exact ih h2 (by assumption) (by assumption)
theorem SW.asRead (h:SW b w0 (o::t) w) (hh:o'.holds w) (ho:∀ i,¬ o'.own i) (hr:∀ i,o'.rd i->o.own i):SW b w0 (o'::t) w:=by
 have ha:=List.pairwise_cons.1 h.1.apart;refine ⟨⟨h.1.base,fun y hy=>?_,fun y hy i hi=>?_,fun y hy i hi=>?_,List.pairwise_cons.2 ⟨fun y hy=>⟨fun i hi=>absurd hi (ho i),fun i hi hr'=>?_⟩,ha.2⟩⟩,h.2⟩
 · rcases List.mem_cons.1 hy with rfl | hy
   · exact hh
   exact h.1.holds y (zA _ hy)
 · rcases List.mem_cons.1 hy with rfl | hy
   · exact absurd hi (ho i)
   exact h.1.own y (zA _ hy) i hi
 · rcases List.mem_cons.1 hy with rfl | hy
   · exact (h.1.own _ (List.mem_cons_self ..) i (hr i hi)).2
   exact h.1.rd y (zA _ hy) i hi
 exact ((ha.1 y hy).1 i (hr i hr')).1 hi
theorem SW.also (h:SW b w0 l w) (hh:o'.holds w) (ho:∀ i,¬ o'.own i) (hlt:∀ i,o'.rd i->i<w.heap.size) (hr:∀ i,o'.rd i->∀ y∈l,¬ y.own i):SW b w0 (o'::l) w:=by
 refine ⟨⟨h.1.base,fun y hy=>?_,fun y hy i hi=>?_,fun y hy i hi=>?_,List.pairwise_cons.2 ⟨fun y hy=>⟨fun i hi=>absurd hi (ho i),fun i hi hr'=>hr i hr' y hy hi⟩,h.1.apart⟩⟩,h.2⟩
 · rcases List.mem_cons.1 hy with rfl | hy
   · exact hh
   exact h.1.holds y hy
 · rcases List.mem_cons.1 hy with rfl | hy
   · exact absurd hi (ho i)
   exact h.1.own y hy i hi
 rcases List.mem_cons.1 hy with rfl | hy
 · exact hlt i hi
 exact h.1.rd y hy i hi
theorem SW.noOwn (h:SW b w0 l w) (ho:o∈l) (hn:∀ i,¬ o.own i) {i:Nat} (hi:o.rd i):∀ y∈l,¬ y.own i:=fun y hy hw=>by
 by_cases e:y=o
 · subst e;exact hn i hw
 exact ((pair_all h.1.apart hy ho e).1 i hw).2 hi
theorem few_rest (idx:List Nat) (n:Nat) (hd:idx.Nodup) (hl:∀ i∈idx,i<n):∃ rest:List Nat,(idx++rest).Perm (List.range n):=by
 refine ⟨(List.range n).filter (fun i=> !idx.contains i),?_⟩;refine (List.perm_ext_iff_of_nodup ?_ List.nodup_range).2 (fun i=>?_)
 · refine List.nodup_append.2 ⟨hd,List.nodup_range.filter _,fun a ha c hc e=>?_⟩;subst e;have:=(List.mem_filter.1 hc).2;simp [ha] at this
 simp only [List.mem_append,List.mem_filter,List.mem_range];constructor
 · rintro (h1 | h1)
   · exact hl i h1
   exact h1.1
 intro h1;by_cases e:i∈idx
 · exact .inl e
 exact .inr ⟨h1,by simp [e]⟩
theorem SW.few {pre t:List Ob} (h:SW b w0 (pre++t) w) (idx:List Nat) {n:Nat} (hn:pre.length=n) (hd:idx.Nodup) (hl:∀ i∈idx,i<n):SW b w0 (idx.filterMap (fun i=>pre[i]?)++t) w:=by
 obtain ⟨rest,hp⟩:=few_rest idx n hd hl;have h1:=h.front (idx++rest) hn hp;rw [List.filterMap_append,List.append_assoc] at h1;refine h1.sub ?_;exact (List.Sublist.refl _).append (List.sublist_append_right _ _)
end
section
variable {b:Nat} {w0 w w':World} {l t:List Ob}
theorem SW.rowRi {A:Option Addr} {cap:Nat} {F:List ID} (h:SW b w0 (rowOb 31 2 (.slice A F.length cap) F.length (F.flatMap encID)::t) w):SW b w0 (riOb A F::t) w:=by
 have hh:w.ownsRow 0 31 2 (.slice A F.length cap) F.length (F.flatMap encID):=h.get 0 (o:=rowOb 31 2 (.slice A F.length cap) F.length (F.flatMap encID)) rfl;refine h.asRead (o':=riOb A F) ?_ (fun i hi=>hi) (fun i hi=>?_)
 · by_cases hF:F.length=0
   · have hF':F=[]:=List.eq_nil_of_length_eq_zero hF;subst hF';refine ⟨fun _=>rfl,fun ad e=>?_⟩;rcases hh.2 with ⟨hv,_⟩ | ⟨g,cap',cur,hv,_⟩
     · injection hv with hv;rw [e] at hv;cases hv
     subst e;injection hv with h1;injection h1 with h1;subst h1;obtain ⟨_,h2,h3,_⟩:=own_rowI hh;exact ⟨g,rfl,h2,h3⟩
   obtain ⟨g,c',e⟩:=own_some hh hF;injection e with e1 e2 e3;subst e1;obtain ⟨_,h2,h3,_⟩:=own_rowI hh;exact ⟨(fun e=>by cases e),fun ad e=>by injection e with e;exact ⟨g,e.symm,h2,h3⟩⟩
 have hi:A=some ⟨i,0,none⟩:=hi;show (Value.slice A F.length cap).ownBlock=some i;rw [hi];rfl
end
end
section
open Go.RowKit
theorem rplus_any (a b:Nat) (w:World) (ha:a<=2305843009213693951) (hb:b<=2305843009213693951):Calls Tryz.prog 186 #[.int .u64 (a:Int),.int .u64 (b:Int)] w fun e w'=>e= .returned (.int .u64 (((a+b) % pP:Nat):Int))/\w=w':=by
 by_cases h:a+b<2305843009213693951
 · have e1:Hid ((a+b) % pP=a+b):=Nat.mod_eq_of_lt h;have h':¬ (2305843009213693951<=(a:Int)+b):=by omega
   go_enter Tryz.func186,Tryz.ntmps186;go_wp2
   go_ret;exact rint_u (q:=a+b) e1.out rfl
 have h':2305843009213693951<=(a:Int)+b:=by omega
 by_cases h2:a+b-2305843009213693951<2305843009213693951
 · have e1:Hid ((a+b) % pP=a+b-2305843009213693951):=by
    rw [Hid,Nat.mod_eq_sub_mod (by unfold pP;omega)];exact Nat.mod_eq_of_lt (by unfold pP;omega)
   have h2':¬ (2305843009213693951<=(a:Int)+b-2305843009213693951):=by omega
   obtain ⟨r,hr⟩:∃ r,r=(a+b) % pP:=⟨_,rfl⟩;rw [<- hr];have E2:Hid (((r:Nat):Int)=(a:Int)+b-2305843009213693951):=by rw [Hid,hr,e1.out];omega
   clear hr e1;go_enter Tryz.func186,Tryz.ntmps186;go_wp2
   go_ret;rw [E2.out];exact ⟨rfl,rfl⟩
 obtain rfl:a=2305843009213693951:=by omega
 obtain rfl:b=2305843009213693951:=by omega
 obtain ⟨r,hr⟩:∃ r,r=(2305843009213693951+2305843009213693951) % pP:=⟨_,rfl⟩
 have hr0:r=0:=by
  rw [hr];unfold pP;omega
 rw [<- hr,hr0];clear hr hr0;go_enter Tryz.func186,Tryz.ntmps186;go_wp2
 go_ret;exact ⟨rfl,rfl⟩
theorem rmul_lo (m:Nat):bits .and .u64 ((m:Int) % 18446744073709551616) 2305843009213693951=((m % 18446744073709551616 % 2305843009213693952:Nat):Int):=by
 have e:(m:Int) % 18446744073709551616=((m % 18446744073709551616:Nat):Int):=by omega
 rw [e,mask61 _ (Nat.mod_lt _ (by omega))]
theorem rmul_any (a b:Nat) (w:World) (ha:a<2305843009213693951) (hb:b<2305843009213693951):Calls Tryz.prog 187 #[.int .u64 (a:Int),.int .u64 (b:Int)] w fun e w'=>e= .returned (.int .u64 (((a*b) % pP:Nat):Int))/\w=w':=by
 have HP:=hid (prod_lt ha hb);go_enter Tryz.func187,Tryz.ntmps187;go_wp2_with (first | (go_at_call 185;refine (Tryz.bits_Mul64 a b (by omega) (by omega) _).mono ?_;rintro e w' ⟨rfl,hw⟩;rw [hw]) | (go_at_call 186;refine halt_q ?_))
 have e1:=rmul_lo (a*b);have e2:=mul_hi (a*b) HP.out;rw [Int.natCast_mul] at e1 e2;rw [e2,e1];have hh:=mul_high _ HP.out;refine (rplus_any (a*b % 18446744073709551616 % 2305843009213693952) (a*b / 18446744073709551616*8+a*b % 18446744073709551616 / 2305843009213693952) w (by omega) (by omega)).mono ?_;rintro e w' ⟨rfl,rfl⟩;rw [mul_words _ HP.out];clear e1 e2 hh;go_wp2_with fail
 go_ret;exact ⟨rfl,rfl⟩
theorem rSum_any (A:Option Addr) (c:Nat) (bs:List UInt8) (w:World) (h:RS w A bs) (hn:bs.length<=1099511627776):Calls Tryz.prog 148 #[.slice A bs.length c] w fun e w'=>e= .returned (.int .u64 ((fpSum bs:Nat):Int))/\Below w.heap.size w w':=by
 have H:=hid h;clear h;go_enter Tryz.func148,Tryz.ntmps148;go_wp2_with fail
 go_loopw [3,4] (fun v i wr=>∃ (k:Nat),k<=bs.length/\i= .int .i64 k/\v= .int .u64 ((fpSum (bs.take k):Nat):Int)/\Below w.heap.size w wr) (fun _ i _=>bs.length-(intOf i).toNat)
 case atStart=>exact ⟨0,Nat.zero_le _,rfl,by rw [List.take_zero,fpSum_nil];rfl,Below.refl _ _⟩
 obtain ⟨k,hk,rfl,rfl,hbl⟩:=hrel;have HB:=hid hbl;have HR:=hid (H.out.on hbl);clear hbl;by_cases hlt:k<bs.length
 · cases A with
   | none=>exact absurd (H.out.1 rfl) (by omega)
   | some ad=>
    obtain ⟨g,o,rfl,hc⟩:=HR.out.2 ad rfl;have hcl:wr.cell? ⟨g,o+k,none⟩=some (.int .u8 (((bs.getD k 0).toNat:Nat):Int)):=hc k hlt;have HT:Hid ((fpSum (bs.take k)*747382712868975713 % pP+((bs.getD k 0).toNat+1)) % pP=fpSum (bs.take (k+1))):=by rw [Hid,take_snocU bs k hlt, <- fp_byte]
    have hf:=fpSum_lt (bs.take k);have HF:Hid (fpSum (bs.take k)<pP):=hf;clear hc hf;generalize hx:bs.getD k 0=x at *; have hx2:=x.toNat_lt;have HX:=hid hx;clear hx;generalize fpSum (bs.take k)=sm at *; generalize hs':fpSum (bs.take (k+1))=sm' at *; have HS:=hid hs';clear hs';have hm:=fun w=>rmul_any sm 747382712868975713 w HF.out (by omega);have hmt:sm*747382712868975713 % pP<pP:=Nat.mod_lt _ pP_pos;generalize sm*747382712868975713 % pP=t at *; have ha:=fun w=>rplus_any t (x.toNat+1) w (by unfold pP at hmt;omega) (by omega);rw [HT.out] at ha;simp only [Int.natCast_add,Int.natCast_one] at ha;have HM:Hid (∀ w,Calls Tryz.prog 187 #[.int .u64 ((sm:Nat):Int),.int .u64 747382712868975713] w fun e w'=>e= .returned (.int .u64 ((t:Nat):Int))/\w'=w):=fun w=>(hm w).mono fun _ _ h=>⟨h.1,h.2.symm⟩;have HA:Hid (∀ w,Calls Tryz.prog 186 #[.int .u64 ((t:Nat):Int),.int .u64 (((x.toNat:Nat):Int)+1)] w fun e w'=>e= .returned (.int .u64 ((sm':Nat):Int))/\w'=w):=fun w=>(ha w).mono fun _ _ h=>⟨h.1,h.2.symm⟩;clear hm ha hmt;go_wp2_with fail
    go_quiet ((first | (go_at_call 187;exact Calls.quiet_of_same (HM.out _)) | (go_at_call 186;exact Calls.quiet_of_same (HA.out _))))
    go_wp2_with fail
    go_roundw
    case rel=>exact ⟨k+1,by omega,by go_num,by rw [HS.out],bdrewN HB.out _⟩
    simp [intOf];omega
 obtain rfl:k=bs.length:=by omega
 rw [List.take_length];go_wp2_with fail
 go_ret;exact ⟨rfl,HB.out⟩
theorem rOf_any (A:Option Addr) (c:Nat) (bs:List UInt8) (w:World) (h:RS w A bs) (hn:bs.length<=1099511627776):Calls Tryz.prog 94 #[.slice A bs.length c] w fun e w'=>e= .returned (.agg #[.int .u64 (fpOf bs).1,.int .i64 (fpOf bs).2])/\Below w.heap.size w w':=by
 have H:=hid (fun W (hW:RS W A bs)=>rSum_any A c bs W hW hn);have H1:=hid (h.on ((Below.refl _ w).alloc (zB _) (.cells #[.int .u64 0,.int .i64 0] 31)));have B1:Hid (IsB (w.alloc (.cells #[.int .u64 0,.int .i64 0] 31)) w.heap.size 31 #[.int .u64 0,.int .i64 0]):=IsB.new _ _ _;clear h;simp only [fpOf];generalize fpSum bs=sm at *; go_enter Tryz.func94,Tryz.ntmps94;go_wp2_with (go_at_call 148;refine (H.out _ H1.out).mono ?_;rintro e w' ⟨rfl,hb⟩;have HB:=hid hb;have hc0:=(B1.out.on hb).cell 0;have hc1:=(B1.out.on hb).cell 1;have hf0:=(B1.out.on hb).frozen 0;have hf1:=(B1.out.on hb).frozen 1;clear hb)
 refine bodyPost_ret (v:=.agg #[.int .u64 ((sm:Nat):Int),.int .i64 ((bs.length:Nat):Int)]) ?_ rfl ⟨rfl,?_⟩
 · simp [results,Tryz.results94,go_sem,hc0,hc1]
 exact ((((Below.refl _ w).alloc (zB _) _).trans (HB.out.mono (by simp))).setCell (p:=⟨w.heap.size,0,none⟩) (zB _) _).setCell (p:=⟨w.heap.size,1,none⟩) (zB _) _
end
section
open Go.RowKit Go.MapKept Go.ChangeMaps Go.Shelf Go.Sort
attribute [local go_sem] wext_cell
def RowV (w:World) (t:TypeId) (sz:Nat) (A:Option Addr) (n:Nat) (xs:List Value):Prop:=
 xs.length=n*sz/\(n=0∨∃ g cur,A=some ⟨g,0,none⟩/\IsB w g t cur/\cur.toList.take (n*sz)=xs)
section
variable {w w':World} {t:TypeId} {sz:Nat} {A:Option Addr} {n:Nat} {xs:List Value}
theorem RowV.same (h:RowV w t sz A n xs) (hk:∀ i,0<n->A=some ⟨i,0,none⟩->w'.heap[i]? =w.heap[i]?):RowV w' t sz A n xs:=by
 refine ⟨h.1,?_⟩;rcases h.2 with h2 | ⟨g,cur,e,hi,hx⟩
 · exact .inl h2
 by_cases hn:n=0
 · exact .inl hn
 exact .inr ⟨g,cur,e,(hk g (by omega) e).trans hi,hx⟩
theorem RowV.lt (h:RowV w t sz A n xs) {i:Nat} (hn:0<n) (e:A=some ⟨i,0,none⟩):i<w.heap.size:=by
 rcases h.2 with h2 | ⟨g,cur,e2,hi,_⟩
 · omega
 rw [e] at e2;injection e2 with e2;injection e2 with e2;rw [e2];exact hi.lt
theorem RowV.at (h:RowV w t sz A n xs) (hn:0<n):∃ g,A=some ⟨g,0,none⟩/\g<w.heap.size/\∀ j,j<n*sz->w.cell? ⟨g,j,none⟩=xs[j]? :=by
 rcases h.2 with h2 | ⟨g,cur,e2,hi,hx⟩
 · omega
 refine ⟨g,e2,hi.lt,fun j hj=>?_⟩;rw [hi.cell, <- hx,List.getElem?_take_of_lt hj,Array.getElem?_toList]
theorem RowV.of_own {c:Nat} (h:w.ownsRow 0 t sz (.slice A n c) n xs):RowV w t sz A n xs/\n<=c:=by
 refine ⟨⟨h.1,?_⟩,?_⟩
 · rcases h.2 with ⟨hv,h2⟩ | ⟨g,cap,cur,hv,_,hh,hc1,hcs,hcs2,htk⟩
   · exact .inl h2
   injection hv with e1 e2 e3;exact .inr ⟨g,cur,e1,hh,htk⟩
 rcases h.2 with ⟨hv,h2⟩ | ⟨g,cap,cur,hv,_,hh,hc1,hcs,hcs2,htk⟩
 · omega
 injection hv with e1 e2 e3;omega
end
theorem SW.start {w:World} {o:Ob} (h:o.holds w) (ho:∀ i,¬ o.own i) (hr:∀ i,o.rd i->i<w.heap.size):SW w.heap.size w [o] w:=
 (SW.refl (Sep.nil w (zB _))).also h ho hr (fun _ _ y hy=>by cases hy)
theorem SW.fuse {b:Nat} {w0 w:World} {pre t:List Ob} {o':Ob} (h:SW b w0 (pre++t) w) (hh:o'.holds w) (ho:∀ i,¬ o'.own i) (hr:∀ i,o'.rd i->∃ o∈pre,o.own i∨o.rd i):SW b w0 (o'::t) w:=by
 obtain ⟨_,hpt,hap⟩:=List.pairwise_append.1 h.1.apart;refine ⟨⟨h.1.base,fun y hy=>?_,fun y hy i hi=>?_,fun y hy i hi=>?_,List.pairwise_cons.2 ⟨fun y hy=>⟨fun i hi=>absurd hi (ho i),fun i hi hr'=>?_⟩,hpt⟩⟩,h.2⟩
 · rcases List.mem_cons.1 hy with rfl | hy
   · exact hh
   exact h.1.holds y (List.mem_append_right _ hy)
 · rcases List.mem_cons.1 hy with rfl | hy
   · exact absurd hi (ho i)
   exact h.1.own y (List.mem_append_right _ hy) i hi
 · rcases List.mem_cons.1 hy with rfl | hy
   · obtain ⟨o,hm,h1 | h1⟩:=hr i hi
     · exact (h.1.own o (List.mem_append_left _ hm) i h1).2
     exact h.1.rd o (List.mem_append_left _ hm) i h1
   exact h.1.rd y (List.mem_append_right _ hy) i hi
 obtain ⟨o,hm,h1 | h1⟩:=hr i hr'
 · exact ((hap o hm y hy).1 i h1).1 hi
 exact (hap o hm y hy).2 i hi h1
end
end Go.Proofs.YteabgcollokgjaaGreatDoor
