/- Q -/
import Derived.Test.YteabgcollokgjaaGreatDoorQP06
import Derived.DeepKeys4
import Derived.WalkArith
import Derived.Sort.Walk0
import Derived.Shelf.SlSortCmp.Insertion
import Derived.Lib.Small
import Derived.Shelf.Small.Bits
import Derived.Shelf.Strconv.Itoa0
import Derived.Shelf.Bits.Mul64
import Derived.Shelf.Small.Wraps
import Derived.Shelf.Strconv.Itoa1
import Derived.Shelf.LaysM
import Derived.Shelf.Strconv.Itoa2
import Derived.Shelf.Strconv.Itoa3
import Derived.Shelf.Sort.Plain
import Derived.Shelf.Strings.Prefix
import Derived.Shelf.Slices.Turned
import Derived.Shelf.Slices.In.SortNone
import Derived.Shelf.Bytes.SlSmallAll
import Derived.Shelf.Bytes.SlEqualAll
import Derived.Shelf.Bytes.Small
import Derived.Shelf.SlSortCmp.NoneTotal
import Derived.Shelf.SlicesE.Clone
import Derived.Ground.SlsfProg
import Derived.Ground.SlgnProg
import Derived.Ground.NamesProg
import Derived.Shelf.SlGeneric
set_option linter.unusedSimpArgs false
set_option linter.unusedVariables false
set_option maxRecDepth 100000
set_option maxHeartbeats 32000000
namespace Go.Proofs.YteabgcollokgjaaGreatDoor
section
open Go.RowKit Go.MapKept Go.ChangeMaps
open Go.Maps (Keyed)
abbrev vID (i:ID):Value:=.agg #[.int .u64 i.1,.int .i64 i.2]
def encID (i:ID):List Value:=[.int .u64 i.1,.int .i64 i.2]
def okID (i:ID):Prop:=(Lit.int .u64 i.1).wf=true/\(Lit.int .i64 i.2).wf=true
theorem laidOutC:laidOutB Tryz.prog=true:=by kernel_rfl
theorem row31:(31:TypeId)<Tryz.prog.types.size:=of_decide_eq_true (by kernel_rfl)
theorem kta31:Tryz.prog.keyTypeAt 2 31=true:=by kernel_rfl
theorem keyed31:Keyed Tryz.prog 31:=Keyed.of_law (deep_law_laid laidOutC (m:=2) (by omega) row31 kta31 (by rw [Tryz.underlying31]))
theorem typesC:∃ m,Tryz.prog.types.size=m+1:=⟨Tryz.prog.types.size-1,by have h:(31:Nat)<Tryz.prog.types.size:=row31;omega⟩
theorem kt31:Tryz.prog.keyType 31=true:=by kernel_rfl
theorem cellsOf31:Tryz.prog.cellsOf 31=2:=by kernel_rfl
theorem cellsOf29:Tryz.prog.cellsOf 29=1:=by kernel_rfl
theorem cellsOf3:Tryz.prog.cellsOf 3=1:=by kernel_rfl
theorem keyOf31 (i:ID) (h:okID i):keyOf Tryz.prog 31 (vID i)=some (.string (keyBytes [.int .u64 i.1,.int .i64 i.2])):=by
 obtain ⟨wa,wb⟩:=h;obtain ⟨m,hm⟩:=typesC;have hkt:=kt31;unfold keyOf;simp only [Tryz.underlying31];rw [if_pos (by simp [hkt,Value.formed,Tryz.underlying31,cellsOf31]),hm];unfold Program.keyLits;simp only [Tryz.underlying31,Value.cells];rw [if_pos (by rw [cellsOf31];exact ⟨rfl,by simp⟩)];simp [cellsOf29,cellsOf3,Program.keyLits,Tryz.underlying29,Tryz.underlying3,wa,wb]
theorem mkI:MK Tryz.prog 31 okID vID:=⟨keyed31,fun i h=>⟨_,keyOf31 i h⟩,fun a b h=>by
 simp [vID] at h;exact Prod.ext h.1 h.2⟩
abbrev vN (n:Int):Value:=.int .i64 n
def okN (n:Int):Prop:=(Lit.int .i64 n).wf=true
theorem mkN:MK Tryz.prog 3 okN vN:=⟨Maps.int_keyed Tryz.underlying3,fun n h=>⟨.int .i64 n,by simp only [okN] at h;simp [keyOf,Tryz.underlying3,mapKey,h]⟩,fun a b h=>by injection h⟩
theorem okID_of {i:ID} (h0:0<=i.1) (h1:i.1<18446744073709551616) (h2: -9223372036854775808<=i.2) (h3:i.2<=9223372036854775807):okID i:=by
 exact ⟨WalkArith.wf_u64 ⟨h0,by omega⟩,WalkArith.wf_i64 ⟨h2,h3⟩⟩
theorem okID_fp (bs:List UInt8) (h:bs.length<=9223372036854775807):okID (fpOf bs):=by
 have:=fpSum_lt bs;unfold pP at this;exact okID_of (by simp [fpOf]) (by simp only [fpOf];omega) (by simp only [fpOf];omega) (by simp only [fpOf];omega)
inductive Pl where
 | pend (d:BD) (bs:List UInt8)
 | at (o:Nat)
def Pl.A:Pl->Option Addr | .pend d _=>d.A | .at _=>none
def Pl.len:Pl->Nat | .pend d _=>d.len | .at _=>0
def Pl.cap:Pl->Nat | .pend d _=>d.cap | .at _=>0
def Pl.f:Pl->Int | .pend _ _=>0 | .at _=>1
def Pl.o:Pl->Int | .pend _ _=>0 | .at o=>o
def Pl.isP:Pl->Bool | .pend _ _=>true | .at _=>false
abbrev vPl (p:Pl):Value:=.agg #[.slice p.A p.len p.cap,.int .i64 p.f,.int .i64 p.o]
abbrev Chs:=List (ID×Pl)
def chOb (cm:Nat) (C:Chs):Ob where
 own:=fun i=>i=cm
 rd:=fun i=>∃ id d bs,(id,Pl.pend d bs)∈C/\blk d=some i
 holds:=fun w=>MapIs okID vID vPl w cm C/\∀ id d bs,(id,Pl.pend d bs)∈C->RB w d bs/\0<bs.length
 stable:=fun w w' h hs hk=>⟨h.1.same (hk cm (.inl rfl)),fun id d bs hm=>by
  have h1:=h.2 id d bs hm;have hc:Ch w w' (fun i=>¬ blk d=some i) []:=⟨hs.1,hs.2.1,hs.2.2.1,hs.2.2.2,fun i _ hn _=>hk i (.inr ⟨id,d,bs,hm,Classical.not_not.1 hn⟩),by simp⟩;exact ⟨h1.1.ch hc (fun g hg hn=>hn hg) (by simp),h1.2⟩⟩
structure FR where
 fb:Nat
 sb:Nat
 len:Nat
 clean:Bool
 T:List (ID×Bool)
abbrev vPtr (g:Nat):Value:=.pointer (some ⟨g,0,none⟩)
abbrev vBl (b:Bool):Value:=.bool b
abbrev FR.cells (f:FR):Array Value:= #[.int .i64 f.len,.bool f.clean,.map (some f.sb)]
def fL (F:Option FR):List (Int×Nat):=match F with | none=>[] | some f=>[(1,f.fb)]
def flOb (fm:Nat) (F:Option FR):Ob where
 own:=fun i=>i=fm∨∃ f,F=some f/\(i=f.fb∨i=f.sb)
 rd:=fun _=>False
 holds:=fun w=>MapIs okN vN vPtr w fm (fL F)/\∀ f,F=some f->IsB w f.fb 145 f.cells/\MapIs okID vID vBl w f.sb f.T/\f.sb≠fm
 stable:=fun w w' h hs hk=>⟨h.1.same (hk fm (.inl (.inl rfl))),fun f hf=>by
  obtain ⟨h1,h2,h3⟩:=h.2 f hf;exact ⟨(hk f.fb (.inl (.inr ⟨f,hf,.inl rfl⟩))).trans h1,h2.same (hk f.sb (.inl (.inr ⟨f,hf,.inr rfl⟩))),h3⟩⟩
structure SR where
 p:Nat
 ps:Nat
 cm:Nat
 fm:Nat
 r:Rp
 s:St
 nm:ByteArray
 C:Chs
 F:Option FR
 wait:Int
 bytes:Int
 dead:Bool
abbrev SR.cells (x:SR):Array Value:= #[.pointer (some ⟨x.p,0,none⟩),.string x.nm,.map (some x.cm),.map (some x.fm),.int .i64 x.wait,.int .i64 x.bytes,.bool x.dead]
abbrev SR.obs (x:SR) (l:List Ob):List Ob:=devOb x.p x.r x.s::cellOb x.ps 131 x.cells::chOb x.cm x.C::flOb x.fm x.F::l
abbrev Sto (b:Nat) (w:World) (x:SR) (l:List Ob):Prop:=Sep b w (x.obs l)
section
variable {b:Nat} {w:World} {x:SR} {l:List Ob}
theorem Sep.sdv (h:Sto b w x l):DV w x.p x.r x.s:=h.get (k:=0) rfl
theorem Sep.scell (h:Sto b w x l):IsB w x.ps 131 x.cells:=h.get (k:=1) (o:=cellOb x.ps 131 x.cells) rfl
theorem Sep.sch (h:Sto b w x l):MapIs okID vID vPl w x.cm x.C:=(h.get (k:=2) (o:=chOb x.cm x.C) rfl).1
theorem Sep.spend (h:Sto b w x l) {id:ID} {d:BD} {bs:List UInt8} (hm:(id,Pl.pend d bs)∈x.C):RB w d bs/\0<bs.length:=(h.get (k:=2) (o:=chOb x.cm x.C) rfl).2 id d bs hm
theorem Sep.sfl (h:Sto b w x l):MapIs okN vN vPtr w x.fm (fL x.F):=(h.get (k:=3) (o:=flOb x.fm x.F) rfl).1
theorem Sep.sfile (h:Sto b w x l) {f:FR} (hf:x.F=some f):IsB w f.fb 145 f.cells/\MapIs okID vID vBl w f.sb f.T/\f.sb≠x.fm:=(h.get (k:=3) (o:=flOb x.fm x.F) rfl).2 f hf
end
end
section
open Go.RowKit Go.MapKept Go.ChangeMaps
section
variable {b:Nat} {w:World} {x:SR} {l:List Ob}
theorem Pending_any (h:Sto b w x l):Calls Tryz.prog 29 #[vPtr x.ps] w (fun e w'=>e= .returned (.int .i64 x.wait)/\w=w'):=by
 have k4:w.cell? ⟨x.ps,4,none⟩=some (.int .i64 x.wait):=h.scell.cell 4;clear h;go_enter Tryz.func29,Tryz.ntmps29;go_wp2_with fail
 go_ret;exact ⟨rfl,rfl⟩
theorem Dead_any (h:Sto b w x l):Calls Tryz.prog 47 #[vPtr x.ps] w (fun e w'=>e= .returned (.bool x.dead)/\w=w'):=by
 have k6:w.cell? ⟨x.ps,6,none⟩=some (.bool x.dead):=h.scell.cell 6;clear h;go_enter Tryz.func47,Tryz.ntmps47;go_wp2_with fail
 go_ret;exact ⟨rfl,rfl⟩
end
end
section
open Go.RowKit Go.Shelf Go.Sort
attribute [local go_sem] wext_cell
def Gives (v:Value) (w:World) (e:Ending) (w':World):Prop:=e= .returned v/\Below w.heap.size w w'
theorem encID_len (i:ID):(encID i).length=2:=rfl
theorem encID_one (i:ID):∀ u∈encID i,u.oneCell'=true:=by
 intro u hu;simp [encID] at hu;rcases hu with rfl | rfl<;>rfl
theorem info31:(Tryz.prog.info? 31).map (fun i=>(i.zero,i.size,i.bytes))=some (some (.agg #[.int .u64 0,.int .i64 0]),2,16):=by kernel_rfl
def orI (a b:Int):Int:=if a=0 then b else a
theorem nan65 (x:Int) (w:World):Calls Tryz.prog 210 #[.int .u64 x] w fun e w'=>e= .returned (.bool false)/\w'=w:=by
 go_enter Tryz.func210,Tryz.ntmps210;go_wp2
 go_ret;exact ⟨by simp,rfl⟩
theorem cmpU_any (x y:Int) (w:World):Calls Tryz.prog 158 #[.int .u64 x,.int .u64 y] w fun e w'=>e= .returned (.int .i64 (Lib.compareInt x y))/\w'=w:=by
 go_enter Tryz.func158,Tryz.ntmps158;go_wp2_with (go_at_call 210;refine (nan65 _ _).mono ?_;rintro e w' ⟨rfl,hw⟩;rw [hw])
 all_goals (go_ret;refine ⟨?_,rfl⟩;unfold Lib.compareInt;(repeat' split)<;>first | rfl | (exfalso;omega))
theorem nan66 (x:Int) (w:World):Calls Tryz.prog 200 #[.int .i64 x] w fun e w'=>e= .returned (.bool false)/\w'=w:=by
 go_enter Tryz.func200,Tryz.ntmps200;go_wp2
 go_ret;exact ⟨by simp,rfl⟩
theorem cmpI_any (x y:Int) (w:World):Calls Tryz.prog 154 #[.int .i64 x,.int .i64 y] w fun e w'=>e= .returned (.int .i64 (Lib.compareInt x y))/\w'=w:=by
 go_enter Tryz.func154,Tryz.ntmps154;go_wp2_with (go_at_call 200;refine (nan66 _ _).mono ?_;rintro e w' ⟨rfl,hw⟩;rw [hw])
 all_goals (go_ret;refine ⟨?_,rfl⟩;unfold Lib.compareInt;(repeat' split)<;>first | rfl | (exfalso;omega))
theorem Or_two (g:Nat) (a b:Int) (w:World) (h0:w.cell? ⟨g,0,none⟩=some (.int .i64 a)) (h1:w.cell? ⟨g,1,none⟩=some (.int .i64 b)):
 Calls Tryz.prog 157 #[.slice (some ⟨g,0,none⟩) 2 2] w fun e w'=>e= .returned (.int .i64 (orI a b))/\w=w':=by
 obtain ⟨r,Hr⟩:∃ r,Hid (orI a b=r):=⟨_,rfl⟩;rw [Hr.out];go_enter Tryz.func157,Tryz.ntmps157;go_wp2
 go_loop [8] (fun i=>∃ k:Nat,k<=2/\i= .int .i64 k/\Hid (0<k->a=0)/\Hid (1<k->b=0)) (fun i=>2-(intOf i).toNat)
 case atStart=>exact ⟨0,by omega,rfl,fun h=>absurd h (by omega),fun h=>absurd h (by omega)⟩
 obtain ⟨k,hk,rfl,HA,HB⟩:=hrel;by_cases hk0:k=0
 · have hc:w.cell? ⟨g,k,none⟩=some (.int .i64 a):=by rw [hk0];exact h0
   have Hk:=Lib.hid hk0;have hk2:k<2:=by omega
   clear h0 h1 hk0;by_cases ha:a=0
   · have hb':(a !=0)=false:=by simp [ha]
     have Ha:=Lib.hid ha;clear ha;go_wp2
     go_round
     case rel=>exact ⟨k+1,by omega,by go_num,fun _=>Ha.out,fun h=>absurd h (by have:=Hk.out;omega)⟩
     simp [intOf];omega
   have hb':(a !=0)=true:=by simp [ha]
   have hr:r=a:=by rw [<- Hr.out,orI,if_neg ha]
   subst hr;clear ha;go_wp2
   go_ret;exact ⟨rfl,rfl⟩
 by_cases hk1:k=1
 · have hc:w.cell? ⟨g,k,none⟩=some (.int .i64 b):=by rw [hk1];exact h1
   have Hk:=Lib.hid hk1;have hk2:k<2:=by omega
   have hr:r=b:=by rw [<- Hr.out,orI,if_pos (HA.out (by omega))]
   subst hr;clear h0 h1 hk0 hk1;by_cases hb:r=0
   · have hb':(r !=0)=false:=by simp [hb]
     have Hb:=Lib.hid hb;clear hb;go_wp2
     go_round
     case rel=>exact ⟨k+1,by omega,by go_num,fun _=>HA.out (by have:=Hk.out;omega),fun _=>Hb.out⟩
     simp [intOf];omega
   have hb':(r !=0)=true:=by simp [hb]
   clear hb;go_wp2
   go_ret;exact ⟨rfl,rfl⟩
 have hk2:¬ k<2:=by omega
 have hr:r=0:=by rw [<- Hr.out,orI,if_pos (HA.out (by omega)),HB.out (by omega)]
 subst hr;go_wp2
 go_ret;exact ⟨rfl,rfl⟩
def cmpID (x y:ID):Int:=orI (Lib.compareInt x.1 y.1) (Lib.compareInt x.2 y.2)
theorem grow4 (W:World) (a b c d:Obj) (q:Nat):((((W.alloc a).alloc b).alloc c).drewN q).alloc d=grow (W.drewN q) #[a,b,c,d]:=by
 show (((((W.drewN q).alloc a).alloc b).alloc c).alloc d)=grow (W.drewN q) #[a,b,c,d];rw [alloc_eq_grow,alloc_eq_grow,alloc_eq_grow,alloc_eq_grow,grow_grow,grow_grow,grow_grow];rfl
theorem asc_grow (x1 x2 y1 y2:Int) (W:World):Calls Tryz.prog 104 #[.agg #[],.agg #[.int .u64 x1,.int .i64 x2],.agg #[.int .u64 y1,.int .i64 y2]] W fun e w'=>e= .returned (.int .i64 (cmpID (x1,x2) (y1,y2)))/\∃ q os',w'=grow (W.drewN q) os':=by
 have hcon1:=fun W'=>cmpU_any x1 y1 W';have hcon2:=fun W'=>cmpI_any x2 y2 W';obtain ⟨r,Hr⟩:∃ r,Hid (cmpID (x1,x2) (y1,y2)=r):=⟨_,rfl⟩;have Hr2:Hid (orI (Lib.compareInt x1 y1) (Lib.compareInt x2 y2)=r):=Hr;rw [Hr.out];generalize Lib.compareInt x1 y1=c1 at hcon1 Hr2;generalize Lib.compareInt x2 y2=c2 at hcon2 Hr2;have H1:=Lib.hid hcon1;have H2:=Lib.hid hcon2;clear hcon1 hcon2;go_enter Tryz.func104,Tryz.ntmps104;go_wp2_with fail
 refine wp_region_draw_tail 10 (by kernel_rfl) (by kernel_rfl) ?_;simp only [List.take_succ_cons,List.take_zero,List.drop_succ_cons,List.drop_zero];repeat (go_big_quiet_step ((first | (go_at_call 158;exact Calls.quiet_of_same (H1.out _)) | (go_at_call 154;exact Calls.quiet_of_same (H2.out _)))))
 refine wpQuiet_nil ?_;intro q2;go_wp2_with (go_at_call 157;refine (Or_two _ c1 c2 _ ?c1 ?c2).mono ?_)
 case c1=>exact new_cell _ _ _ _ (by simp) 0
 case c2=>exact new_cell _ _ _ _ (by simp) 1
 rintro e w' ⟨rfl,rfl⟩;rw [Hr2.out];go_wp2
 go_ret;exact ⟨rfl,q2,_,grow4 W _ _ _ _ q2⟩
theorem below_grow (W:World) (q:Nat) (os:Array Obj):Below W.heap.size W (grow (W.drewN q) os):=
 ⟨rfl,rfl,rfl,by simp [grow],fun k hk=>heap_grow_old _ _ hk⟩
def ltID (x y:ID):Bool:=decide (x.1<y.1∨x.1=y.1/\x.2<y.2)
theorem lt_cmpID (x y:ID):ltOf cmpID x y=ltID x y:=by
 unfold ltOf cmpID orI Lib.compareInt ltID;by_cases h1:x.1<y.1
 · simp [h1]
 by_cases h2:y.1<x.1
 · have:¬ x.1=y.1:=by omega
   simp [h1,h2,this]
 have:x.1=y.1:=by omega
 by_cases h3:x.2<y.2
 · simp [this,h3]
 by_cases h4:y.2<x.2<;>simp [this,h3,h4]
theorem Less_any (x1 x2 y1 y2:Int) (w:World):Calls Tryz.prog 149 #[.agg #[.int .u64 x1,.int .i64 x2],.agg #[.int .u64 y1,.int .i64 y2]] w (Gives (.bool (ltID (x1,x2) (y1,y2))) w):=by
 have fin:∀ b:Bool,ltID (x1,x2) (y1,y2)=b->∀ W,W=(w.alloc (.cells #[.int .u64 x1,.int .i64 x2] 31)).alloc (.cells #[.int .u64 y1,.int .i64 y2] 31)->Gives (.bool (ltID (x1,x2) (y1,y2))) w (.returned (.bool b)) W:=by
  rintro b h W rfl;exact ⟨by rw [h],(bel1 _ _).alloc (by simp) _⟩
 by_cases h1:x1<y1
 · go_enter Tryz.func149,Tryz.ntmps149;go_wp2_with fail
   go_ret;exact fin _ (by simp [ltID];omega) _ rfl
 by_cases h2:x1=y1
 · subst h2;by_cases h3:x2<y2
   · have V:Hid (ltID (x1,x2) (x1,y2)=true):=by simp [Hid,ltID];omega
     go_enter Tryz.func149,Tryz.ntmps149;go_wp2_with fail
     go_ret;exact fin _ V.out _ rfl
   have V:Hid (ltID (x1,x2) (x1,y2)=false):=by simp [Hid,ltID];omega
   go_enter Tryz.func149,Tryz.ntmps149;go_wp2_with fail
   go_ret;exact fin _ V.out _ rfl
 have hb:(x1==y1)=false:=by rw [beq_eq_false_iff_ne];exact h2
 have V:Hid (ltID (x1,x2) (y1,y2)=false):=by simp [Hid,ltID];omega
 go_enter Tryz.func149,Tryz.ntmps149;go_wp2_with fail
 go_ret;exact fin _ V.out _ rfl
theorem swoID:SWO (ltOf cmpID) where
 irrefl x:=by rw [lt_cmpID];simp [ltID]
 trans x y z h1 h2:=by rw [lt_cmpID] at *; simp [ltID] at *; omega
 ntrans x y z h1 h2:=by rw [lt_cmpID] at *; simp [ltID] at *; omega
end
end Go.Proofs.YteabgcollokgjaaGreatDoor
namespace Go.Proofs
section
open Go.Shelf
def Tryz.lays125_ren:Go.Shelf.Ren:=⟨fun | 125=>151 | 128=>197 | 129=>198 | n=>n,fun | 46=>230 | 3=>3 | 51=>276 | 53=>29 | 4=>4 | 5=>5 | 9=>9 | n=>n,fun | n=>n⟩
theorem Tryz.lays125:Go.Proofs.Lays.n125 Tryz.prog Tryz.lays125_ren:={
 mixed:=by kernel_rfl
 f125:=Tryz.func151.trans (congrArg some (by kernel_rfl))
 f128:=Tryz.func197.trans (congrArg some (by kernel_rfl))
 f129:=Tryz.func198.trans (congrArg some (by kernel_rfl))
 t3:=Tryz.underlying3
 a3:=Tryz.isAgg3
 z3:=Tryz.sizeOf3
 v3:=Tryz.zeroValue3
 t4:=Tryz.underlying4
 a4:=Tryz.isAgg4
 z4:=Tryz.sizeOf4
 v4:=Tryz.zeroValue4
 t5:=Tryz.underlying5
 a5:=Tryz.isAgg5
 z5:=Tryz.sizeOf5
 v5:=Tryz.zeroValue5
 t9:=Tryz.underlying9
 a9:=Tryz.isAgg9
 z9:=Tryz.sizeOf9
 v9:=Tryz.zeroValue9
 t46:=Tryz.underlying230
 a46:=Tryz.isAgg230
 z46:=Tryz.sizeOf230
 v46:=Tryz.zeroValue230
 t51:=Tryz.underlying276
 a51:=Tryz.isAgg276
 z51:=Tryz.sizeOf276
 v51:=Tryz.zeroValue276
 t53:=Tryz.underlying29
 a53:=Tryz.isAgg29
 z53:=Tryz.sizeOf29
 v53:=Tryz.zeroValue29 }
theorem Tryz.bits_Len (x:Int) (w:World) (h0:0<=x) (h1:x<=18446744073709551615):
 Calls Tryz.prog 151 #[.int .u64 x] w fun e w'=>e= .returned (.int .i64 (Lib.bitLen x.toNat))/\w'=w:=Any.bits_Len Tryz.lays125 x w h0 h1
def Tryz.lays264_ren:Go.Shelf.Ren:=⟨fun | 264=>185 | n=>n,fun | 53=>29 | 46=>230 | n=>n,fun | n=>n⟩
theorem Tryz.lays264:Go.Proofs.Lays.n264 Tryz.prog Tryz.lays264_ren:={
 mixed:=by kernel_rfl
 f264:=Tryz.func185.trans (congrArg some (by kernel_rfl))
 t46:=Tryz.underlying230
 a46:=Tryz.isAgg230
 z46:=Tryz.sizeOf230
 v46:=Tryz.zeroValue230
 t53:=Tryz.underlying29
 a53:=Tryz.isAgg29
 z53:=Tryz.sizeOf29
 v53:=Tryz.zeroValue29 }
open Go.RowKit Go.Lib in
theorem Tryz.bits_Mul64 (x y:Nat) (hx:x<18446744073709551616) (hy:y<18446744073709551616) (w:World):
 Calls Tryz.prog 185 #[.int .u64 x,.int .u64 y] w fun e w'=>e= .returned (.tuple #[.int .u64 ((x*y / 18446744073709551616:Nat):Int),.int .u64 ((x*y % 18446744073709551616:Nat):Int)])/\w'=w:=Any.bits_Mul64 Tryz.lays264 x y hx hy w
def Tryz.lays103_ren:Go.Shelf.Ren:=⟨fun | 103=>131 | 210=>172 | 206=>216 | n=>n,fun | 9=>9 | 4=>4 | 24=>204 | 3=>3 | n=>n,fun | n=>n⟩
theorem Tryz.lays103:Go.Proofs.Lays.n103 Tryz.prog Tryz.lays103_ren:={
 mixed:=by kernel_rfl
 f103:=Tryz.func131.trans (congrArg some (by kernel_rfl))
 f206:=Tryz.func216.trans (congrArg some (by kernel_rfl))
 f210:=Tryz.func172.trans (congrArg some (by kernel_rfl))
 t3:=Tryz.underlying3
 a3:=Tryz.isAgg3
 z3:=Tryz.sizeOf3
 v3:=Tryz.zeroValue3
 t4:=Tryz.underlying4
 a4:=Tryz.isAgg4
 z4:=Tryz.sizeOf4
 v4:=Tryz.zeroValue4
 t9:=Tryz.underlying9
 a9:=Tryz.isAgg9
 z9:=Tryz.sizeOf9
 v9:=Tryz.zeroValue9
 t24:=Tryz.underlying204
 a24:=Tryz.isAgg204
 z24:=Tryz.sizeOf204
 v24:=Tryz.zeroValue204 }
open Go.RowKit in
theorem Tryz.strings_CutPrefix (s p:ByteArray) (w:World):
 Calls Tryz.prog 131 #[.string s,.string p] w fun e w'=>e= .returned (.tuple #[.string ⟨(Lib.trimPrefix s.data.toList p.data.toList).toArray⟩,.bool (Lib.hasPrefix s.data.toList p.data.toList)])/\w'=w:=Any.strings_CutPrefix Tryz.lays103 s p w
def Tryz.laysM246_ren:Go.Shelf.Ren:=⟨fun | 246=>256 | 283=>286 | 284=>287 | 285=>288 | 286=>289 | 129=>198 | 317=>302 | 318=>303 | 319=>304 | 320=>305 | 337=>310 | 338=>311 | n=>n,fun | 2=>2 | 3=>3 | 9=>9 | 4=>4 | 171=>353 | 0=>0 | 53=>29 | 37=>34 | 5=>5 | 173=>355 | 212=>372 | 51=>276 | 20=>20 | 213=>373 | 46=>230 | 232=>375 | 233=>359 | n=>n,fun | 17=>2 | 18=>3 | 19=>4 | n=>n⟩
def Tryz.laysM243_ren:Go.Shelf.Ren:=⟨fun | 243=>201 | 246=>256 | 283=>286 | 284=>287 | 285=>288 | 286=>289 | 129=>198 | 317=>302 | 318=>303 | 319=>304 | 320=>305 | 337=>310 | 338=>311 | n=>n,fun | 3=>3 | 9=>9 | 2=>2 | 4=>4 | 171=>353 | 0=>0 | 53=>29 | 37=>34 | 5=>5 | 173=>355 | 212=>372 | 51=>276 | 20=>20 | 213=>373 | 46=>230 | 232=>375 | 233=>359 | n=>n,fun | 17=>2 | 18=>3 | 19=>4 | n=>n⟩
def Tryz.laysM171_ren:Go.Shelf.Ren:=⟨fun | 171=>155 | 243=>201 | 246=>256 | 283=>286 | 284=>287 | 285=>288 | 286=>289 | 129=>198 | 317=>302 | 318=>303 | 319=>304 | 320=>305 | 337=>310 | 338=>311 | n=>n,fun | 3=>3 | 9=>9 | 2=>2 | 4=>4 | 171=>353 | 0=>0 | 53=>29 | 37=>34 | 5=>5 | 173=>355 | 212=>372 | 51=>276 | 20=>20 | 213=>373 | 46=>230 | 232=>375 | 233=>359 | n=>n,fun | 17=>2 | 18=>3 | 19=>4 | n=>n⟩
def Tryz.lays171_ren:Go.Shelf.Ren:=⟨fun | 171=>155 | 243=>201 | 246=>256 | 283=>286 | 284=>287 | 285=>288 | 286=>289 | 129=>198 | 317=>302 | 318=>303 | 319=>304 | 320=>305 | 337=>310 | 338=>311 | n=>n,fun | 3=>3 | 9=>9 | 2=>2 | 4=>4 | 171=>353 | 0=>0 | 53=>29 | 37=>34 | 5=>5 | 173=>355 | 212=>372 | 51=>276 | 20=>20 | 213=>373 | 46=>230 | 232=>375 | 233=>359 | n=>n,fun | 17=>2 | 18=>3 | 19=>4 | n=>n⟩
theorem Tryz.lays171:Go.Proofs.Lays.n171 Tryz.prog Tryz.lays171_ren:={
 mixed:=by kernel_rfl
 f129:=Tryz.func198.trans (congrArg some (by kernel_rfl))
 f171:=Tryz.func155.trans (congrArg some (by kernel_rfl))
 f243:=Tryz.func201.trans (congrArg some (by kernel_rfl))
 f246:=Tryz.func256.trans (congrArg some (by kernel_rfl))
 f283:=Tryz.func286.trans (congrArg some (by kernel_rfl))
 f284:=Tryz.func287.trans (congrArg some (by kernel_rfl))
 f285:=Tryz.func288.trans (congrArg some (by kernel_rfl))
 f286:=Tryz.func289.trans (congrArg some (by kernel_rfl))
 f317:=Tryz.func302.trans (congrArg some (by kernel_rfl))
 f318:=Tryz.func303.trans (congrArg some (by kernel_rfl))
 f319:=Tryz.func304.trans (congrArg some (by kernel_rfl))
 f320:=Tryz.func305.trans (congrArg some (by kernel_rfl))
 f337:=Tryz.func310.trans (congrArg some (by kernel_rfl))
 f338:=Tryz.func311.trans (congrArg some (by kernel_rfl))
 t0:=Tryz.underlying0
 a0:=Tryz.isAgg0
 z0:=Tryz.sizeOf0
 v0:=Tryz.zeroValue0
 t2:=Tryz.underlying2
 a2:=Tryz.isAgg2
 z2:=Tryz.sizeOf2
 v2:=Tryz.zeroValue2
 t3:=Tryz.underlying3
 a3:=Tryz.isAgg3
 z3:=Tryz.sizeOf3
 v3:=Tryz.zeroValue3
 t4:=Tryz.underlying4
 a4:=Tryz.isAgg4
 z4:=Tryz.sizeOf4
 v4:=Tryz.zeroValue4
 t5:=Tryz.underlying5
 a5:=Tryz.isAgg5
 z5:=Tryz.sizeOf5
 v5:=Tryz.zeroValue5
 t9:=Tryz.underlying9
 a9:=Tryz.isAgg9
 z9:=Tryz.sizeOf9
 v9:=Tryz.zeroValue9
 t20:=Tryz.underlying20
 a20:=Tryz.isAgg20
 z20:=Tryz.sizeOf20
 v20:=Tryz.zeroValue20
 t37:=Tryz.underlying34
 a37:=Tryz.isAgg34
 z37:=Tryz.sizeOf34
 v37:=Tryz.zeroValue34
 t46:=Tryz.underlying230
 a46:=Tryz.isAgg230
 z46:=Tryz.sizeOf230
 v46:=Tryz.zeroValue230
 t51:=Tryz.underlying276
 a51:=Tryz.isAgg276
 z51:=Tryz.sizeOf276
 v51:=Tryz.zeroValue276
 t53:=Tryz.underlying29
 a53:=Tryz.isAgg29
 z53:=Tryz.sizeOf29
 v53:=Tryz.zeroValue29
 t171:=Tryz.underlying353
 a171:=Tryz.isAgg353
 z171:=Tryz.sizeOf353
 v171:=Tryz.zeroValue353
 t173:=Tryz.underlying355
 a173:=Tryz.isAgg355
 z173:=Tryz.sizeOf355
 v173:=Tryz.zeroValue355
 t212:=Tryz.underlying372
 a212:=Tryz.isAgg372
 z212:=Tryz.sizeOf372
 v212:=Tryz.zeroValue372
 t213:=Tryz.underlying373
 a213:=Tryz.isAgg373
 z213:=Tryz.sizeOf373
 t232:=Tryz.underlying375
 a232:=Tryz.isAgg375
 z232:=Tryz.sizeOf375
 v232:=Tryz.zeroValue375
 t233:=Tryz.underlying359
 a233:=Tryz.isAgg359
 z233:=Tryz.sizeOf359
 v233:=Tryz.zeroValue359
 g17:=by kernel_rfl
 g18:=by kernel_rfl
 g19:=by kernel_rfl }
open Go.RowKit Go.Sort Go.Lib in
theorem Tryz.strconv_Itoa_small (i:Nat) (hi:i<100) (w:World):
 Calls Tryz.prog 155 #[.int .i64 i] w fun e w'=>e= .returned (.string ⟨(Lib.decDigits i).toArray⟩)/\w'=w:=Any.strconv_Itoa_small Tryz.lays171 i hi w
def Tryz.lays189_ren:Go.Shelf.Ren:=⟨fun | 189=>133 | 125=>151 | 257=>175 | 128=>197 | 129=>198 | 294=>222 | 295=>223 | 296=>224 | 297=>225 | 298=>226 | 299=>227 | 216=>228 | 300=>229 | 301=>230 | 328=>274 | 329=>243 | 330=>244 | 331=>275 | 332=>276 | 215=>200 | 343=>299 | n=>n,fun | 28=>47 | 3=>3 | 46=>230 | 0=>0 | 51=>276 | 53=>29 | 4=>4 | 183=>269 | 182=>268 | 131=>155 | 5=>5 | 9=>9 | 218=>316 | 222=>320 | 228=>349 | 229=>159 | n=>n,fun | n=>n⟩
theorem Tryz.lays189:Go.Proofs.Lays.n189 Tryz.prog Tryz.lays189_ren:={
 mixed:=by kernel_rfl
 f125:=Tryz.func151.trans (congrArg some (by kernel_rfl))
 f128:=Tryz.func197.trans (congrArg some (by kernel_rfl))
 f129:=Tryz.func198.trans (congrArg some (by kernel_rfl))
 f189:=Tryz.func133.trans (congrArg some (by kernel_rfl))
 f215:=Tryz.func200.trans (congrArg some (by kernel_rfl))
 f216:=Tryz.func228.trans (congrArg some (by kernel_rfl))
 f257:=Tryz.func175.trans (congrArg some (by kernel_rfl))
 f294:=Tryz.func222.trans (congrArg some (by kernel_rfl))
 f295:=Tryz.func223.trans (congrArg some (by kernel_rfl))
 f296:=Tryz.func224.trans (congrArg some (by kernel_rfl))
 f297:=Tryz.func225.trans (congrArg some (by kernel_rfl))
 f298:=Tryz.func226.trans (congrArg some (by kernel_rfl))
 f299:=Tryz.func227.trans (congrArg some (by kernel_rfl))
 f300:=Tryz.func229.trans (congrArg some (by kernel_rfl))
 f301:=Tryz.func230.trans (congrArg some (by kernel_rfl))
 f328:=Tryz.func274.trans (congrArg some (by kernel_rfl))
 f329:=Tryz.func243.trans (congrArg some (by kernel_rfl))
 f330:=Tryz.func244.trans (congrArg some (by kernel_rfl))
 f331:=Tryz.func275.trans (congrArg some (by kernel_rfl))
 f332:=Tryz.func276.trans (congrArg some (by kernel_rfl))
 f343:=Tryz.func299.trans (congrArg some (by kernel_rfl))
 t0:=Tryz.underlying0
 a0:=Tryz.isAgg0
 z0:=Tryz.sizeOf0
 v0:=Tryz.zeroValue0
 t3:=Tryz.underlying3
 a3:=Tryz.isAgg3
 z3:=Tryz.sizeOf3
 v3:=Tryz.zeroValue3
 t4:=Tryz.underlying4
 a4:=Tryz.isAgg4
 z4:=Tryz.sizeOf4
 v4:=Tryz.zeroValue4
 t5:=Tryz.underlying5
 a5:=Tryz.isAgg5
 z5:=Tryz.sizeOf5
 v5:=Tryz.zeroValue5
 t9:=Tryz.underlying9
 a9:=Tryz.isAgg9
 z9:=Tryz.sizeOf9
 v9:=Tryz.zeroValue9
 t28:=Tryz.underlying47
 a28:=Tryz.isAgg47
 z28:=Tryz.sizeOf47
 v28:=Tryz.zeroValue47
 t46:=Tryz.underlying230
 a46:=Tryz.isAgg230
 z46:=Tryz.sizeOf230
 v46:=Tryz.zeroValue230
 t51:=Tryz.underlying276
 a51:=Tryz.isAgg276
 z51:=Tryz.sizeOf276
 v51:=Tryz.zeroValue276
 t53:=Tryz.underlying29
 a53:=Tryz.isAgg29
 z53:=Tryz.sizeOf29
 v53:=Tryz.zeroValue29
 t131:=Tryz.underlying155
 a131:=Tryz.isAgg155
 z131:=Tryz.sizeOf155
 v131:=Tryz.zeroValue155
 t182:=Tryz.underlying268
 a182:=Tryz.isAgg268
 z182:=Tryz.sizeOf268
 v182:=Tryz.zeroValue268
 t183:=Tryz.underlying269
 a183:=Tryz.isAgg269
 z183:=Tryz.sizeOf269
 v183:=Tryz.zeroValue269
 t218:=Tryz.underlying316
 a218:=Tryz.isAgg316
 z218:=Tryz.sizeOf316
 v218:=Tryz.zeroValue316
 t222:=Tryz.underlying320
 a222:=Tryz.isAgg320
 z222:=Tryz.sizeOf320
 v222:=Tryz.zeroValue320
 t228:=Tryz.underlying349
 a228:=Tryz.isAgg349
 z228:=Tryz.sizeOf349
 v228:=Tryz.zeroValue349
 t229:=Tryz.underlying159
 a229:=Tryz.isAgg159
 z229:=Tryz.sizeOf159
 v229:=Tryz.zeroValue159 }
open Go.Sort Go.RowKit in
theorem Tryz.slices_Sort_int (blk off cap:Nat) (zs:List Int) (w:World) (hH:Holds (Value.int .i64) w blk off zs.toArray) (hblk:blk<w.heap.size) (hsz:zs.length<4611686018427387904):
 Calls Tryz.prog 133 #[.slice (some ⟨blk,off,none⟩) zs.length cap] w fun e w'=>
  e= .returned (.tuple #[])/\∃ n os,w'=grow (putRow (Value.int .i64) (Sort.ahead w n) blk off (zs.mergeSort fun x y=>decide (x<=y)).toArray) os:=Any.slices_Sort_int Tryz.lays189 blk off cap zs w hH hblk hsz
def Tryz.lays190_ren:Go.Shelf.Ren:=⟨fun | 190=>96 | 125=>151 | 258=>150 | 128=>197 | 129=>198 | 302=>188 | 303=>189 | 304=>190 | 305=>191 | 306=>192 | 307=>193 | 308=>194 | 309=>195 | 310=>196 | 333=>242 | 329=>243 | 330=>244 | 334=>245 | 335=>246 | 336=>247 | 344=>282 | n=>n,fun | 31=>60 | 9=>9 | 3=>3 | 46=>230 | 0=>0 | 51=>276 | 53=>29 | 4=>4 | 183=>269 | 182=>268 | 131=>155 | 5=>5 | 218=>316 | 222=>320 | 228=>349 | 229=>159 | n=>n,fun | n=>n⟩
theorem Tryz.lays190:Go.Proofs.Lays.n190 Tryz.prog Tryz.lays190_ren:={
 mixed:=by kernel_rfl
 f125:=Tryz.func151.trans (congrArg some (by kernel_rfl))
 f128:=Tryz.func197.trans (congrArg some (by kernel_rfl))
 f129:=Tryz.func198.trans (congrArg some (by kernel_rfl))
 f190:=Tryz.func96.trans (congrArg some (by kernel_rfl))
 f258:=Tryz.func150.trans (congrArg some (by kernel_rfl))
 f302:=Tryz.func188.trans (congrArg some (by kernel_rfl))
 f303:=Tryz.func189.trans (congrArg some (by kernel_rfl))
 f304:=Tryz.func190.trans (congrArg some (by kernel_rfl))
 f305:=Tryz.func191.trans (congrArg some (by kernel_rfl))
 f306:=Tryz.func192.trans (congrArg some (by kernel_rfl))
 f307:=Tryz.func193.trans (congrArg some (by kernel_rfl))
 f308:=Tryz.func194.trans (congrArg some (by kernel_rfl))
 f309:=Tryz.func195.trans (congrArg some (by kernel_rfl))
 f310:=Tryz.func196.trans (congrArg some (by kernel_rfl))
 f329:=Tryz.func243.trans (congrArg some (by kernel_rfl))
 f330:=Tryz.func244.trans (congrArg some (by kernel_rfl))
 f333:=Tryz.func242.trans (congrArg some (by kernel_rfl))
 f334:=Tryz.func245.trans (congrArg some (by kernel_rfl))
 f335:=Tryz.func246.trans (congrArg some (by kernel_rfl))
 f336:=Tryz.func247.trans (congrArg some (by kernel_rfl))
 f344:=Tryz.func282.trans (congrArg some (by kernel_rfl))
 t0:=Tryz.underlying0
 a0:=Tryz.isAgg0
 z0:=Tryz.sizeOf0
 v0:=Tryz.zeroValue0
 t3:=Tryz.underlying3
 a3:=Tryz.isAgg3
 z3:=Tryz.sizeOf3
 v3:=Tryz.zeroValue3
 t4:=Tryz.underlying4
 a4:=Tryz.isAgg4
 z4:=Tryz.sizeOf4
 v4:=Tryz.zeroValue4
 t5:=Tryz.underlying5
 a5:=Tryz.isAgg5
 z5:=Tryz.sizeOf5
 v5:=Tryz.zeroValue5
 t9:=Tryz.underlying9
 a9:=Tryz.isAgg9
 z9:=Tryz.sizeOf9
 v9:=Tryz.zeroValue9
 t31:=Tryz.underlying60
 a31:=Tryz.isAgg60
 z31:=Tryz.sizeOf60
 v31:=Tryz.zeroValue60
 t46:=Tryz.underlying230
 a46:=Tryz.isAgg230
 z46:=Tryz.sizeOf230
 v46:=Tryz.zeroValue230
 t51:=Tryz.underlying276
 a51:=Tryz.isAgg276
 z51:=Tryz.sizeOf276
 v51:=Tryz.zeroValue276
 t53:=Tryz.underlying29
 a53:=Tryz.isAgg29
 z53:=Tryz.sizeOf29
 v53:=Tryz.zeroValue29
 t131:=Tryz.underlying155
 a131:=Tryz.isAgg155
 z131:=Tryz.sizeOf155
 v131:=Tryz.zeroValue155
 t182:=Tryz.underlying268
 a182:=Tryz.isAgg268
 z182:=Tryz.sizeOf268
 v182:=Tryz.zeroValue268
 t183:=Tryz.underlying269
 a183:=Tryz.isAgg269
 z183:=Tryz.sizeOf269
 v183:=Tryz.zeroValue269
 t218:=Tryz.underlying316
 a218:=Tryz.isAgg316
 z218:=Tryz.sizeOf316
 v218:=Tryz.zeroValue316
 t222:=Tryz.underlying320
 a222:=Tryz.isAgg320
 z222:=Tryz.sizeOf320
 v222:=Tryz.zeroValue320
 t228:=Tryz.underlying349
 a228:=Tryz.isAgg349
 z228:=Tryz.sizeOf349
 v228:=Tryz.zeroValue349
 t229:=Tryz.underlying159
 a229:=Tryz.isAgg159
 z229:=Tryz.sizeOf159
 v229:=Tryz.zeroValue159 }
open Go.Sort Go.RowKit in
theorem Tryz.slices_Sort_string (blk off cap:Nat) (ss:List (List UInt8)) (w:World) (hH:Holds encStr w blk off ss.toArray) (hblk:blk<w.heap.size) (hsz:ss.length<4611686018427387904):
 Calls Tryz.prog 96 #[.slice (some ⟨blk,off,none⟩) ss.length cap] w fun e w'=>
  e= .returned (.tuple #[])/\∃ n os,w'=grow (putRow encStr (Sort.ahead w n) blk off (ss.mergeSort fun x y=>decide (x<=y)).toArray) os:=Any.slices_Sort_string Tryz.lays190 blk off cap ss w hH hblk hsz
def Tryz.lays110_ren:Go.Shelf.Ren:=⟨fun | 110=>178 | 109=>233 | n=>n,fun | 31=>60 | 9=>9 | 4=>4 | 3=>3 | 0=>0 | n=>n,fun | n=>n⟩
theorem Tryz.lays110:Go.Proofs.Lays.n110 Tryz.prog Tryz.lays110_ren:={
 mixed:=by kernel_rfl
 f109:=Tryz.func233.trans (congrArg some (by kernel_rfl))
 f110:=Tryz.func178.trans (congrArg some (by kernel_rfl))
 t0:=Tryz.underlying0
 a0:=Tryz.isAgg0
 z0:=Tryz.sizeOf0
 v0:=Tryz.zeroValue0
 t3:=Tryz.underlying3
 a3:=Tryz.isAgg3
 z3:=Tryz.sizeOf3
 v3:=Tryz.zeroValue3
 t4:=Tryz.underlying4
 a4:=Tryz.isAgg4
 z4:=Tryz.sizeOf4
 v4:=Tryz.zeroValue4
 t9:=Tryz.underlying9
 a9:=Tryz.isAgg9
 z9:=Tryz.sizeOf9
 v9:=Tryz.zeroValue9
 t31:=Tryz.underlying60
 a31:=Tryz.isAgg60
 z31:=Tryz.sizeOf60
 v31:=Tryz.zeroValue60 }
open Go.Lib in
theorem Tryz.slices_Contains_string (b off n c:Nat) (zs:List ByteArray) (x:ByteArray) (w:World) (hz:n<=zs.length) (hbig:n<=9223372036854775807) (hc:∀ j,j<zs.length->w.cell? ⟨b,off+j,none⟩=some (.string (zs.getD j ByteArray.empty))):
 Calls Tryz.prog 178 #[.slice (some ⟨b,off,none⟩) n c,.string x] w fun e w'=>e= .returned (.bool (Lib.containsS (zs.take n) x))/\w'=w:=Any.slices_Contains_string Tryz.lays110 b off n c zs x w hz hbig hc
open Go.Lib in
theorem Tryz.slices_Contains_string_empty (a:Option Addr) (c:Nat) (x:ByteArray) (w:World):
 Calls Tryz.prog 178 #[.slice a 0 c,.string x] w fun e w'=>e= .returned (.bool false)/\w'=w:=Any.slices_Contains_string_empty Tryz.lays110 a c x w
open Go.RowKit Go.Sort in
theorem Tryz.slices_Sort_string_none (p:Option Addr) (cap:Nat) (w:World):
 Calls Tryz.prog 96 #[.slice p 0 cap] w fun e w'=>e= .returned (.tuple #[])/\w'=w:=Any.slices_Sort_string_none Tryz.lays190 p cap w
open Go.RowKit Go.Sort in
theorem Tryz.slices_Sort_int_none (p:Option Addr) (cap:Nat) (w:World):
 Calls Tryz.prog 133 #[.slice p 0 cap] w fun e w'=>e= .returned (.tuple #[])/\w'=w:=Any.slices_Sort_int_none Tryz.lays189 p cap w
def Tryz.laysnb116_ren:Go.Shelf.Ren:=⟨fun | 116=>231 | 115=>86 | n=>n,fun | 37=>34 | 4=>4 | 3=>3 | 9=>9 | 5=>5 | n=>n,fun | n=>n⟩
theorem Tryz.laysnb116:Go.Proofs.Lays.nb116 Tryz.prog Tryz.laysnb116_ren:={
 mixed:=by kernel_rfl
 f115:=Tryz.func86.trans (congrArg some (by kernel_rfl))
 f116:=Tryz.func231.trans (congrArg some (by kernel_rfl))
 t3:=Tryz.underlying3
 a3:=Tryz.isAgg3
 z3:=Tryz.sizeOf3
 v3:=Tryz.zeroValue3
 t4:=Tryz.underlying4
 a4:=Tryz.isAgg4
 z4:=Tryz.sizeOf4
 v4:=Tryz.zeroValue4
 t9:=Tryz.underlying9
 a9:=Tryz.isAgg9
 z9:=Tryz.sizeOf9
 v9:=Tryz.zeroValue9
 t37:=Tryz.underlying34
 a37:=Tryz.isAgg34
 z37:=Tryz.sizeOf34
 v37:=Tryz.zeroValue34
 t5:=Tryz.underlying5
 a5:=Tryz.isAgg5
 z5:=Tryz.sizeOf5
 v5:=Tryz.zeroValue5 }
theorem Tryz.bytes_HasPrefix_all (p1 p2:Option Addr) (n c m d:Nat) (xs ys:List Int) (w:World) (hx:xs.length=n) (hy:ys.length=m) (hnc:n<=c) (h1:Lib.BytesIn w p1 n xs) (h2:Lib.BytesIn w p2 m ys):
 Calls Tryz.prog 231 #[.slice p1 n c,.slice p2 m d] w fun e w'=>e= .returned (.bool (Lib.hasPrefix (Lib.bytesOf xs) (Lib.bytesOf ys)))/\w'=w:=Any.bytes_HasPrefix_all Tryz.laysnb116 p1 p2 n c m d xs ys w hx hy hnc h1 h2
def Tryz.laysnb115_ren:Go.Shelf.Ren:=⟨fun | 115=>86 | n=>n,fun | 37=>34 | 4=>4 | 9=>9 | 5=>5 | n=>n,fun | n=>n⟩
theorem Tryz.laysnb115:Go.Proofs.Lays.nb115 Tryz.prog Tryz.laysnb115_ren:={
 mixed:=by kernel_rfl
 f115:=Tryz.func86.trans (congrArg some (by kernel_rfl))
 t4:=Tryz.underlying4
 a4:=Tryz.isAgg4
 z4:=Tryz.sizeOf4
 v4:=Tryz.zeroValue4
 t9:=Tryz.underlying9
 a9:=Tryz.isAgg9
 z9:=Tryz.sizeOf9
 v9:=Tryz.zeroValue9
 t37:=Tryz.underlying34
 a37:=Tryz.isAgg34
 z37:=Tryz.sizeOf34
 v37:=Tryz.zeroValue34
 t5:=Tryz.underlying5
 a5:=Tryz.isAgg5
 z5:=Tryz.sizeOf5
 v5:=Tryz.zeroValue5 }
theorem Tryz.bytes_Equal_all (p1 p2:Option Addr) (n c m d:Nat) (xs ys:List Int) (w:World) (hx:xs.length=n) (hy:ys.length=m) (h1:Lib.BytesIn w p1 n xs) (h2:Lib.BytesIn w p2 m ys):
 Calls Tryz.prog 86 #[.slice p1 n c,.slice p2 m d] w fun e w'=>e= .returned (.bool (Lib.bytesOf xs==Lib.bytesOf ys))/\w'=w:=Any.bytes_Equal_all Tryz.laysnb115 p1 p2 n c m d xs ys w hx hy h1 h2
def Tryz.lay103_ren:Go.Shelf.Ren:=⟨fun | 6=>103 | 15=>151 | 14=>156 | 28=>197 | 29=>198 | 20=>202 | 21=>203 | 22=>204 | 23=>205 | 24=>206 | 25=>207 | 26=>208 | 27=>209 | 46=>257 | 47=>243 | 48=>244 | 49=>258 | 50=>259 | 57=>290 | n=>n,fun | 22=>38 | 24=>31 | 25=>169 | 3=>3 | 39=>230 | 0=>0 | 53=>276 | 55=>29 | 4=>4 | 46=>269 | 45=>268 | 50=>155 | 5=>5 | 9=>9 | 66=>316 | 70=>320 | 76=>349 | 77=>159 | n=>n,fun | n=>n⟩
def Tryz.lay152_ren:Go.Shelf.Ren:=⟨fun | 6=>152 | 15=>151 | 14=>199 | 28=>197 | 29=>198 | 20=>248 | 21=>249 | 22=>250 | 23=>251 | 24=>252 | 25=>253 | 26=>254 | 27=>255 | 46=>283 | 47=>243 | 48=>244 | 49=>284 | 50=>285 | 57=>301 | n=>n,fun | 22=>163 | 24=>166 | 25=>232 | 3=>3 | 39=>230 | 0=>0 | 53=>276 | 55=>29 | 4=>4 | 46=>269 | 45=>268 | 50=>155 | 5=>5 | 9=>9 | 66=>316 | 70=>320 | 76=>349 | 77=>159 | n=>n,fun | n=>n⟩
theorem Tryz.lay152:Go.Proofs.SlLaysF0.n6 Tryz.prog Tryz.lay152_ren:={
 mixed:=by kernel_rfl
 f6:=⟨Tryz.f152.name,by decide,Tryz.func152.trans (congrArg some (by kernel_rfl))⟩
 f14:=⟨Tryz.f199.name,by decide,Tryz.func199.trans (congrArg some (by kernel_rfl))⟩
 f15:=Tryz.func151.trans (congrArg some (by kernel_rfl))
 f20:=⟨Tryz.f248.name,by decide,Tryz.func248.trans (congrArg some (by kernel_rfl))⟩
 f21:=⟨Tryz.f249.name,by decide,Tryz.func249.trans (congrArg some (by kernel_rfl))⟩
 f22:=⟨Tryz.f250.name,by decide,Tryz.func250.trans (congrArg some (by kernel_rfl))⟩
 f23:=⟨Tryz.f251.name,by decide,Tryz.func251.trans (congrArg some (by kernel_rfl))⟩
 f24:=⟨Tryz.f252.name,by decide,Tryz.func252.trans (congrArg some (by kernel_rfl))⟩
 f25:=⟨Tryz.f253.name,by decide,Tryz.func253.trans (congrArg some (by kernel_rfl))⟩
 f26:=⟨Tryz.f254.name,by decide,Tryz.func254.trans (congrArg some (by kernel_rfl))⟩
 f27:=⟨Tryz.f255.name,by decide,Tryz.func255.trans (congrArg some (by kernel_rfl))⟩
 f28:=Tryz.func197.trans (congrArg some (by kernel_rfl))
 f29:=Tryz.func198.trans (congrArg some (by kernel_rfl))
 f46:=⟨Tryz.f283.name,by decide,Tryz.func283.trans (congrArg some (by kernel_rfl))⟩
 f47:=Tryz.func243.trans (congrArg some (by kernel_rfl))
 f48:=Tryz.func244.trans (congrArg some (by kernel_rfl))
 f49:=⟨Tryz.f284.name,by decide,Tryz.func284.trans (congrArg some (by kernel_rfl))⟩
 f50:=⟨Tryz.f285.name,by decide,Tryz.func285.trans (congrArg some (by kernel_rfl))⟩
 f57:=⟨Tryz.f301.name,by decide,Tryz.func301.trans (congrArg some (by kernel_rfl))⟩
 t0:=Tryz.underlying0
 a0:=Tryz.isAgg0
 z0:=Tryz.sizeOf0
 v0:=Tryz.zeroValue0
 t3:=Tryz.underlying3
 a3:=Tryz.isAgg3
 z3:=Tryz.sizeOf3
 v3:=Tryz.zeroValue3
 t4:=Tryz.underlying4
 a4:=Tryz.isAgg4
 z4:=Tryz.sizeOf4
 v4:=Tryz.zeroValue4
 t5:=Tryz.underlying5
 a5:=Tryz.isAgg5
 z5:=Tryz.sizeOf5
 v5:=Tryz.zeroValue5
 t9:=Tryz.underlying9
 a9:=Tryz.isAgg9
 z9:=Tryz.sizeOf9
 v9:=Tryz.zeroValue9
 t22:=Tryz.underlying163
 a22:=Tryz.isAgg163
 z22:=Tryz.sizeOf163
 v22:=Tryz.zeroValue163
 t25:=Tryz.underlying232
 a25:=Tryz.isAgg232
 z25:=Tryz.sizeOf232
 v25:=Tryz.zeroValue232
 t39:=Tryz.underlying230
 a39:=Tryz.isAgg230
 z39:=Tryz.sizeOf230
 v39:=Tryz.zeroValue230
 t45:=Tryz.underlying268
 a45:=Tryz.isAgg268
 z45:=Tryz.sizeOf268
 v45:=Tryz.zeroValue268
 t46:=Tryz.underlying269
 a46:=Tryz.isAgg269
 z46:=Tryz.sizeOf269
 v46:=Tryz.zeroValue269
 t50:=Tryz.underlying155
 a50:=Tryz.isAgg155
 z50:=Tryz.sizeOf155
 v50:=Tryz.zeroValue155
 t53:=Tryz.underlying276
 a53:=Tryz.isAgg276
 z53:=Tryz.sizeOf276
 v53:=Tryz.zeroValue276
 t55:=Tryz.underlying29
 a55:=Tryz.isAgg29
 z55:=Tryz.sizeOf29
 v55:=Tryz.zeroValue29
 t66:=Tryz.underlying316
 a66:=Tryz.isAgg316
 z66:=Tryz.sizeOf316
 v66:=Tryz.zeroValue316
 t70:=Tryz.underlying320
 a70:=Tryz.isAgg320
 z70:=Tryz.sizeOf320
 v70:=Tryz.zeroValue320
 t76:=Tryz.underlying349
 a76:=Tryz.isAgg349
 z76:=Tryz.sizeOf349
 v76:=Tryz.zeroValue349
 t77:=Tryz.underlying159
 a77:=Tryz.isAgg159
 z77:=Tryz.sizeOf159
 v77:=Tryz.zeroValue159 }
end
end Go.Proofs
namespace Go.Proofs.YteabgcollokgjaaGreatDoor
section
open Go.RowKit Go.Shelf Go.Sort
attribute [local go_sem] wext_cell
section
variable {α:Type} [Inhabited α] {enc:α->List Value} {k:Nat} {d:α}
theorem bang_getD (xs:List α) (j:Nat) (hj:j<xs.length):xs.toArray[j]! =xs.getD j d:=by
 rw [List.getElem!_toArray,List.getD_eq_getElem?_getD,List.getElem?_eq_getElem hj,getElem!_pos xs j hj];rfl
theorem holdsK_of_own (hk:∀ y,(enc y).length=k) (hk0:0<k) {w:World} {base g n cap:Nat} {e:TypeId} {xs:List α} (h:w.ownsRow base e k (.slice (some ⟨g,0,none⟩) n cap) n (xs.flatMap enc)):HoldsK enc k w g 0 xs.toArray:=by
 have hl:=h.1;rw [flat_len hk] at hl;intro j hj;rw [size_flatK] at hj;have hj':j<xs.length*k:=by simpa using hj
 refine ⟨?_,h.frozenAt _⟩;have hq:j / k<xs.length:=by rw [Nat.div_lt_iff_lt_mul hk0];exact hj'
 have hm:j % k<k:=Nat.mod_lt _ hk0;have hdm:j / k*k+j % k=j:=by rw [Nat.mul_comm];exact Nat.div_add_mod j k
 rw [get_flatK _ _ _ _ hj,Nat.zero_add,h.cellAt j (by omega),bang_getD (d:=default) xs _ hq];have h1:=flat_at hk default xs (j / k) (j % k) hq hm;rw [hdm] at h1;rw [h1];have hlt:j % k<(enc (xs.getD (j / k) default)).length:=by rw [hk];exact hm
 rw [List.getElem?_eq_getElem hlt,getElem!_pos (enc (xs.getD (j / k) default)) (j % k) hlt];rfl
end
end
end Go.Proofs.YteabgcollokgjaaGreatDoor
