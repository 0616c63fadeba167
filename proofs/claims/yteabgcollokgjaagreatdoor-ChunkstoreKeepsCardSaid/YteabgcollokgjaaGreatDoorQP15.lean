/- Q -/
import Derived.Test.YteabgcollokgjaaGreatDoorQP14
import Derived.Shelf.SlIterI.Sorted
import Derived.Ground.GgzProg
set_option linter.unusedSimpArgs false
set_option linter.unusedVariables false
set_option maxRecDepth 100000
set_option maxHeartbeats 32000000
open Go.Lib (hid)
namespace Go.Proofs.YteabgcollokgjaaGreatDoor
section
open Go.RowKit Go.MapKept Go.ChangeMaps
structure FrS where
 bc:Nat
 bb:Nat
 b4:Nat
 bm:Nat
 pc:Nat
 cs:Array Value
 base:Nat
 mv:Nat
 M:Chs
 d:BD
 bs:List UInt8
abbrev FrS.obs (f:FrS) (l:List Ob):List Ob:=cellOb f.bc 214 #[vPtr f.pc]::cellOb f.bb 3 #[.int .i64 (f.base:Int)]::cellOb f.b4 34 #[.slice f.d.A f.d.len f.d.cap]::cellOb f.bm 128 #[.map (some f.mv)]::cellOb f.pc 216 f.cs::chOb f.mv f.M::bufOb f.d f.bs::l
section
variable {w:World} {ops:Array Oper} {o:Oper} {a:Act} {Q:Exit->Act->World->Prop} {rest:List Oper}
theorem wpList_app2 (hgd:o.guard=none) (s x:Operand) (ho:o.op= .call { callee:=.builtin .append,args:= #[s,x],argTypes:= #[34,34] }) (d:BD) (bs:List UInt8) (hs:a.eval s= .slice d.A d.len d.cap) (h:RB w d bs)
 (A:Option Addr) (c:Nat) (ns:List UInt8) (hx:a.eval x= .slice A ns.length c) (hsrc:SB w A ns) (hb:bs.length+ns.length<=1099511627776)
 (hK:∀ A' n' c' w',AppB w d (bs++ns) ⟨A',n',c'⟩ w'->wpList Tryz.prog ops Q rest (a.put o.dst (.slice A' n' c')) w'):wpList Tryz.prog ops Q (o::rest) a w:=
 wpList_append_bytes hgd s x ho d bs hs h A c ns hx hsrc hb (fun d' w' _ ha=>hK d'.A d'.len d'.cap w' ha)
end
def FrW (b:Nat) (f:FrS) (i:ID) (H:Nat) (A:Option Addr) (chunk:List UInt8) (l:List Ob) (w w':World):Prop:=Sep b w' (cellOb H 31 #[.int .u64 i.1,.int .i64 i.2]::f.obs (rsOb A chunk::l))/\Below b w w'
section
variable {b H:Nat} {f:FrS} {i:ID} {A:Option Addr} {chunk:List UInt8} {l:List Ob} {w w':World}
theorem FrW.cells (h:FrW b f i H A chunk l w w') (hcs:f.cs[0]? =some (.int .i64 1)):w'.cell? ⟨f.b4,0,none⟩=some (.slice f.d.A f.d.len f.d.cap)/\w'.cell? ⟨H,0,none⟩=some (.int .u64 i.1)/\w'.cell? ⟨H,1,none⟩=some (.int .i64 i.2)/\
 w'.cell? ⟨f.bc,0,none⟩=some (vPtr f.pc)/\w'.cell? ⟨f.bb,0,none⟩=some (.int .i64 (f.base:Int))/\w'.cell? ⟨f.pc,0,none⟩=some (.int .i64 1):=by
 have k6:IsB w' H 31 #[.int .u64 i.1,.int .i64 i.2]:=h.1.cell (k:=0) rfl;have kc:IsB w' f.bc 214 #[vPtr f.pc]:=h.1.cell (k:=1) rfl;have kb:IsB w' f.bb 3 #[.int .i64 (f.base:Int)]:=h.1.cell (k:=2) rfl;have k4:IsB w' f.b4 34 #[.slice f.d.A f.d.len f.d.cap]:=h.1.cell (k:=3) rfl;have kp:IsB w' f.pc 216 f.cs:=h.1.cell (k:=5) rfl;exact ⟨k4.cell 0,k6.cell 0,k6.cell 1,kc.cell 0,kb.cell 0,(kp.cell 0).trans hcs⟩
theorem FrW.on {w2:World} (h:FrW b f i H A chunk l w w') (hb:Below w'.heap.size w' w2):FrW b f i H A chunk l w w2:=⟨h.1.on hb,h.2.trans (hb.mono h.1.base)⟩
theorem FrW.rb (h:FrW b f i H A chunk l w w'):RB w' f.d f.bs:=h.1.get (k:=7) (o:=bufOb f.d f.bs) rfl
theorem FrW.rs (h:FrW b f i H A chunk l w w'):RS w' A chunk:=h.1.get (k:=8) (o:=rsOb A chunk) rfl
theorem frame_head (h:FrW b f i H A chunk l w w') (n:Nat) (hn:f.base+n<=1073741824) (hi0:0<=i.1) (hi1:i.1<18446744073709551616) (hd:List UInt8) (hh:headB i 1 (f.base+n)=hd):
 Calls Tryz.prog 232 #[.agg #[.int .u64 i.1,.int .i64 i.2],.int .i64 1,.int .i64 ((f.base:Int)+(n:Int))] w' (fun e w2=>∃ A3 c3,e= .returned (.slice A3 hd.length c3)/\Hid (SB w2 A3 hd)/\Hid (FrW b f i H A chunk l w w2)):=by
 have h5:=head_any i.1.toNat i.2 1 (f.base+n) w' (by omega) (by omega) (by omega);rw [Int.toNat_of_nonneg hi0,show ((i.1,i.2):ID)=i from rfl,hh] at h5;have e5:(((f.base+n:Nat):Int))=(f.base:Int)+(n:Int):=by omega
 rw [e5] at h5;refine h5.mono ?_;rintro e w2 ⟨⟨A3,n3,c3⟩,rfl,r1,r2,r3⟩;have hn3:hd.length=n3:=r1.1;subst hn3;exact ⟨A3,c3,rfl,r1.src,h.on r3⟩
theorem frame_app (h:FrW b f i H A chunk l w w') (ns:List UInt8) {A4:Option Addr} {n4 c4:Nat} {w4:World} (ha:AppB w' f.d (f.bs++ns) ⟨A4,n4,c4⟩ w4):
 Hid (FrW b { f with d:=⟨A4,n4,c4⟩,bs:=f.bs++ns } i H A chunk l w (w4.setCell ⟨f.b4,0,none⟩ (.slice A4 n4 c4)))/\w4.cell? ⟨f.b4,0,none⟩=some (.slice f.d.A f.d.len f.d.cap)/\w4.frozen? ⟨f.b4,0,none⟩=false:=by
 obtain ⟨s4,b4⟩:=h.1.app 7 (d:=f.d) (bs:=f.bs) rfl ha;have hc4:IsB w4 f.b4 34 #[.slice f.d.A f.d.len f.d.cap]:=s4.cell (k:=3) rfl;obtain ⟨s5,b5⟩:=s4.setAt 3 (g:=f.b4) (t:=34) (cs:= #[.slice f.d.A f.d.len f.d.cap]) rfl 0 (.slice A4 n4 c4);exact ⟨⟨s5,(h.2.trans b4).trans b5⟩,hc4.cell 0,hc4.frozen 0⟩
end
section
variable {b:Nat} {w:World} {f:FrS} {l:List Ob}
def frOut (f:FrS) (i:ID) (chunk:List UInt8) (d':BD):FrS:={ f with M:=setL f.M i (.at (f.base+f.bs.length)),d:=d',bs:=f.bs++headB i 1 (f.base+f.bs.length)++chunk }
def FramePost (b:Nat) (f:FrS) (i:ID) (A:Option Addr) (chunk:List UInt8) (l:List Ob) (w:World) (e:Ending) (w':World):Prop:=e= .returned (.tuple #[])/\∃ d',Sep b w' ((frOut f i chunk d').obs (rsOb A chunk::l))/\Below b w w'
theorem frame_any (A:Option Addr) (c:Nat) (chunk:List UInt8) (i:ID) (h:Sep b w (f.obs (rsOb A chunk::l))) (hcs:f.cs[0]? =some (.int .i64 1)) (hi:okID i) (hlen:f.base+f.bs.length<=1073741824) (hch:chunk.length<=8192) (hi0:0<=i.1) (hi1:i.1<18446744073709551616):
 Calls Tryz.prog 236 #[.agg #[.int .u64 i.1,.int .i64 i.2],.slice A chunk.length c,vPtr f.bc,vPtr f.bb,vPtr f.b4,vPtr f.bm] w (FramePost b f i A chunk l w):=by
 have S0:=hid (h.newCell 31 #[.int .u64 i.1,.int .i64 i.2]).1;have B0:=hid (h.newCell 31 #[.int .u64 i.1,.int .i64 i.2]).2;have hbs:f.bs.length=f.d.len:=(h.get (k:=6) (o:=bufOb f.d f.bs) rfl).1;have Hbs:=hid hbs;have hdl:f.base+f.d.len<=1073741824:=by omega
 have Hlen:=hid hlen;have Hcs:=hid hcs;clear hbs h hlen hcs;go_enter Tryz.func236,Tryz.ntmps236;go_upto_region 1 with fail
 generalize w.alloc (.cells #[.int .u64 i.1,.int .i64 i.2] 31)=W at S0 B0 |-; have k6:Hid (IsB W w.heap.size 31 #[.int .u64 i.1,.int .i64 i.2]):=S0.out.cell (k:=0) rfl;have kc:Hid (IsB W f.bc 214 #[vPtr f.pc]):=S0.out.cell (k:=1) rfl;have kb:Hid (IsB W f.bb 3 #[.int .i64 (f.base:Int)]):=S0.out.cell (k:=2) rfl;have k4:Hid (IsB W f.b4 34 #[.slice f.d.A f.d.len f.d.cap]):=S0.out.cell (k:=3) rfl;have km:Hid (IsB W f.bm 128 #[.map (some f.mv)]):=S0.out.cell (k:=4) rfl;have kp:Hid (IsB W f.pc 216 f.cs):=S0.out.cell (k:=5) rfl;have MV:Hid (MapIs okID vID vPl W f.mv f.M):=(S0.out.get (k:=6) (o:=chOb f.mv f.M) rfl).1;obtain ⟨w1,hu,hm1,hg1,hz1⟩:=MapIs.update mkI Tryz.underlying128 (w:=W.drew) MV.out hi (Pl.at (f.base+f.d.len));have hu':(Instr.mapUpdate 128 (.map (some f.mv)) (.agg #[.int .u64 i.1,.int .i64 i.2]) (.agg #[.slice none 0 0,.int .i64 1,.int .i64 ((f.base:Int)+(f.d.len:Int))])).run Tryz.prog W.drew= .ok () w1:=hu;obtain ⟨s1,b1⟩:=(S0.out.on ((Below.refl _ W).drew)).note 6 (cm:=f.mv) (C:=f.M) rfl hm1 hg1;have F1:Hid (FrW b ({ f with M:=setL f.M i (.at (f.base+f.d.len)) }:FrS) i w.heap.size A chunk l w w1):=⟨s1,B0.out.trans (((Below.refl b W).drew).trans b1)⟩;clear hu hm1 hg1 hz1 s1 b1;have c60:W.cell? ⟨w.heap.size,0,none⟩=some (.int .u64 i.1):=k6.out.cell 0;have c61:W.cell? ⟨w.heap.size,1,none⟩=some (.int .i64 i.2):=k6.out.cell 1
 have cc:W.cell? ⟨f.bc,0,none⟩=some (vPtr f.pc):=kc.out.cell 0;have cb:W.cell? ⟨f.bb,0,none⟩=some (.int .i64 (f.base:Int)):=kb.out.cell 0;have c4:W.cell? ⟨f.b4,0,none⟩=some (.slice f.d.A f.d.len f.d.cap):=k4.out.cell 0;have cm:W.cell? ⟨f.bm,0,none⟩=some (.map (some f.mv)):=km.out.cell 0;have cp:W.cell? ⟨f.pc,0,none⟩=some (.int .i64 1):=(kp.out.cell 0).trans Hcs.out;have hsum:IntKind.i64.wrap ((f.base:Int)+(f.d.len:Int))=(f.base:Int)+(f.d.len:Int):=IntWalk.i64_in _ (by omega);go_region
 go_upto_region 2 with fail
 clear c60 c61 cc cb c4 cm cp k6 kc kb k4 km kp MV hu' S0;obtain ⟨hd,Hhd⟩:∃ hd,Hid (headB i 1 (f.base+f.d.len)=hd):=⟨_,rfl⟩
 have hhl:hd.length<=1000:=by
  rw [<- Hhd.out,headB_len];omega
 have F2:=hid (F1.out.on ((Below.refl _ w1).drew));have HC:=hid (fun (w':World) (h:FrW b ({ f with M:=setL f.M i (.at (f.base+f.d.len)) }:FrS) i w.heap.size A chunk l w w')=>h.cells Hcs.out);refine wp_region_held_tail [(0,true),(1,true),(2,true),(3,true),(4,true),(5,true),(6,true),(7,true),(8,true),(9,true),(10,false)] (FrW b ({ f with M:=setL f.M i (.at (f.base+f.d.len)) }:FrS) i w.heap.size A chunk l w) (by kernel_rfl) (fun _ _ d _ _ h=>by cases d<;>exact h) (by kernel_rfl) F2.out ?_;simp only [pk_]
 iterate 10
  (refine wpHeld_take (v:=?_) (Or.inl ⟨by rfl,?_⟩) ?_
   rotate_left
   · (intro w' hSw;obtain ⟨h1,h2,h3,h4,h5,h6⟩:=HC.out w' hSw;go_simp;try with_reducible rfl)
   simp only [Act.put,List.setIfInBounds_toArray,List.set_cons_zero,List.set_cons_succ])
 refine wpHeld_run (fun K hK=>?_);go_simp;go_at_call 232
 refine (frame_head F2.out f.d.len (by omega) hi0 hi1 hd Hhd.out).mono ?_;rintro e w3 ⟨A3,c3,rfl,R3,F3⟩;go_wp2_with fail
 refine hK.out _ _ F3.out ?_;clear hK K F2 F1 HC;try simp only [Act.put,List.setIfInBounds_toArray,List.set]
 refine wpHeld_nil ?_;simp only [dz_];refine wpList_app2 (by rfl) (.tmp 19) (.tmp 29) (by rfl) f.d f.bs (by rfl) F3.out.rb A3 c3 hd (by rfl) R3.out (by have:=Hlen.out;omega) ?_;intro A4 n4 cp4 w4 ha;obtain ⟨F4,c4,f4⟩:=frame_app F3.out hd ha;clear ha;go_upto_region 3 with fail
 obtain ⟨bs2,Hb2⟩:∃ bs2,Hid (f.bs++hd=bs2):=⟨_,rfl⟩;rw [Hb2.out] at F4
 have hbl:bs2.length<=1073800000:=by
  rw [<- Hb2.out,List.length_append];have:=Hlen.out;omega
 generalize w4.setCell ⟨f.b4,0,none⟩ (.slice A4 n4 cp4)=V at F4 |-; clear c4 f4 F3;have kb4:Hid (IsB V f.b4 34 #[.slice A4 n4 cp4]):=F4.out.1.cell (k:=3) rfl;have c4:V.cell? ⟨f.b4,0,none⟩=some (.slice A4 n4 cp4):=kb4.out.cell 0;go_wp2_with (refine wpList_app2 (by rfl) (.tmp 31) (.tmp 32) (by rfl) ⟨A4,n4,cp4⟩ bs2 (by rfl) F4.out.rb A c chunk (by rfl) F4.out.rs.sb (by omega) ?_;intro A5 n5 cp5 w5 ha;obtain ⟨F5,c5,f5⟩:=frame_app F4.out chunk ha;clear ha)
 refine bodyPost_ret (v:=.tuple #[]) ?_ rfl ⟨rfl,⟨A5,n5,cp5⟩,?_,F5.out.2⟩
 · simp [results,Tryz.results236,go_sem]
 have h5:=F5.out.1.tail;rw [<- Hb2.out, <- Hhd.out] at h5;unfold frOut;rw [Hbs.out];exact h5
end
end
end Go.Proofs.YteabgcollokgjaaGreatDoor
namespace Go.Proofs
section
open Go.Shelf
def Tryz.keysA_ren:Go.Shelf.Ren:=⟨fun | 7=>139 | 10=>184 | n=>n,fun | 23=>129 | 26=>3 | 3=>146 | 28=>220 | 0=>0 | 27=>219 | 33=>40 | 4=>4 | n=>n,fun | n=>n⟩
theorem Tryz.keysA:Go.Proofs.SlLaysZI.n7 Tryz.prog Tryz.keysA_ren:={
 mixed:=by kernel_rfl
 f7:=⟨Tryz.f139.name,by decide,Tryz.func139.trans (congrArg some (by kernel_rfl))⟩
 f10:=⟨Tryz.f184.name,by decide,Tryz.func184.trans (congrArg some (by kernel_rfl))⟩
 t0:=Tryz.underlying0
 a0:=Tryz.isAgg0
 z0:=Tryz.sizeOf0
 v0:=Tryz.zeroValue0
 t4:=Tryz.underlying4
 a4:=Tryz.isAgg4
 z4:=Tryz.sizeOf4
 v4:=Tryz.zeroValue4
 t23:=Tryz.underlying129
 a23:=Tryz.isAgg129
 z23:=Tryz.sizeOf129
 v23:=Tryz.zeroValue129
 t26:=Tryz.underlying3
 a26:=Tryz.isAgg3
 z26:=Tryz.sizeOf3
 v26:=Tryz.zeroValue3
 t27:=Tryz.underlying219
 a27:=Tryz.isAgg219
 z27:=Tryz.sizeOf219
 v27:=Tryz.zeroValue219
 t28:=Tryz.underlying220
 a28:=Tryz.isAgg220
 z28:=Tryz.sizeOf220
 v28:=Tryz.zeroValue220
 t33:=Tryz.underlying40
 a33:=Tryz.isAgg40
 z33:=Tryz.sizeOf40
 v33:=Tryz.zeroValue40 }
def Tryz.sortedA_ren:Go.Shelf.Ren:=⟨fun | 6=>138 | 8=>183 | 9=>133 | 11=>241 | 13=>151 | 12=>175 | 23=>197 | 24=>198 | 14=>222 | 15=>223 | 16=>224 | 17=>225 | 18=>226 | 19=>227 | 20=>228 | 21=>229 | 22=>230 | 25=>274 | 26=>243 | 27=>244 | 28=>275 | 29=>276 | 30=>200 | 31=>299 | n=>n,fun | 26=>3 | 28=>220 | 24=>47 | 0=>0 | 3=>3 | 37=>230 | 48=>276 | 50=>29 | 4=>4 | 40=>269 | 39=>268 | 45=>155 | 5=>5 | 9=>9 | 51=>316 | 55=>320 | 57=>349 | 58=>159 | 33=>40 | n=>n,fun | n=>n⟩
theorem Tryz.sortedA:Go.Proofs.SlLaysZI.n6 Tryz.prog Tryz.sortedA_ren:={
 mixed:=by kernel_rfl
 f6:=⟨Tryz.f138.name,by decide,Tryz.func138.trans (congrArg some (by kernel_rfl))⟩
 f8:=⟨Tryz.f183.name,by decide,Tryz.func183.trans (congrArg some (by kernel_rfl))⟩
 f11:=⟨Tryz.f241.name,by decide,Tryz.func241.trans (congrArg some (by kernel_rfl))⟩
 t0:=Tryz.underlying0
 a0:=Tryz.isAgg0
 z0:=Tryz.sizeOf0
 v0:=Tryz.zeroValue0
 t24:=Tryz.underlying47
 a24:=Tryz.isAgg47
 z24:=Tryz.sizeOf47
 v24:=Tryz.zeroValue47
 t26:=Tryz.underlying3
 a26:=Tryz.isAgg3
 z26:=Tryz.sizeOf3
 v26:=Tryz.zeroValue3
 t28:=Tryz.underlying220
 a28:=Tryz.isAgg220
 z28:=Tryz.sizeOf220
 v28:=Tryz.zeroValue220
 i26:=by kernel_rfl }
end
end Go.Proofs
namespace Go.Proofs.YteabgcollokgjaaGreatDoor
section
open Go.RowKit Go.MapKept Go.ChangeMaps Go.Shelf Go.Sort Go.Maps
def keysD (F:Option FR):DataW Unit:=.map (match F with | none=>[] | some _=>[(.int .i64 1,.nil)])
def nilR (_:Value):Option (DataW Unit×List MemPlace):=some (.nil,[])
theorem owns_fl {w:World} {fm:Nat} {F:Option FR} (h:MapIs okN vN vPtr w fm (fL F)):w.ownsMap Tryz.prog 3 nilR fm 1 (keysD F):=by
 obtain ⟨es,clock,hb,hs,he,hok⟩:=h;cases F with
 | none=>
  have h0:es.toList=[]:=by simpa [fL] using he
  have h1:es.size=0:=by rw [<- Array.length_toList,h0];rfl
  refine ⟨es,clock,hb,⟨by rw [h1];unfold maxLen;omega,hs,by rw [h0];simp⟩,by omega,?_⟩;rw [h0];rfl
 | some f=>
  obtain ⟨e,h0,hk⟩:∃ e,es.toList=[e]/\e.key=vN 1:=by
   match h:es.toList with
   | []=>rw [h] at he;simp [fL] at he
   | [e]=>
    rw [h] at he;simp [fL] at he;exact ⟨e,rfl,he.1⟩
   | a::b::l=>rw [h] at he;simp [fL] at he
  have h1:es.size=1:=by rw [<- Array.length_toList,h0];rfl
  have hkey:keyOf Tryz.prog 3 (vN 1)=some (.int .i64 1):=by
   have:=okN1;simp only [okN] at this;simp [keyOf,Tryz.underlying3,mapKey,this]
  have hrd:WideElems.rd Tryz.prog 3 nilR e=some (.int .i64 1,.nil):=by
   unfold WideElems.rd;rw [hk,hkey];rfl
  refine ⟨es,clock,hb,⟨by rw [h1];unfold maxLen;omega,hs,fun x hx=>?_⟩,by omega,?_⟩
  · rw [h0] at hx;simp at hx;subst hx;exact ⟨_,hrd⟩
  rw [h0];simp [keysD,WideElems.rg,hrd,DataW.insert]
theorem keysF_any (mb:Option Nat) (W:World):Calls Tryz.prog 139 #[.map mb] W (fun e w'=>e= .returned (.func (.func 184) #[] #[.pointer (some ⟨W.heap.size,0,none⟩)])/\w'=W.alloc (.cells #[.map mb] 129)):=
 (callsIn_wide (n:=5)).1 (AnyZI.keys_in Tryz.keysA Fence.wide 5 trivial rfl mb W)
theorem sortsA (m:Nat):AnyZI.SortsIn Tryz.prog Tryz.sortedA_ren Fence.wide m:=
 ⟨fun blk off cap ss W hH hblk hsz=>callsIn_wide.2 (Tryz.slices_Sort_int blk off cap ss W hH hblk hsz),
  fun p cap W=>callsIn_wide.2 (Tryz.slices_Sort_int_none p cap W)⟩
def NumPost (F:Option FR) (w:World) (e:Ending) (w':World):Prop:=
 ∃ (A:Option Addr) (n c:Nat),e= .returned (.slice A n c)/\n=(fL F).length/\(∀ f,F=some f->∃ g,A=some ⟨g,0,none⟩/\w.heap.size<=g/\g<w'.heap.size/\w'.cell? ⟨g,0,none⟩=some (.int .i64 1))/\Below w.heap.size w w'
theorem sortedF_any (Bm fm:Nat) (F:Option FR) (w:World) (hBm:Bm<w.heap.size) (hc:w.cell? ⟨Bm,0,none⟩=some (.map (some fm))) (hm:MapIs okN vN vPtr w fm (fL F)):
 Calls Tryz.prog 138 #[.func (.func 184) #[] #[.pointer (some ⟨Bm,0,none⟩)]] w (NumPost F w):=by
 have hseq:SeqGives Fence.wide 2 Tryz.prog 184 #[.pointer (some ⟨Bm,0,none⟩)] encZ (fun ss=>ss.Perm (intKeys (keysD F))) (Maps.size (keysD F)) w:=
  AnyZI.keys_gives (ρ:=Tryz.keysA_ren) { Tryz.keysA with } Fence.wide _ trivial rfl (by omega) Bm fm 1 (keysD F) _ hBm hc (owns_fl hm)
 have hsz:Maps.size (keysD F)<=1:=by cases F<;>simp [keysD,Maps.size]
 have cS:=AnyZI.sorted_in Tryz.sortedA Fence.wide 5 trivial trivial trivial trivial rfl (by omega) (sortsA _) (enters_of Tryz.func133 (by kernel_rfl) rfl) 184 #[.pointer (some ⟨Bm,0,none⟩)] trivial (enters_of Tryz.func184 (by kernel_rfl) rfl) _ _ (by unfold maxLen;omega) (by omega) _ hseq;refine ((callsIn_wide (n:=5)).1 cS).mono ?_;rintro e w' ⟨v,ss,rfl,hS,hrow,hnil,hb⟩;cases F with
 | none=>
  have h0:ss=[]:=by simpa [keysD,intKeys] using hS
  have hv:=hnil.2 h0;subst hv;exact ⟨none,0,0,rfl,rfl,(fun f hf=>by cases hf),hb⟩
 | some f=>
  have h0:ss=[1]:=List.perm_singleton.1 hS;subst h0;have hms:([1]:List Int).mergeSort (fun x y=>decide (x<=y))=[1]:=by simp
  rw [hms] at hrow;rcases hrow.2 with ⟨_,hx⟩ | ⟨g,cap,cur,hv,hrest⟩
  · simp at hx
  subst hv;have hlt:=hrow.lt g rfl;refine ⟨some ⟨g,0,none⟩,1,cap,rfl,rfl,fun f' _=>⟨g,rfl,hlt.1,hlt.2,?_⟩,hb⟩;have:=hrow.cellAt 0 (by simp);rw [this];rfl
end
section
open Go.RowKit Go.MapKept Go.ChangeMaps
attribute [local go_sem] wext_cell
theorem part_any (A:Option Addr) (c:Nat) (bs:List UInt8) (i:ID) (o:Nat) (w:World) (h:RS w A bs) (hn:bs.length<=4194304) (hc:bs.length<=c) (hi:1<=i.2) (hi2:(o:Int)+28+i.2<=bs.length):
 Calls Tryz.prog 237 #[.slice A bs.length c,.agg #[.int .u64 i.1,.int .i64 i.2,.int .i64 (o:Int)]] w (NewB (cutB bs i o) w):=by
 obtain ⟨s,z⟩:=i;simp only at hi hi2;have H:=hid h;clear h;obtain ⟨zn,hzn⟩:∃ zn:Nat,z=(zn:Int):=⟨z.toNat,by omega⟩;obtain ⟨cs,HCS⟩:∃ cs,Hid ((bs.drop (o+28))=cs):=⟨_,rfl⟩;have hcl:cs.length=bs.length-(o+28):=by rw [<- HCS.out,List.length_drop]
 subst hzn;have hle:o+28+zn<=bs.length:=by omega
 have HCB:Hid (cutB bs (s,(zn:Int)) o=cs.take zn):=by
  rw [Hid, <- HCS.out];unfold cutB;simp only;rw [Int.toNat_natCast]
 rw [HCB.out];cases A with
 | none=>exact absurd (H.out.1 rfl) (by omega)
 | some ad=>
  obtain ⟨g,og,rfl,_⟩:=H.out.2 ad rfl;have hrs:=H.out.sub (o+28) cs.length (by omega);rw [HCS.out,List.take_length] at hrs;have hmk:=mk_bytes (w.alloc (.cells #[.int .u64 s,.int .i64 (zn:Int),.int .i64 (o:Int)] 166)) zn zn (by omega) (by omega)
  have hB:IsB ((w.alloc (.cells #[.int .u64 s,.int .i64 (zn:Int),.int .i64 (o:Int)] 166)).alloc (.cells (Array.replicate zn (encU 0)) 5)) (w.heap.size+1) 5 (Array.replicate zn (encU 0)):=by
   have:=IsB.new (w.alloc (.cells #[.int .u64 s,.int .i64 (zn:Int),.int .i64 (o:Int)] 166)) 5 (Array.replicate zn (encU 0));simpa using this
  have B1:=hid ((bel1q w (.cells #[.int .u64 s,.int .i64 (zn:Int),.int .i64 (o:Int)] 166)).alloc (by simp) (.cells (Array.replicate zn (encU 0)) 5));obtain ⟨w1,hcp,hg,hz,cur',c1,c2,c3,c4⟩:=run_copyB _ 3 (w.heap.size+1) zn zn _ hB (some ⟨g,og+(o+28),none⟩) (c-(o+28)) cs (hrs.on B1.out).sb (by simp;omega);have hmin:min cs.length zn=zn:=by omega
  rw [hmin] at hcp c3 c4;have HG:=hid hg;have C1:=hid c1;have C2:=hid c2;have C3:=hid c3;clear hg hz c1 c2 c3 c4 hB hrs hmin;have c0:(w.alloc (.cells #[.int .u64 s,.int .i64 (zn:Int),.int .i64 (o:Int)] 166)).cell? ⟨w.heap.size,1,none⟩=some (.int .i64 (zn:Int)):=(IsB.new w 166 _).cell 1;have k2:((w.alloc (.cells #[.int .u64 s,.int .i64 (zn:Int),.int .i64 (o:Int)] 166)).alloc (.cells (Array.replicate zn (encU 0)) 5)).cell? ⟨w.heap.size,2,none⟩=some (.int .i64 (o:Int)):=((IsB.new w 166 _).on (bel1q _ _)).cell 2;have hlt:¬ (c:Int)=(o:Int)+28:=by omega
  have hcln:bs.length-(o+28)=cs.length:=hcl.symm;clear hcl;go_enter Tryz.func237,Tryz.ntmps237;go_wp2_with fail
  go_ret;refine ⟨⟨some ⟨w.heap.size+1,0,none⟩,zn,zn⟩,rfl,⟨by simp;omega,Nat.le_refl _,(fun e=>by cases e),fun ad e=>?_⟩,(fun g hg=>by simp [blk] at hg;omega),?_⟩
  · injection e with e;subst e;refine ⟨_,cur',rfl,C1.out,by rw [C2.out];simp,fun j u hu=>?_⟩;obtain ⟨hj,rfl⟩:=get_encU hu
    have hj2:j<zn:=by
     rw [List.length_take] at hj;omega
    rw [C3.out j hj2,List.getD_eq_getElem?_getD,List.getD_eq_getElem?_getD,List.getElem?_take_of_lt hj2]
  exact B1.out.grown HG.out (by simp;omega) (by simp)
theorem frameSize_any (i:ID) (w:World) (h0:0<=i.2) (h1:i.2<=1099511627776):Calls Tryz.prog 140 #[.agg #[.int .u64 i.1,.int .i64 i.2]] w (Gives (.int .i64 (28+i.2)) w):=by
 have hs:IntKind.i64.wrap (28+i.2)=28+i.2:=IntWalk.i64_in _ (by omega);go_enter Tryz.func140,Tryz.ntmps140;go_wp2_with fail
 go_ret;exact ⟨rfl,bel1q _ _⟩
theorem cl145_any (pc g:Nat) (len:Int) (i:ID) (w:World) (hc:w.cell? ⟨pc,4,none⟩=some (.int .i64 len)) (hg0:w.cell? ⟨g,0,none⟩=some (.int .u64 i.1)) (hg1:w.cell? ⟨g,1,none⟩=some (.int .i64 i.2)) (h0:0<=i.2) (h1:0<=len) (h2:len+(28+i.2)<=1048576):
 Calls Tryz.prog 145 #[vPtr pc,vPtr g] w (Gives (.bool true) w):=by
 have hpl:pc<w.heap.size:=World.block_lt_of_cell? _ _ hc;have hgl:g<w.heap.size:=World.block_lt_of_cell? _ _ hg0;have hs:IntKind.i64.wrap (len+(28+i.2))=len+(28+i.2):=IntWalk.i64_in _ (by omega);go_enter Tryz.func145,Tryz.ntmps145;go_wp2_with fail
 refine wp_region_ext (by kernel_rfl) (by kernel_rfl) ?_;repeat (go_big_quiet_step ((go_at_call 140;exact ext_call (frameSize_any i _ h0 (by omega)))))
 refine wpQuiet_nil ?_;intro w1 hb1;go_wp2_with fail
 go_ret;exact ⟨by simp,hb1⟩
theorem cl147_any (pc:Nat) (A:Option Addr) (n c:Nat) (w:World) (hc:w.cell? ⟨pc,3,none⟩=some (.slice A n c)) (h0:0<n):
 Calls Tryz.prog 147 #[vPtr pc] w (Gives (.bool false) w):=by
 have hn:((n:Int)==0)=false:=by simp;omega
 have hn2:decide ((n:Int)=0)=false:=by simp;omega
 go_enter Tryz.func147,Tryz.ntmps147;go_wp2_with fail
 go_ret;exact ⟨by simp,Below.refl _ _⟩
theorem index0 (f:Value) (w:World):Calls Tryz.prog 144 #[.slice none 0 0,f] w (Gives (.int .i64 (-1)) w):=by
 go_enter Tryz.func144,Tryz.ntmps144;go_wp2_with fail
 refine wp_loop_rounds 1 ?_;rw [rounds_succ];go_wp2_with fail
 go_ret;exact ⟨rfl,Below.refl _ _⟩
theorem index145 (lg pc g cap:Nat) (len:Int) (i:ID) (w:World) (hl:w.cell? ⟨lg,0,none⟩=some (vPtr pc)) (hc:w.cell? ⟨pc,4,none⟩=some (.int .i64 len)) (hg0:w.cell? ⟨g,0,none⟩=some (.int .u64 i.1)) (hg1:w.cell? ⟨g,1,none⟩=some (.int .i64 i.2)) (h0:0<=i.2) (h1:0<=len) (h2:len+(28+i.2)<=1048576):
 Calls Tryz.prog 144 #[.slice (some ⟨lg,0,none⟩) 1 cap,.func (.func 145) #[] #[vPtr g]] w (Gives (.int .i64 0) w):=by
 have HC:=hid (cl145_any pc g len i w hc hg0 hg1 h0 h1 h2);go_enter Tryz.func144,Tryz.ntmps144;go_wp2_with fail
 refine wp_loop_rounds 1 ?_;rw [rounds_succ];go_wp2_with (go_at_call 145;refine HC.out.mono ?_;rintro e w1 ⟨rfl,hb⟩)
 go_ret;exact ⟨rfl,hb⟩
theorem index147 (lg pc cap:Nat) (A:Option Addr) (n c:Nat) (w:World) (hl:w.cell? ⟨lg,0,none⟩=some (vPtr pc)) (hc:w.cell? ⟨pc,3,none⟩=some (.slice A n c)) (h0:0<n):
 Calls Tryz.prog 144 #[.slice (some ⟨lg,0,none⟩) 1 cap,.func (.func 147) #[] #[]] w (Gives (.int .i64 (-1)) w):=by
 have HC:=hid (cl147_any pc A n c w hc h0);go_enter Tryz.func144,Tryz.ntmps144;go_wp2_with fail
 refine wp_loop_rounds 2 ?_;rw [rounds_succ];go_wp2_with (go_at_call 147;refine HC.out.mono ?_;rintro e w1 ⟨rfl,hb⟩)
 rw [rounds_succ];go_wp2_with fail
 go_ret;exact ⟨rfl,hb⟩
theorem delete147 (lg pc cap:Nat) (A:Option Addr) (n c:Nat) (w:World) (hl:w.cell? ⟨lg,0,none⟩=some (vPtr pc)) (hc:w.cell? ⟨pc,3,none⟩=some (.slice A n c)) (h0:0<n):
 Calls Tryz.prog 146 #[.slice (some ⟨lg,0,none⟩) 1 cap,.func (.func 147) #[] #[]] w (Gives (.slice (some ⟨lg,0,none⟩) 1 cap) w):=by
 have HC:=hid (index147 lg pc cap A n c w hl hc h0);go_enter Tryz.func146,Tryz.ntmps146;go_wp2_with (go_at_call 144;refine HC.out.mono ?_;rintro e w1 ⟨rfl,hb⟩)
 go_ret;exact ⟨rfl,hb⟩
end
end Go.Proofs.YteabgcollokgjaaGreatDoor
