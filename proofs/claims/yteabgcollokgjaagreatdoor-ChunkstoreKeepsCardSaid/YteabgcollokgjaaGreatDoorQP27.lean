/- Q -/
import Derived.Test.YteabgcollokgjaaGreatDoorQP26
import Derived.Shelf.Strconv.AtoiErr
import Derived.Shelf.Strconv.Atoi
set_option linter.unusedSimpArgs false
set_option linter.unusedVariables false
set_option maxRecDepth 100000
set_option maxHeartbeats 32000000
open Go.Lib renaming hid → kh
namespace Go.Proofs.YteabgcollokgjaaGreatDoor
section
open Go.RowKit Go.MapKept Go.ChangeMaps Go.Shelf Go.Sort
attribute [local go_sem] wext_cell
section
variable {b:Nat} {w0 w w2:World} {l:List Ob}
theorem SW.stale (h:SW b w0 l w) (k:Nat) {fm:Nat} {f:FR} (hk:l[k]? =some (flOb fm (some f))) {T:List (ID×Bool)} (hm:MapIs okID vID vBl w2 f.sb T) (hg:w.grownBy w2 (some f.sb)):SW b w0 (l.set k (flOb fm (some { f with T:=T }))) w2:=by
 have hh:=h.get k (o:=flOb fm (some f)) hk;obtain ⟨h1,h2,h3⟩:=hh.2 f rfl;have hlt:=h1.lt;have hm1:MapIs okN vN vPtr w2 fm (fL (some f)):=hh.1.kept hg (fun e=>h3 (by injection e with e;exact e.symm));have hi:IsB w2 f.fb 145 ({ f with T:=T }:FR).cells:=h1.grown hg (fun e=>map_is h2 (by injection e with e;rw [<- e];exact h1))
 have:=h.1.stepAt k hk (w':=w2) (o':=flOb fm (some { f with T:=T })) (Fr.grown hg (Or.inr ⟨f,rfl,.inr rfl⟩) (fun i hi=> .inl (by
  rcases hi with hi | ⟨f',e,hi⟩
  · exact .inl hi
  · injection e with e;subst e;exact .inr ⟨f,rfl,hi⟩))) (fun i hi=>hi.elim) ⟨hm1,fun f' e=>by
  injection e with e;subst e;exact ⟨hi,hm,h3⟩⟩ (fun i hi'=>by
  rcases hi' with (hi' | ⟨f',e,hi'⟩) | hi'
  · rw [hi'];exact hm1.lt
  · injection e with e;subst e;rcases hi' with hi' | hi'
    · rw [hi'];exact hi.lt
    rw [hi'];exact hm.lt
  exact hi'.elim)
 exact ⟨this.1,h.2.trans this.2⟩
theorem SW.unclean (h:SW b w0 l w) (k:Nat) {fm:Nat} {f:FR} (hk:l[k]? =some (flOb fm (some f))):SW b w0 (l.set k (flOb fm (some { f with clean:=false }))) (w.setCell ⟨f.fb,1,none⟩ (.bool false)):=by
 have hh:=h.get k (o:=flOb fm (some f)) hk;obtain ⟨h1,h2,h3⟩:=hh.2 f rfl;have hg:w.grownBy (w.setCell ⟨f.fb,1,none⟩ (.bool false)) (some f.fb):=g_set (p:=⟨f.fb,1,none⟩) (g_refl _ _) (.inl rfl) _;have hlt:=h1.lt;have hm1:MapIs okN vN vPtr (w.setCell ⟨f.fb,1,none⟩ (.bool false)) fm (fL (some f)):=hh.1.kept hg (fun e=>map_is hh.1 (by injection e with e;rw [e];exact h1));have hm2:MapIs okID vID vBl (w.setCell ⟨f.fb,1,none⟩ (.bool false)) f.sb f.T:=h2.kept hg (fun e=>map_is h2 (by injection e with e;rw [e];exact h1));have hi:IsB (w.setCell ⟨f.fb,1,none⟩ (.bool false)) f.fb 145 ({ f with clean:=false }:FR).cells:=h1.set_ 1 _
 have:=h.1.stepAt k hk (w':=w.setCell ⟨f.fb,1,none⟩ (.bool false)) (o':=flOb fm (some { f with clean:=false })) (Fr.grown hg (Or.inr ⟨f,rfl,.inl rfl⟩) (fun i hi=> .inl (by
  rcases hi with hi | ⟨f',e,hi⟩
  · exact .inl hi
  · injection e with e;subst e;exact .inr ⟨f,rfl,hi⟩))) (fun i hi=>hi.elim) ⟨hm1,fun f' e=>by
  injection e with e;subst e;exact ⟨hi,hm2,h3⟩⟩ (fun i hi'=>by
  rcases hi' with (hi' | ⟨f',e,hi'⟩) | hi'
  · rw [hi'];exact hm1.lt
  · injection e with e;subst e;rcases hi' with hi' | hi'
    · rw [hi'];exact hi.lt
    rw [hi'];exact hm2.lt
  exact hi'.elim)
 exact ⟨this.1,h.2.trans this.2⟩
theorem SW.newFileN (h:SW b w0 l w) (n:Nat) (k:Nat) {fm:Nat} (hk:l[k]? =some (flOb fm none)) (hm:MapIs okN vN vPtr w2 fm [(1,w.heap.size+1)]) (hg:((w.alloc (.map #[] 0)).alloc (.cells #[.int .i64 (n:Int),.bool true,.map (some w.heap.size)] 145)).grownBy w2 (some fm)):SW b w0 (l.set k (flOb fm (some ⟨w.heap.size+1,w.heap.size,n,true,[]⟩))) w2:=by
 have hh:=h.get k (o:=flOb fm none) hk;have hfl:=hh.1.lt;have hb:Below w.heap.size w ((w.alloc (.map #[] 0)).alloc (.cells #[.int .i64 (n:Int),.bool true,.map (some w.heap.size)] 145)):=(bel1q _ _).alloc (by simp) _
 have hi0:IsB ((w.alloc (.map #[] 0)).alloc (.cells #[.int .i64 (n:Int),.bool true,.map (some w.heap.size)] 145)) (w.heap.size+1) 145 #[.int .i64 (n:Int),.bool true,.map (some w.heap.size)]:=by
  have:=IsB.new (w.alloc (.map #[] 0)) 145 #[.int .i64 (n:Int),.bool true,.map (some w.heap.size)];simpa using this
 have hi:IsB w2 (w.heap.size+1) 145 #[.int .i64 (n:Int),.bool true,.map (some w.heap.size)]:=hi0.grown hg (by simp;omega);have hm0:MapIs okID vID vBl ((w.alloc (.map #[] 0)).alloc (.cells #[.int .i64 (n:Int),.bool true,.map (some w.heap.size)] 145)) w.heap.size []:=(MapIs.made w).alloc _;have hm2:MapIs okID vID vBl w2 w.heap.size []:=hm0.kept hg (by simp;omega)
 have:=h.1.stepAt k hk (w':=w2) (o':=flOb fm (some ⟨w.heap.size+1,w.heap.size,n,true,[]⟩)) ⟨hg.os.trans hb.os,hg.tape.trans hb.tape,hg.output.trans hb.output,Nat.le_trans hb.size hg.size,fun i hi hn=>(hg.block i (Nat.lt_of_lt_of_le hi hb.size) (fun e=>hn (.inl (by injection e)))).trans (hb.block i hi),fun i hi=>by
  rcases hi with hi | ⟨f',e,hi⟩
  · exact .inl (.inl hi)
  · injection e with e;subst e;simp only at hi;exact .inr (by omega)⟩ (fun i hi=>hi.elim) ⟨hm,fun f' e=>by
  injection e with e;subst e;exact ⟨hi,hm2,by simp;omega⟩⟩ (fun i hi'=>by
  rcases hi' with (hi' | ⟨f',e,hi'⟩) | hi'
  · rw [hi'];exact hm.lt
  · injection e with e;subst e;rcases hi' with hi' | hi'
    · rw [hi'];exact hi.lt
    rw [hi'];exact hm2.lt
  exact hi'.elim)
 exact ⟨this.1,h.2.trans this.2⟩
end
def foundC (bs:List UInt8) (C:Chs) (T:List (ID×Bool)) (i:ID) (o:Nat):Chs×List (ID×Bool):=
 match asc C i with
 | none=>(setL C i (.at o),T)
 | some (.pend _ _)=>(C,T)
 | some (.at q)=>(if cutOk bs i q=false/\cutOk bs i o=true then setL C i (.at o) else C,setL T i true)
section
variable {b:Nat} {w0 w:World} {x:SR} {l:List Ob}
theorem found_new (A:Option Addr) (bs:List UInt8) (h:SW b w0 (x.obs (rsOb A bs::l)) w) (f:FR) (hF:x.F=some f) (i:ID) (hi:okID i) (o c:Nat) (ha:asc x.C i=none):
 Calls Tryz.prog 177 #[vPtr x.ps,.agg #[.int .u64 i.1,.int .i64 i.2],.agg #[.slice none 0 0,.int .i64 1,.int .i64 (o:Int)],.slice A bs.length c] w (fun e w'=>e= .returned (.tuple #[])/\SW b w0 (({ x with C:=setL x.C i (.at o) }:SR).obs (rsOb A bs::l)) w'):=by
 have S1:Hid (SW b w0 (cellOb (w.heap.size+1) 138 #[.slice none 0 0,.int .i64 1,.int .i64 (o:Int)]::cellOb w.heap.size 31 #[.int .u64 i.1,.int .i64 i.2]::x.obs (rsOb A bs::l)) _):=(h.newCell 31 #[.int .u64 i.1,.int .i64 i.2]).newCellAt 138 #[.slice none 0 0,.int .i64 1,.int .i64 (o:Int)] (H:=w.heap.size+1) (by simp);have HA:=kh ha;have HI:=kh hi;clear h ha hi;go_enter Tryz.func177,Tryz.ntmps177;go_upto_region 1 with fail
 generalize (w.alloc _).alloc _=W1 at S1 |-; have c2:W1.cell? ⟨x.ps,2,none⟩=some (.map (some x.cm)):=(S1.out.cell 3 rfl).cell 2;have d0:W1.cell? ⟨w.heap.size,0,none⟩=some (.int .u64 i.1):=(S1.out.cell 1 rfl).cell 0;have d1:W1.cell? ⟨w.heap.size,1,none⟩=some (.int .i64 i.2):=(S1.out.cell 1 rfl).cell 1;have hl1:=look_no (S1.out.get 4 (o:=chOb x.cm x.C) rfl).1 HI.out HA.out W1.drew ((Below.refl _ W1).drew);have hl2:=look_no (S1.out.get 4 (o:=chOb x.cm x.C) rfl).1 HI.out HA.out (W1.alloc (.cells #[.slice none 0 0,.int .i64 0,.int .i64 0] 138)).drew ((bel1q W1 _).drew);have g1:w.heap.size<W1.heap.size:=(S1.out.cell 1 rfl).lt;have g2:x.ps<W1.heap.size:=(S1.out.cell 3 rfl).lt;have S2:Hid (SW b w0 (cellOb W1.heap.size 138 #[.slice none 0 0,.int .i64 0,.int .i64 0]::cellOb (w.heap.size+1) 138 #[.slice none 0 0,.int .i64 1,.int .i64 (o:Int)]::cellOb w.heap.size 31 #[.int .u64 i.1,.int .i64 i.2]::x.obs (rsOb A bs::l)) (W1.alloc (.cells #[.slice none 0 0,.int .i64 0,.int .i64 0] 138)).drew):=(S1.out.newCell 138 #[.slice none 0 0,.int .i64 0,.int .i64 0]).drew;go_region
 all_goals (
  generalize (W1.alloc (.cells #[.slice none 0 0,.int .i64 0,.int .i64 0] 138)).drew=W2 at S2 |-; clear c2 d0 d1 hl1 hl2 g1 g2;have c2:W2.cell? ⟨x.ps,2,none⟩=some (.map (some x.cm)):=(S2.out.cell 4 rfl).cell 2;have d0:W2.cell? ⟨w.heap.size,0,none⟩=some (.int .u64 i.1):=(S2.out.cell 2 rfl).cell 0;have d1:W2.cell? ⟨w.heap.size,1,none⟩=some (.int .i64 i.2):=(S2.out.cell 2 rfl).cell 1;have e0:W2.cell? ⟨w.heap.size+1,0,none⟩=some (.slice none 0 0):=(S2.out.cell 1 rfl).cell 0;have e1:W2.cell? ⟨w.heap.size+1,1,none⟩=some (.int .i64 1):=(S2.out.cell 1 rfl).cell 1;have e2:W2.cell? ⟨w.heap.size+1,2,none⟩=some (.int .i64 (o:Int)):=(S2.out.cell 1 rfl).cell 2;obtain ⟨w7,hu,hm7,hg7,hz7⟩:=MapIs.update mkI Tryz.underlying128 (S2.out.drew.get 5 (o:=chOb x.cm x.C) rfl).1 HI.out (Pl.at o);have hu':(Instr.mapUpdate 128 (.map (some x.cm)) (.agg #[.int .u64 i.1,.int .i64 i.2]) (.agg #[.slice none 0 0,.int .i64 1,.int .i64 (o:Int)])).run Tryz.prog W2.drew= .ok () w7:=hu;have S7:=kh ((S2.out.drew.note 5 (cm:=x.cm) (C:=x.C) rfl hm7 hg7).tail.tail.tail);clear hu hm7 hg7 hz7 S2 S1;go_wp2_with fail
  go_region
  go_wp2_with fail
  refine bodyPost_ret (v:=.tuple #[]) ?_ rfl ⟨rfl,S7.out⟩;first | (exact results_none _ _ rfl _) | rfl | simp [results,Tryz.results177])
theorem found_old (A:Option Addr) (bs:List UInt8) (h:SW b w0 (x.obs (rsOb A bs::l)) w) (f:FR) (hF:x.F=some f) (i:ID) (hi:okID i) (hi1:1<=i.2) (hi2:i.2<=9223372036854775807) (o c q:Nat) (ha:asc x.C i=some (.at q)) (hn:bs.length<=4194304) (hc:bs.length<=c) (ho:o<=4194304) (hq:q<=4194304) (hnm:x.nm.size<=1000) (hE:readE x.s (fileN x.nm)=0) (hB:readB x.s (fileN x.nm)=bs):
 Calls Tryz.prog 177 #[vPtr x.ps,.agg #[.int .u64 i.1,.int .i64 i.2],.agg #[.slice none 0 0,.int .i64 1,.int .i64 (o:Int)],.slice A bs.length c] w (fun e w'=>e= .returned (.tuple #[])/\SW b w0 (({ x with C:=if cutOk bs i q=false/\cutOk bs i o=true then setL x.C i (.at o) else x.C,F:=some { f with T:=setL f.T i true } }:SR).obs (rsOb A bs::l)) w'):=by
 have S1:Hid (SW b w0 (cellOb (w.heap.size+1) 138 #[.slice none 0 0,.int .i64 1,.int .i64 (o:Int)]::cellOb w.heap.size 31 #[.int .u64 i.1,.int .i64 i.2]::x.obs (rsOb A bs::l)) _):=(h.newCell 31 #[.int .u64 i.1,.int .i64 i.2]).newCellAt 138 #[.slice none 0 0,.int .i64 1,.int .i64 (o:Int)] (H:=w.heap.size+1) (by simp);have HA:=kh ha;have HI:=kh hi;have HF:=kh hF
 have HRC:Hid ((readC x.s x.nm i (.at q)).isSome=cutOk bs i q):=by
  rw [Hid,readC,hE,hB];cases cutOk bs i q<;>rfl
 clear h ha hi hF hE hB;go_enter Tryz.func177,Tryz.ntmps177;go_upto_region 1 with fail
 generalize (w.alloc _).alloc _=W1 at S1 |-; have c2:W1.cell? ⟨x.ps,2,none⟩=some (.map (some x.cm)):=(S1.out.cell 3 rfl).cell 2;have d0:W1.cell? ⟨w.heap.size,0,none⟩=some (.int .u64 i.1):=(S1.out.cell 1 rfl).cell 0;have d1:W1.cell? ⟨w.heap.size,1,none⟩=some (.int .i64 i.2):=(S1.out.cell 1 rfl).cell 1;have hl1:=look_at (S1.out.get 4 (o:=chOb x.cm x.C) rfl).1 HI.out HA.out W1.drew ((Below.refl _ W1).drew);have hl2:=look_at (S1.out.get 4 (o:=chOb x.cm x.C) rfl).1 HI.out HA.out (W1.alloc (.cells #[.slice none 0 0,.int .i64 0,.int .i64 0] 138)).drew ((bel1q W1 _).drew);simp only [Pl.A,Pl.len,Pl.cap,Pl.f,Pl.o] at hl1 hl2;have g1:w.heap.size<W1.heap.size:=(S1.out.cell 1 rfl).lt;have g2:x.ps<W1.heap.size:=(S1.out.cell 3 rfl).lt;have S2:Hid (SW b w0 (cellOb W1.heap.size 138 #[.slice none 0 0,.int .i64 1,.int .i64 (q:Int)]::cellOb (w.heap.size+1) 138 #[.slice none 0 0,.int .i64 1,.int .i64 (o:Int)]::cellOb w.heap.size 31 #[.int .u64 i.1,.int .i64 i.2]::x.obs (rsOb A bs::l)) (W1.alloc (.cells #[.slice none 0 0,.int .i64 1,.int .i64 (q:Int)] 138)).drew):=(S1.out.newCell 138 #[.slice none 0 0,.int .i64 1,.int .i64 (q:Int)]).drew;go_region
 all_goals (
  generalize (W1.alloc (.cells #[.slice none 0 0,.int .i64 1,.int .i64 (q:Int)] 138)).drew=W2 at S2 |-; generalize W1.heap.size=H1 at S2 |-; clear c2 d0 d1 hl1 hl2 g1 g2 S1;have d0:W2.cell? ⟨w.heap.size,0,none⟩=some (.int .u64 i.1):=(S2.out.cell 2 rfl).cell 0;have d1:W2.cell? ⟨w.heap.size,1,none⟩=some (.int .i64 i.2):=(S2.out.cell 2 rfl).cell 1;have e2:W2.cell? ⟨w.heap.size+1,2,none⟩=some (.int .i64 (o:Int)):=(S2.out.cell 1 rfl).cell 2;have HCU:=kh (cut_any A c bs i o W2 (S2.out.get 7 (o:=rsOb A bs) rfl) hn hc ho hi1 hi2);go_wp2_with (go_at_call 102;(with_reducible refine HCU.out.mono ?_);refine halt_ ?_)
  rintro e w3 ⟨A3,c3,cs3,rfl, -, -, -, hb3⟩;have S3:=kh (S2.out.on hb3);clear hb3 HCU S2 d0 d1 e2;have d0:w3.cell? ⟨w.heap.size,0,none⟩=some (.int .u64 i.1):=(S3.out.cell 2 rfl).cell 0;have d1:w3.cell? ⟨w.heap.size,1,none⟩=some (.int .i64 i.2):=(S3.out.cell 2 rfl).cell 1;have e0:w3.cell? ⟨H1,0,none⟩=some (.slice none 0 0):=(S3.out.cell 0 rfl).cell 0;have e1:w3.cell? ⟨H1,1,none⟩=some (.int .i64 1):=(S3.out.cell 0 rfl).cell 1;have e2:w3.cell? ⟨H1,2,none⟩=some (.int .i64 (q:Int)):=(S3.out.cell 0 rfl).cell 2;have HRD:=kh (read_any (x:=x) (l:=rsOb A bs::l) S3.out.tail.tail.tail.1 i (.at q) (mem_of_asc HA.out) hi1 hi2 hnm (fun o' e=>by injection e with e;omega) (fun d bs' e=>by cases e));simp only [Pl.A,Pl.len,Pl.cap,Pl.f,Pl.o] at HRD;go_wp2_with (go_at_call 85;(with_reducible refine HRD.out.mono ?_);refine halt_ ?_)
  rintro e w4 ⟨A4,c4,cs4,rfl, -, -, -, hb4⟩;rw [HRC.out];have S4:=kh (S3.out.on hb4);clear hb4 HRD S3 d0 d1 e0 e1 e2 HRC;have c3:w4.cell? ⟨x.ps,3,none⟩=some (.map (some x.fm)):=(S4.out.cell 4 rfl).cell 3;have c2:w4.cell? ⟨x.ps,2,none⟩=some (.map (some x.cm)):=(S4.out.cell 4 rfl).cell 2;have d0:w4.cell? ⟨w.heap.size,0,none⟩=some (.int .u64 i.1):=(S4.out.cell 2 rfl).cell 0;have d1:w4.cell? ⟨w.heap.size,1,none⟩=some (.int .i64 i.2):=(S4.out.cell 2 rfl).cell 1;have e1:w4.cell? ⟨H1,1,none⟩=some (.int .i64 1):=(S4.out.cell 0 rfl).cell 1;have f1:w4.cell? ⟨w.heap.size+1,1,none⟩=some (.int .i64 1):=(S4.out.cell 1 rfl).cell 1;have hfl:=S4.out.get 6 (o:=flOb x.fm x.F) rfl;have m2:w4.cell? ⟨f.fb,2,none⟩=some (.map (some f.sb)):=(hfl.2 f HF.out).1.cell 2;have S4d:=kh S4.out.drew;have hfd:=S4d.out.get 6 (o:=flOb x.fm x.F) rfl;have hlf:=look_f1 hfd.1 HF.out;obtain ⟨w7,hu,hm7,hg7,hz7⟩:=MapIs.update mkI Tryz.underlying143 (hfd.2 f HF.out).2.1 HI.out true;have hu':(Instr.mapUpdate 143 (.map (some f.sb)) (.agg #[.int .u64 i.1,.int .i64 i.2]) (.bool true)).run Tryz.prog w4.drew= .ok () w7:=hu;have S7:=kh (S4d.out.stale 6 (fm:=x.fm) (f:=f) (by rw [<- HF.out];rfl) hm7 hg7);clear hu hm7 hg7 hz7 S4 S4d hfl hfd;cases hq1:cutOk bs i q
  · cases ho1:cutOk bs i o
    · go_wp2_with fail
      go_region
      all_goals go_wp2_with fail
      all_goals (
       refine bodyPost_ret (v:=.tuple #[]) ?_ rfl ⟨rfl,S7.out.tail.tail.tail⟩;first | (exact results_none _ _ rfl _) | rfl | simp [results,Tryz.results177])
    go_wp2_with fail
    go_region
    all_goals (
     clear c3 c2 d0 d1 e1 f1 m2 hlf hu';have c2:w7.cell? ⟨x.ps,2,none⟩=some (.map (some x.cm)):=(S7.out.cell 4 rfl).cell 2;have d0:w7.cell? ⟨w.heap.size,0,none⟩=some (.int .u64 i.1):=(S7.out.cell 2 rfl).cell 0;have d1:w7.cell? ⟨w.heap.size,1,none⟩=some (.int .i64 i.2):=(S7.out.cell 2 rfl).cell 1;have e0:w7.cell? ⟨w.heap.size+1,0,none⟩=some (.slice none 0 0):=(S7.out.cell 1 rfl).cell 0;have e1:w7.cell? ⟨w.heap.size+1,1,none⟩=some (.int .i64 1):=(S7.out.cell 1 rfl).cell 1;have e2:w7.cell? ⟨w.heap.size+1,2,none⟩=some (.int .i64 (o:Int)):=(S7.out.cell 1 rfl).cell 2;obtain ⟨w8,hu,hm8,hg8,hz8⟩:=MapIs.update mkI Tryz.underlying128 (S7.out.drew.get 5 (o:=chOb x.cm x.C) rfl).1 HI.out (Pl.at o);have hu':(Instr.mapUpdate 128 (.map (some x.cm)) (.agg #[.int .u64 i.1,.int .i64 i.2]) (.agg #[.slice none 0 0,.int .i64 1,.int .i64 (o:Int)])).run Tryz.prog w7.drew= .ok () w8:=hu;have S8:=kh ((S7.out.drew.note 5 (cm:=x.cm) (C:=x.C) rfl hm8 hg8).tail.tail.tail);clear hu hm8 hg8 hz8 S7;go_wp2_with fail
     go_region
     all_goals go_wp2_with fail
     all_goals (
      go_end0;exact ⟨rfl,S8.out⟩))
  go_wp2_with fail
  go_region
  all_goals go_wp2_with fail
  all_goals (
   refine bodyPost_ret (v:=.tuple #[]) ?_ rfl ⟨rfl,S7.out.tail.tail.tail⟩;first | (exact results_none _ _ rfl _) | rfl | simp [results,Tryz.results177]))
end
end
section
open Go.RowKit Go.MapKept Go.ChangeMaps Go.Shelf Go.Sort
attribute [local go_sem] wext_cell
def scanF (bs:List UInt8):Nat->Nat->Chs->List (ID×Bool)->Bool->Chs×List (ID×Bool)×Bool
 | 0,_,C,T,cl=>(C,T,cl)
 | n+1,o,C,T,cl=>
  if o<bs.length then
   match rdHead bs o with
   | none=>scanF bs n (o+1) C T false
   | some i=>if i.2<1∨(bs.length:Int)-o-28<i.2 then (C,T,false) else scanF bs n (o+(28+i.2.toNat)) (foundC bs C T i o).1 (foundC bs C T i o).2 cl
  else (C,T,cl)
theorem rdHead_some {bs:List UInt8} {o:Nat} {i:ID} (h:rdHead bs o=some i):i=rdID bs o/\o+28<=bs.length:=by
 unfold rdHead at h;split at h
 · rename_i h1
   injection h with h;exact ⟨h.symm,h1.1⟩
 cases h
theorem s64_lo {n:Nat} (h:n<18446744073709551616): -9223372036854775808<=s64 n/\s64 n<=9223372036854775807:=by
 unfold s64;split<;>omega
theorem rdID_ok (bs:List UInt8) (o:Nat):okID (rdID bs o):=by
 have h1:=leN8 (bs.drop (o+12));have h2:=s64_lo (leN8 (bs.drop (o+4)));exact okID_of (by simp only [rdID];omega) (by simp only [rdID];omega) h2.1 h2.2
def LAt (C:Chs):Prop:=∀ i pl,asc C i=some pl->∃ q,pl= .at q/\q<=4194304
theorem LAt.nil:LAt []:=fun i pl h=>by cases h
theorem LAt.set {C:Chs} (h:LAt C) (i:ID) (o:Nat) (ho:o<=4194304):LAt (setL C i (.at o)):=fun j pl hj=>by
 rw [asc_setL] at hj;split at hj
 · injection hj with hj;exact ⟨o,hj.symm,ho⟩
 exact h j pl hj
theorem LAt.found {C:Chs} (h:LAt C) (bs:List UInt8) (T:List (ID×Bool)) (i:ID) (o:Nat) (ho:o<=4194304):LAt (foundC bs C T i o).1:=by
 unfold foundC;split
 · exact h.set i o ho
 · exact h
 simp only;split
 · exact h.set i o ho
 exact h
section
variable {b:Nat} {w0 w:World} {x:SR} {l:List Ob}
theorem found_any (A:Option Addr) (bs:List UInt8) (h:SW b w0 (x.obs (rsOb A bs::l)) w) (f:FR) (hF:x.F=some f) (hL:LAt x.C) (i:ID) (hi:okID i) (hi1:1<=i.2) (hi2:i.2<=9223372036854775807) (o c:Nat) (hn:bs.length<=4194304) (hc:bs.length<=c) (ho:o<=4194304) (hnm:x.nm.size<=1000) (hE:readE x.s (fileN x.nm)=0) (hB:readB x.s (fileN x.nm)=bs):
 Calls Tryz.prog 177 #[vPtr x.ps,.agg #[.int .u64 i.1,.int .i64 i.2],.agg #[.slice none 0 0,.int .i64 1,.int .i64 (o:Int)],.slice A bs.length c] w (fun e w'=>e= .returned (.tuple #[])/\SW b w0 (({ x with C:=(foundC bs x.C f.T i o).1,F:=some { f with T:=(foundC bs x.C f.T i o).2 } }:SR).obs (rsOb A bs::l)) w'):=by
 cases ha:asc x.C i with
 | none=>
  refine (found_new A bs h f hF i hi o c ha).mono ?_;rintro e w' ⟨rfl,s⟩;refine ⟨rfl,?_⟩;simp only [foundC,ha];rw [<- hF];exact s
 | some pl=>
  obtain ⟨q,rfl,hq⟩:=hL i pl ha;refine (found_old A bs h f hF i hi hi1 hi2 o c q ha hn hc ho hq hnm hE hB).mono ?_;rintro e w' ⟨rfl,s⟩;refine ⟨rfl,?_⟩;simp only [foundC,ha];exact s
theorem loadFile_any (A:Option Addr) (bs:List UInt8) (h:SW b w0 (x.obs (rsOb A bs::l)) w) (hF:x.F=none) (hC:x.C=[]) (c:Nat) (hn:bs.length<=4194304) (hc:bs.length<=c) (hnm:x.nm.size<=1000) (hE:readE x.s (fileN x.nm)=0) (hB:readB x.s (fileN x.nm)=bs):
 Calls Tryz.prog 134 #[vPtr x.ps,.int .i64 1,.slice A bs.length c] w (fun e w'=>e= .returned (.tuple #[])/\∃ fb sb,SW b w0 (({ x with C:=(scanF bs bs.length 0 [] [] true).1,F:=some ⟨fb,sb,bs.length,(scanF bs bs.length 0 [] [] true).2.2,(scanF bs bs.length 0 [] [] true).2.1⟩ }:SR).obs (rsOb A bs::l)) w'):=by
 obtain ⟨FIN,HFIN⟩:∃ F,Hid (scanF bs bs.length 0 [] [] true=F):=⟨_,rfl⟩;rw [HFIN.out];have hmk:(Instr.makeMap 143 none).run Tryz.prog w= .ok (.map (some w.heap.size)) (w.alloc (.map #[] 0)):=by simp [Instr.makeMap,run_underlying Tryz.underlying143]
 have S1:Hid (SW b w0 (x.obs (rsOb A bs::l)) ((w.alloc (.map #[] 0)).alloc (.cells #[.int .i64 (bs.length:Int),.bool true,.map (some w.heap.size)] 145))):=(h.alloc _).alloc _;have hm0:MapIs okN vN vPtr ((w.alloc (.map #[] 0)).alloc (.cells #[.int .i64 (bs.length:Int),.bool true,.map (some w.heap.size)] 145)) x.fm (fL x.F):=(S1.out.get 3 (o:=flOb x.fm x.F) rfl).1;have c3:=(S1.out.cell 1 (g:=x.ps) (t:=131) (cs:=x.cells) rfl).cell 3;rw [hF] at hm0;obtain ⟨w2,hu,hm2,hg2,hz2⟩:=MapIs.update mkN Tryz.underlying129 hm0 okN1 (w.heap.size+1);have hu':(Instr.mapUpdate 129 (.map (some x.fm)) (.int .i64 1) (.pointer (some ⟨w.heap.size+1,0,none⟩))).run Tryz.prog ((w.alloc (.map #[] 0)).alloc (.cells #[.int .i64 (bs.length:Int),.bool true,.map (some w.heap.size)] 145))= .ok () w2:=hu;have hm2':MapIs okN vN vPtr w2 x.fm [(1,w.heap.size+1)]:=hm2
 have S2:Hid (SW b w0 (({ x with C:=[],F:=some ⟨w.heap.size+1,w.heap.size,bs.length,true,[]⟩ }:SR).obs (rsOb A bs::l)) w2):=by
  have:=SW.newFileN h bs.length 3 (fm:=x.fm) (by rw [<- hF];rfl) hm2' hg2;rw [<- hC];exact this
 clear h hu hm2 hm2' hg2 hz2 hm0 S1;have HE:=kh hE;have HB:=kh hB;clear hE hB hF hC;go_enter Tryz.func134,Tryz.ntmps134;go_wp2_with fail
 clear hu' hmk c3;generalize w.heap.size+1=fb at S2 |-; generalize w.heap.size=sb at S2 |-; go_loopw [7] (fun s7 wr=>∃ (n o:Nat) (C:Chs) (T:List (ID×Bool)) (cl:Bool),s7= .int .i64 (o:Int)/\bs.length<=o+n/\o<=bs.length/\Hid (scanF bs n o C T cl=FIN)/\Hid (LAt C)/\Hid (SW b w0 (({ x with C:=C,F:=some ⟨fb,sb,bs.length,cl,T⟩ }:SR).obs (rsOb A bs::l)) wr)) (fun s7 _=>bs.length-(intOf s7).toNat)
 case atStart=>exact ⟨bs.length,0,[],[],true,rfl,by omega,by omega,HFIN,LAt.nil,S2⟩
 obtain ⟨n,o,C,T,cl,rfl,hno,hol,HS,HL,S3⟩:=hrel;clear S2;by_cases hlt:o<bs.length
 · have HRH:=kh (readHead_any A c bs o wr (S3.out.get 4 (o:=rsOb A bs) rfl) hn hc hlt);go_wp2_with (go_at_call 176;(with_reducible refine HRH.out.mono ?_);refine halt_ ?_)
   rintro e w3 ⟨i,ok,rfl,hi1,hi2,hb3⟩;have S4:Hid (SW b w0 (cellOb w3.heap.size 31 #[.int .u64 i.1,.int .i64 i.2]::({ x with C:=C,F:=some ⟨fb,sb,bs.length,cl,T⟩ }:SR).obs (rsOb A bs::l)) (w3.alloc (.cells #[.int .u64 i.1,.int .i64 i.2] 31))):=(S3.out.on hb3).newCell 31 _;clear HRH hb3 S3;obtain ⟨m,rfl⟩:∃ m,n=m+1:=⟨n-1,by omega⟩;have hs:=HS.out;rw [scanF,if_pos hlt] at hs;clear HS;have fc:=((S4.out.get 4 (o:=flOb x.fm (some ⟨fb,sb,bs.length,cl,T⟩)) rfl).2 _ rfl).1;have p1:=fc.cell 1;have p2:=fc.frozen 1;simp only at p1 p2;have d0:(w3.alloc (.cells #[.int .u64 i.1,.int .i64 i.2] 31)).cell? ⟨w3.heap.size,0,none⟩=some (.int .u64 i.1):=(S4.out.cell 0 rfl).cell 0;have d1:(w3.alloc (.cells #[.int .u64 i.1,.int .i64 i.2] 31)).cell? ⟨w3.heap.size,1,none⟩=some (.int .i64 i.2):=(S4.out.cell 0 rfl).cell 1;clear fc;go_upto_region 5 with fail
   generalize w3.alloc (.cells #[.int .u64 i.1,.int .i64 i.2] 31)=W4 at *; generalize w3.heap.size=H3 at *; cases hr:rdHead bs o with
   | none=>
    obtain rfl:=hi2 hr;rw [hr] at hs;simp only at hs;have HS2:=kh hs;clear hs hi1 hi2 hr;have S5:=kh (S4.out.unclean 4 (fm:=x.fm) rfl).tail;clear S4;go_wp2_with fail
    go_roundw
    case rel=>exact ⟨m,o+1,C,T,false,by go_num,by omega,by omega,HS2,HL,S5.out⟩
    simp [intOf];omega
   | some j=>
    obtain ⟨rfl,rfl⟩:=hi1 j hr;rw [hr] at hs;simp only at hs;obtain ⟨hid,h28⟩:=rdHead_some hr;have hok:okID i:=hid ▸ rdID_ok bs o;have hs64: -9223372036854775808<=i.2/\i.2<=9223372036854775807:=by rw [hid];exact s64_lo (leN8 _)
    have HOK:=kh hok;clear hi1 hi2 hr hid hok;by_cases hsz:i.2<1∨(bs.length:Int)-o-28<i.2
    · rw [if_pos hsz] at hs;subst hs;have S5:=kh (S4.out.unclean 4 (fm:=x.fm) rfl).tail;clear S4;by_cases hsz1:i.2<1
      · go_wp2_with fail
        refine bodyPost_ret (v:=.tuple #[]) ?_ rfl ⟨rfl,fb,sb,S5.out⟩;first | (exact results_none _ _ rfl _) | rfl | simp [results,Tryz.results134]
      have hsz2:(bs.length:Int)-o-28<i.2:=by omega
      go_wp2_with fail
      refine bodyPost_ret (v:=.tuple #[]) ?_ rfl ⟨rfl,fb,sb,S5.out⟩;first | (exact results_none _ _ rfl _) | rfl | simp [results,Tryz.results134]
    rw [if_neg hsz] at hs;have HS2:=kh hs;clear hs;have hsz1:¬ i.2<1:=by omega
    have hsz2:¬ (bs.length:Int)-o-28<i.2:=by omega
    have HFD:=kh (fun (W:World) (hW:SW b w0 (({ x with C:=C,F:=some ⟨fb,sb,bs.length,cl,T⟩ }:SR).obs (rsOb A bs::cellOb H3 31 #[.int .u64 i.1,.int .i64 i.2]::l)) W)=>found_any (x:={ x with C:=C,F:=some ⟨fb,sb,bs.length,cl,T⟩ }) A bs hW ⟨fb,sb,bs.length,cl,T⟩ rfl HL.out i HOK.out (by omega) hs64.2 o c hn hc (by omega) hnm HE.out HB.out)
    have S5:Hid (SW b w0 (({ x with C:=C,F:=some ⟨fb,sb,bs.length,cl,T⟩ }:SR).obs (rsOb A bs::cellOb H3 31 #[.int .u64 i.1,.int .i64 i.2]::l)) W4):=
     SW.front (pre:=[cellOb H3 31 #[.int .u64 i.1,.int .i64 i.2],_,_,_,_,rsOb A bs]) (t:=l) S4.out [1,2,3,4,5,0] (n:=6) rfl (by decide)
    clear S4;have had:IntKind.i64.wrap (28+i.2)=28+i.2:=IntWalk.i64_in _ (by omega);have hLF:=kh (HL.out.found bs T i o (by omega));clear p1 p2;go_wp2_with (go_at_call 177;(with_reducible refine (HFD.out W4 S5.out).mono ?_);rintro e w5 ⟨rfl,s6⟩;have S6:=kh s6;clear s6 HFD S5 d1 d0;have d1:w5.cell? ⟨H3,1,none⟩=some (.int .i64 i.2):=(S6.out.cell 5 rfl).cell 1)
    have S7:Hid (SW b w0 (({ x with C:=(foundC bs C T i o).1,F:=some ⟨fb,sb,bs.length,cl,(foundC bs C T i o).2⟩ }:SR).obs (rsOb A bs::l)) w5):=S6.out.sub (by simp [SR.obs]);clear S6;go_roundw
    case rel=>exact ⟨m,o+(28+i.2.toNat),_,_,cl,by go_num,by omega,by omega,HS2,hLF,S7⟩
    simp [intOf];omega
 have hs:=HS.out;have hfin:scanF bs n o C T cl=(C,T,cl):=by cases n<;>simp [scanF,hlt]
 rw [hfin] at hs;subst hs;go_wp2_with fail
 go_end0;exact ⟨rfl,fb,sb,S3.out⟩
end
end
end Go.Proofs.YteabgcollokgjaaGreatDoor
namespace Go.Proofs
section
open Go.Shelf
def Tryz.atoiC_ren:Go.Shelf.Ren:=⟨fun | 172=>132 | 244=>173 | 245=>174 | 247=>217 | 279=>218 | 280=>219 | 281=>220 | 282=>221 | 287=>271 | 316=>272 | 171=>155 | 205=>273 | 321=>297 | 322=>298 | 243=>201 | 246=>256 | 283=>286 | 284=>287 | 285=>288 | 286=>289 | 129=>198 | 317=>302 | 318=>303 | 319=>304 | 320=>305 | 337=>310 | 338=>311 | n=>n,fun | 9=>9 | 3=>3 | 75=>207 | 76=>208 | 4=>4 | 5=>5 | 167=>294 | 37=>34 | 0=>0 | 85=>295 | 2=>2 | 168=>297 | 53=>29 | 175=>339 | 46=>230 | 210=>343 | 127=>365 | 145=>368 | 143=>366 | 21=>21 | 171=>353 | 173=>355 | 212=>372 | 51=>276 | 20=>20 | 213=>373 | 232=>375 | 233=>359 | 80=>262 | n=>n,fun | 15=>0 | 16=>1 | 17=>2 | 18=>3 | 19=>4 | n=>n⟩
theorem Tryz.atoiC:Go.Proofs.LaysC.n172 Tryz.prog Tryz.atoiC_ren:={
 mixed:=by kernel_rfl
 f129:=Tryz.func198.trans (congrArg some (by kernel_rfl))
 f171:=Tryz.func155.trans (congrArg some (by kernel_rfl))
 f172:=Tryz.func132.trans (congrArg some (by kernel_rfl))
 f205:=Tryz.func273.trans (congrArg some (by kernel_rfl))
 f243:=Tryz.func201.trans (congrArg some (by kernel_rfl))
 f244:=Tryz.func173.trans (congrArg some (by kernel_rfl))
 f245:=Tryz.func174.trans (congrArg some (by kernel_rfl))
 f246:=Tryz.func256.trans (congrArg some (by kernel_rfl))
 f247:=Tryz.func217.trans (congrArg some (by kernel_rfl))
 f279:=Tryz.func218.trans (congrArg some (by kernel_rfl))
 f280:=Tryz.func219.trans (congrArg some (by kernel_rfl))
 f281:=Tryz.func220.trans (congrArg some (by kernel_rfl))
 f282:=Tryz.func221.trans (congrArg some (by kernel_rfl))
 f283:=Tryz.func286.trans (congrArg some (by kernel_rfl))
 f284:=Tryz.func287.trans (congrArg some (by kernel_rfl))
 f285:=Tryz.func288.trans (congrArg some (by kernel_rfl))
 f286:=Tryz.func289.trans (congrArg some (by kernel_rfl))
 f287:=Tryz.func271.trans (congrArg some (by kernel_rfl))
 f316:=Tryz.func272.trans (congrArg some (by kernel_rfl))
 f317:=Tryz.func302.trans (congrArg some (by kernel_rfl))
 f318:=Tryz.func303.trans (congrArg some (by kernel_rfl))
 f319:=Tryz.func304.trans (congrArg some (by kernel_rfl))
 f320:=Tryz.func305.trans (congrArg some (by kernel_rfl))
 f321:=Tryz.func297.trans (congrArg some (by kernel_rfl))
 f322:=Tryz.func298.trans (congrArg some (by kernel_rfl))
 f337:=Tryz.func310.trans (congrArg some (by kernel_rfl))
 f338:=Tryz.func311.trans (congrArg some (by kernel_rfl))
 t0:=Tryz.underlying0
 a0:=Tryz.isAgg0
 z0:=Tryz.sizeOf0
 v0:=Tryz.zeroValue0
 t2:=Tryz.underlying2
 a2:=Tryz.isAgg2
 z2:=Tryz.sizeOf2
 v2:=Tryz.zeroValue2
 t3:=Tryz.underlying3
 a3:=Tryz.isAgg3
 z3:=Tryz.sizeOf3
 v3:=Tryz.zeroValue3
 t4:=Tryz.underlying4
 a4:=Tryz.isAgg4
 z4:=Tryz.sizeOf4
 v4:=Tryz.zeroValue4
 t5:=Tryz.underlying5
 a5:=Tryz.isAgg5
 z5:=Tryz.sizeOf5
 v5:=Tryz.zeroValue5
 t9:=Tryz.underlying9
 a9:=Tryz.isAgg9
 z9:=Tryz.sizeOf9
 v9:=Tryz.zeroValue9
 t20:=Tryz.underlying20
 a20:=Tryz.isAgg20
 z20:=Tryz.sizeOf20
 v20:=Tryz.zeroValue20
 t21:=Tryz.underlying21
 a21:=Tryz.isAgg21
 z21:=Tryz.sizeOf21
 v21:=Tryz.zeroValue21
 t37:=Tryz.underlying34
 a37:=Tryz.isAgg34
 z37:=Tryz.sizeOf34
 v37:=Tryz.zeroValue34
 t46:=Tryz.underlying230
 a46:=Tryz.isAgg230
 z46:=Tryz.sizeOf230
 v46:=Tryz.zeroValue230
 t51:=Tryz.underlying276
 a51:=Tryz.isAgg276
 z51:=Tryz.sizeOf276
 v51:=Tryz.zeroValue276
 t53:=Tryz.underlying29
 a53:=Tryz.isAgg29
 z53:=Tryz.sizeOf29
 v53:=Tryz.zeroValue29
 t75:=Tryz.underlying207
 a75:=Tryz.isAgg207
 z75:=Tryz.sizeOf207
 v75:=Tryz.zeroValue207
 t76:=Tryz.underlying208
 a76:=Tryz.isAgg208
 z76:=Tryz.sizeOf208
 v76:=Tryz.zeroValue208
 t85:=Tryz.underlying295
 a85:=Tryz.isAgg295
 z85:=Tryz.sizeOf295
 v85:=Tryz.zeroValue295
 t127:=Tryz.underlying365
 a127:=Tryz.isAgg365
 z127:=Tryz.sizeOf365
 v127:=Tryz.zeroValue365
 t143:=Tryz.underlying366
 a143:=Tryz.isAgg366
 z143:=Tryz.sizeOf366
 v143:=Tryz.zeroValue366
 t145:=Tryz.underlying368
 a145:=Tryz.isAgg368
 z145:=Tryz.sizeOf368
 v145:=Tryz.zeroValue368
 t167:=Tryz.underlying294
 a167:=Tryz.isAgg294
 z167:=Tryz.sizeOf294
 v167:=Tryz.zeroValue294
 t168:=Tryz.underlying297
 a168:=Tryz.isAgg297
 z168:=Tryz.sizeOf297
 v168:=Tryz.zeroValue297
 t171:=Tryz.underlying353
 a171:=Tryz.isAgg353
 z171:=Tryz.sizeOf353
 v171:=Tryz.zeroValue353
 t173:=Tryz.underlying355
 a173:=Tryz.isAgg355
 z173:=Tryz.sizeOf355
 v173:=Tryz.zeroValue355
 t175:=Tryz.underlying339
 a175:=Tryz.isAgg339
 z175:=Tryz.sizeOf339
 v175:=Tryz.zeroValue339
 t210:=Tryz.underlying343
 a210:=Tryz.isAgg343
 z210:=Tryz.sizeOf343
 v210:=Tryz.zeroValue343
 t212:=Tryz.underlying372
 a212:=Tryz.isAgg372
 z212:=Tryz.sizeOf372
 v212:=Tryz.zeroValue372
 t213:=Tryz.underlying373
 a213:=Tryz.isAgg373
 z213:=Tryz.sizeOf373
 t232:=Tryz.underlying375
 a232:=Tryz.isAgg375
 z232:=Tryz.sizeOf375
 v232:=Tryz.zeroValue375
 t233:=Tryz.underlying359
 a233:=Tryz.isAgg359
 z233:=Tryz.sizeOf359
 v233:=Tryz.zeroValue359
 g15:=by kernel_rfl
 g16:=by kernel_rfl
 g17:=by kernel_rfl
 g18:=by kernel_rfl
 g19:=by kernel_rfl
 t80:=Tryz.underlying262
 a80:=Tryz.isAgg262
 z80:=Tryz.sizeOf262
 v80:=Tryz.zeroValue262
 i0:=by kernel_rfl
 i2:=by kernel_rfl
 i3:=by kernel_rfl
 i4:=by kernel_rfl
 i5:=by kernel_rfl
 i9:=by kernel_rfl
 i20:=by kernel_rfl
 i21:=by kernel_rfl
 i37:=by kernel_rfl
 i46:=by kernel_rfl
 i51:=by kernel_rfl
 i53:=by kernel_rfl
 i75:=by kernel_rfl
 i76:=by kernel_rfl
 i80:=by kernel_rfl
 i85:=by kernel_rfl
 i127:=by kernel_rfl
 i143:=by kernel_rfl
 i145:=by kernel_rfl
 i167:=by kernel_rfl
 i168:=by kernel_rfl
 i171:=by kernel_rfl
 i173:=by kernel_rfl
 i175:=by kernel_rfl
 i210:=by kernel_rfl
 i212:=by kernel_rfl
 i232:=by kernel_rfl
 i233:=by kernel_rfl
 m15:=by kernel_rfl
 m16:=by kernel_rfl
 m17:=by kernel_rfl
 m18:=by kernel_rfl
 m19:=by kernel_rfl
 c0:=by kernel_rfl
 c2:=by kernel_rfl
 c3:=by kernel_rfl
 c4:=by kernel_rfl
 c5:=by kernel_rfl
 c9:=by kernel_rfl
 c20:=by kernel_rfl
 c21:=by kernel_rfl
 c37:=by kernel_rfl
 c46:=by kernel_rfl
 c51:=by kernel_rfl
 c53:=by kernel_rfl
 c75:=by kernel_rfl
 c76:=by kernel_rfl
 c80:=by kernel_rfl
 c85:=by kernel_rfl
 c127:=by kernel_rfl
 c143:=by kernel_rfl
 c145:=by kernel_rfl
 c167:=by kernel_rfl
 c168:=by kernel_rfl
 c171:=by kernel_rfl
 c173:=by kernel_rfl
 c175:=by kernel_rfl
 c210:=by kernel_rfl
 c212:=by kernel_rfl
 c213:=by kernel_rfl
 c232:=by kernel_rfl
 c233:=by kernel_rfl }
end
end Go.Proofs
namespace Go.Proofs.YteabgcollokgjaaGreatDoor
section
open Go.RowKit Go.MapKept Go.ChangeMaps Go.Shelf Go.Sort
def foldI (v n:Int):Int:=if n<=1 then 0 else if v.tmod n<0 then v.tmod n+n else v.tmod n
theorem foldI_in (v n:Int):0<=foldI v n/\(1<n->foldI v n<n):=by
 unfold foldI;split
 · omega
 have t1:=tmod_lt' v n (by omega);have t2:=tmod_gt' v n (by omega);split<;>omega
theorem Fold_x (v n:Int) (w:World) (hn:n<=4294967296):Calls Tryz.prog 24 #[.int .i64 v,.int .i64 n] w (fun e w'=>e= .returned (.int .i64 (foldI v n))/\w=w'):=by
 by_cases h1:n<=1
 · have e:foldI v n=0:=if_pos h1;rw [e];go_enter Tryz.func24,Tryz.ntmps24;go_wp2
   go_ret;exact ⟨rfl,rfl⟩
 have t1:=tmod_lt' v n (by omega);have t2:=tmod_gt' v n (by omega);have e:foldI v n=if v.tmod n<0 then v.tmod n+n else v.tmod n:=if_neg h1
 rw [e];obtain ⟨t,ht⟩:∃ t,v.tmod n=t:=⟨_,rfl⟩;rw [ht] at t1 t2 |-; have hn0:(n==0)=false:=by rw [beq_eq_false_iff_ne];omega
 have hnm:(n== -1)=false:=by rw [beq_eq_false_iff_ne];omega
 by_cases h2:t<0
 · rw [if_pos h2];go_enter Tryz.func24,Tryz.ntmps24;go_wp2
   go_ret;exact ⟨rfl,rfl⟩
 rw [if_neg h2];go_enter Tryz.func24,Tryz.ntmps24;go_wp2
 go_ret;exact ⟨rfl,rfl⟩
def tapeV (L:List Int) (n:Nat):Int:=if n<L.length then L.getD n 0 else ((n:Int)*7).tmod 11
def tnext (L:List Int) (n:Nat) (k:Int):Int:=foldI (tapeV L n) k
theorem tnext_in (L:List Int) (n:Nat) (k:Int):0<=tnext L n k/\(1<k->tnext L n k<k):=foldI_in _ _
def RdL (w:World) (g:Nat) (A:Option Addr) (L:List Int):Prop:=0<L.length->∃ b o,A=some ⟨b,o,none⟩/\b<w.heap.size/\b≠g/\∀ j,j<L.length->w.cell? ⟨b,o+j,none⟩=some (.int .i64 (L.getD j 0))
def tpOb (g:Nat) (A:Option Addr) (c:Nat) (L:List Int) (n:Nat):Ob where
 own:=fun i=>i=g
 rd:=fun i=>0<L.length/\∃ o,A=some ⟨i,o,none⟩
 holds:=fun w=>IsB w g 50 #[.slice A L.length c,.int .i64 n]/\RdL w g A L/\L.length<=9223372036854775807
 stable:=fun w w' h hs hk=>by
  refine ⟨(hk g (.inl rfl)).trans h.1,fun hp=>?_,h.2.2⟩;obtain ⟨b,o,e,hlt,hne,hc⟩:=h.2.1 hp;have h2:=hk b (.inr ⟨hp,o,e⟩);refine ⟨b,o,e,Nat.lt_of_lt_of_le hlt hs.2.2.2,hne,fun j hj=>?_⟩;rw [<- hc j hj];simp [World.cell?, h2]
section
variable {b:Nat} {w0 w:World} {l:List Ob} {g:Nat} {A:Option Addr} {c:Nat} {L:List Int} {n:Nat}
theorem SW.tick (h:SW b w0 l w) (k:Nat) (hk:l[k]? =some (tpOb g A c L n)):SW b w0 (l.set k (tpOb g A c L (n+1))) (w.setCell ⟨g,1,none⟩ (.int .i64 ((n:Int)+1))):=by
 have hh:=h.get k hk;have hgr:w.grownBy (w.setCell ⟨g,1,none⟩ (.int .i64 ((n:Int)+1))) (some g):=g_set (p:=⟨g,1,none⟩) (g_refl _ _) (.inl rfl) _;have hlt:=hh.1.lt;have hsz:(w.setCell ⟨g,1,none⟩ (.int .i64 ((n:Int)+1))).heap.size=w.heap.size:=by simp [World.setCell]
 have hnew:(tpOb g A c L (n+1)).holds (w.setCell ⟨g,1,none⟩ (.int .i64 ((n:Int)+1))):=by
  refine ⟨by simpa using hh.1.set_ 1 (.int .i64 ((n:Int)+1)),fun hp=>?_,hh.2.2⟩;obtain ⟨b',o,e,hl,hne,hc⟩:=hh.2.1 hp;exact ⟨b',o,e,by rw [hsz];exact hl,hne,fun j hj=>(g_cell hgr hl hne).trans (hc j hj)⟩
 have:=h.1.stepAt k hk (o':=tpOb g A c L (n+1)) (Fr.grown hgr rfl (fun i hi=> .inl hi)) (fun i hi=> .inr (.inl hi)) hnew (fun i hi=>by
  rw [hsz];rcases hi with hi | ⟨hp,o,e⟩
  · have hi:i=g:=hi;rw [hi];exact hlt
  obtain ⟨b',o',e',hl,_⟩:=hh.2.1 hp;rw [e] at e';injection e' with e';injection e' with e' _;rw [e'];exact hl)
 exact ⟨this.1,h.2.trans this.2⟩
theorem Next_x (h:SW b w0 l w) (k:Nat) (hk:l[k]? =some (tpOb g A c L n)) (m:Int) (hm:m<=4294967296) (hn:n<=1000000):
 Calls Tryz.prog 33 #[vPtr g,.int .i64 m] w (fun e w'=>e= .returned (.int .i64 (tnext L n m))/\SW b w0 (l.set k (tpOb g A c L (n+1))) w'):=by
 have hh:=h.get k hk;have hc0:w.cell? ⟨g,0,none⟩=some (.slice A L.length c):=hh.1.cell 0;have hc1:w.cell? ⟨g,1,none⟩=some (.int .i64 n):=hh.1.cell 1;have hf1:w.frozen? ⟨g,1,none⟩=false:=hh.1.frozen 1;have H1:=kh (fun q:Nat=>(h.on (bdrewN (Below.refl _ _) q)).tick k hk);have h3:=hh.2.2;by_cases hlt:n<L.length
 · obtain ⟨b',o,rfl,hb,_,hc⟩:=hh.2.1 (by omega);have hcl:w.cell? ⟨b',o+n,none⟩=some (.int .i64 (L.getD n 0)):=hc n hlt;have et:tapeV L n=L.getD n 0:=if_pos hlt;unfold tnext;rw [et];clear hc hh h et;obtain ⟨v,Hv⟩:∃ v,Hid (L.getD n 0=v):=⟨_,rfl⟩;rw [Hv.out] at hcl |-; have hltb:decide (n<L.length)=true:=by simp;omega
   go_enter Tryz.func33,Tryz.ntmps33;go_wp2_with fail
   go_quiet (fail)
   go_wp2_with fail
   go_quiet (fail)
   go_wp2_with fail
   refine (Fold_x v m _ hm).mono ?_;rintro e w1 ⟨rfl,rfl⟩;go_wp2_with fail
   go_ret;exact ⟨rfl,H1.out _⟩
 have et:tapeV L n=((n:Int)*7).tmod 11:=if_neg hlt;unfold tnext;rw [et];clear hh h et;have hltb:decide (n<L.length)=false:=by simp;omega
 go_enter Tryz.func33,Tryz.ntmps33;go_wp2_with fail
 go_quiet (fail)
 go_wp2_with fail
 refine (Fold_x _ m _ hm).mono ?_;rintro e w1 ⟨rfl,rfl⟩;go_wp2_with fail
 go_ret;exact ⟨rfl,H1.out _⟩
end
end
end Go.Proofs.YteabgcollokgjaaGreatDoor
