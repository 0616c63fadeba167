/- Q -/
import Derived.Test.YteabgcollokgjaaGreatDoorQH13
set_option linter.unusedSimpArgs false
set_option linter.unusedVariables false
set_option maxRecDepth 100000
set_option maxHeartbeats 32000000
open Go.Lib (hid)
namespace Go.Proofs.YteabgcollokgjaaGreatDoor
section
open Go.RowKit Go.MapKept Go.ChangeMaps
def putS (x:SR) (i:ID) (d:BD) (bs:List UInt8):SR:={ x with C:=setL x.C i (.pend d bs),wait:=x.wait+1,bytes:=x.bytes+bs.length }
def PutNew (b:Nat) (x:SR) (l:List Ob) (bs:List UInt8) (w:World) (e:Ending) (w':World):Prop:=e= .returned (.tuple #[.agg #[.int .u64 (fpOf bs).1,.int .i64 (fpOf bs).2],.int .i64 0])/\∃ d,Sto b w' (putS x (fpOf bs) d bs) l/\(∀ g,blk d=some g->w.heap.size<=g)/\Below b w w'
theorem Sep.lay {b:Nat} {w w3 w4:World} {l:List Ob} (h:Sep b w l) (k:Nat) {cm:Nat} {C:Chs} (hk:l[k]? =some (chOb cm C)) {i:ID} {d:BD} {bs:List UInt8} (hb:Below w.heap.size w w3) (hr:RB w3 d bs) (hn:∀ g,blk d=some g->w.heap.size<=g) (hp:0<bs.length) (hm:MapIs okID vID vPl w4 cm (setL C i (.pend d bs))) (hg:w3.grownBy w4 (some cm)):Sep b w4 (l.set k (chOb cm (setL C i (.pend d bs))))/\Below b w w4:=by
 have hh:=h.get hk;have hm3:MapIs okID vID vPl w3 cm C:=hh.1.on hb;have hmem:∀ c∈setL C i (.pend d bs),c=(i,.pend d bs)∨c∈C:=(setL_pairwise (R:=fun _ _=>True) hh.1.nodup (List.pairwise_of_forall (by simp)) i (Pl.pend d bs) (by simp) (by simp)).2
 have hpend:∀ id d' bs',(id,Pl.pend d' bs')∈setL C i (.pend d bs)->RB w4 d' bs'/\0<bs'.length:=by
  intro id d' bs' hc;rcases hmem _ hc with e | e
  · injection e with e1 e2;injection e2 with e2 e3;subst e2;subst e3;exact ⟨hr.gone hm3 hg,hp⟩
  have:=hh.2 id d' bs' e;exact ⟨(this.1.on hb).gone hm3 hg,this.2⟩
 refine h.stepAt k hk ((Fr.of_below hb _).trans (Fr.grown hg rfl (fun _ hi=> .inl hi))) (fun j hj=>?_) ⟨hm,hpend⟩ (fun j hj=>?_)
 · obtain ⟨id,d',bs',hc,hbk⟩:=hj;rcases hmem _ hc with e | e
   · injection e with e1 e2;injection e2 with e2 e3;subst e2;exact .inr (.inr (hn j hbk))
   exact .inr (.inl ⟨id,d',bs',e,hbk⟩)
 rcases hj with hj | ⟨id,d',bs',hc,hbk⟩
 · have e:j=cm:=hj;rw [e];exact hm.lt
 exact (hpend id d' bs' hc).1.lt hbk
section
variable {b:Nat} {w:World} {x:SR} {l:List Ob}
theorem Put_new (h:Sto b w x l) (hf:WF x) (A:Option Addr) (c:Nat) (bs:List UInt8) (hs:RS w A bs) (h1:1<=bs.length) (h2:bs.length<=8192) (ha:asc x.C (fpOf bs)=none) (hc:x.C.length<4096) (hw0:0<=x.wait) (hw1:x.wait<=1099511627776) (hb0:0<=x.bytes) (hb1:x.bytes<=1099511627776):
 Calls Tryz.prog 23 #[vPtr x.ps,.slice A bs.length c] w (PutNew b x l bs w):=by
 have hi:okID (fpOf bs):=okID_fp bs (by omega);have hi2:Hid ((fpOf bs).2=(bs.length:Int)):=rfl;have hbase:=h.base;have B0:=hid (bel1q w (.cells #[.int .u64 0,.int .i64 0] 31));have H0:=hid (h.on B0.out);have S0:=hid (hs.on B0.out);have HRD:=hid (ready_live H0.out hf.live hf.up);have HOF:=hid (Of_any A c bs _ S0.out (by omega));have I0:Hid (IsB (w.alloc (.cells #[.int .u64 0,.int .i64 0] 31)) w.heap.size 31 #[.int .u64 0,.int .i64 0]):=IsB.new _ _ _;have hfew:=hf.few;obtain ⟨i,HI⟩:∃ i,Hid (fpOf bs=i):=⟨_,rfl⟩;rw [HI.out] at HOF hi ha hi2;unfold PutNew;rw [HI.out];have HA:=hid ha;clear hf ha;go_enter Tryz.func23,Tryz.ntmps23;go_wp2_with (go_at_call 84;refine HRD.out.mono ?_;rintro e w1 ⟨rfl,rfl⟩)
 refine HOF.out.mono ?_;rintro e w2 ⟨rfl,hb⟩;have B2:Hid (Below w.heap.size w w2):=B0.out.trans (hb.mono B0.out.size);have I2:=hid (I0.out.on hb);have H2:=hid (H0.out.on hb);have S2:=hid (S0.out.on hb);have lt2:w.heap.size<w2.heap.size:=I2.out.lt;have HB:=hid hb;clear hb;have hps:x.ps<w2.heap.size:=H2.out.scell.lt;have BA:=hid (bel1q w2 (.cells #[.int .u64 i.1,.int .i64 i.2] 31));have hcx:(w2.alloc (.cells #[.int .u64 i.1,.int .i64 i.2] 31)).cell? ⟨x.ps,2,none⟩=some (.map (some x.cm)):=(H2.out.on BA.out).scell.cell 2;have hl1:=look_no H2.out.sch hi HA.out (w2.alloc (.cells #[.int .u64 i.1,.int .i64 i.2] 31)).drew ((Below.refl _ w2).alloc (Nat.le_refl _) _).drew;have hl2:=look_no H2.out.sch hi HA.out ((w2.alloc (.cells #[.int .u64 i.1,.int .i64 i.2] 31)).alloc (.cells #[.slice none 0 0,.int .i64 0,.int .i64 0] 138)).drew (((Below.refl _ w2).alloc (Nat.le_refl _) _).alloc (by simp) _).drew;have B3:Hid (Below w2.heap.size w2 ((w2.alloc (.cells #[.int .u64 i.1,.int .i64 i.2] 31)).alloc (.cells #[.slice none 0 0,.int .i64 0,.int .i64 0] 138)).drew):=(BA.out.alloc (by simp) _).drew;have J3:Hid (IsB ((w2.alloc (.cells #[.int .u64 i.1,.int .i64 i.2] 31)).alloc (.cells #[.slice none 0 0,.int .i64 0,.int .i64 0] 138)).drew w2.heap.size 31 #[.int .u64 i.1,.int .i64 i.2]):=(IsB.new _ _ _).on ((bel1q _ _).drew)
 have SP1:=hid (((h.newCell 31 #[.int .u64 0,.int .i64 0]).1.on HB.out).newCell 31 #[.int .u64 i.1,.int .i64 i.2]).1;have SP2:Hid (Sep b ((w2.alloc (.cells #[.int .u64 i.1,.int .i64 i.2] 31)).alloc (.cells #[.slice none 0 0,.int .i64 0,.int .i64 0] 138)).drew (cellOb w2.heap.size 31 #[.int .u64 i.1,.int .i64 i.2]::cellOb w.heap.size 31 #[.int .u64 0,.int .i64 0]::x.obs l)):=SP1.out.on ((bel1q _ _).drew);clear h;go_wp2_with fail
 go_region
 all_goals (
  have HL:=hid (MapIs.len Tryz.underlying128 (H2.out.sch.on B3.out) 3);have H3:=hid (H2.out.on B3.out);have S3:=hid (S2.out.on B3.out);have I3:=hid (I2.out.on B3.out);have B4:Hid (Below w.heap.size w _):=B2.out.trans (B3.out.mono B2.out.size);have lt3:=B3.out.size;clear SP1;generalize ((w2.alloc (.cells #[.int .u64 i.1,.int .i64 i.2] 31)).alloc (.cells #[.slice none 0 0,.int .i64 0,.int .i64 0] 138)).drew=W at *; have hps2:=H3.out.scell.cell 2;have hps5:=H3.out.scell.cell 5;have hpf5:=H3.out.scell.frozen 5;have hlen:=HL.out;have hj1:=J3.out.cell 1;simp only [hi2.out] at hj1;clear hl1 hl2 hcx;go_upto_region 17 with fail
  have hsum:IntKind.i64.wrap (x.bytes+(bs.length:Int))=x.bytes+(bs.length:Int):=IntWalk.i64_in _ (by omega);go_region
  go_upto_region 18 with fail
  have SPV:Hid (Sep b (W.setCell ⟨x.ps,5,none⟩ (.int .i64 (x.bytes+(bs.length:Int)))).drew (cellOb w2.heap.size 31 #[.int .u64 i.1,.int .i64 i.2]::cellOb w.heap.size 31 #[.int .u64 0,.int .i64 0]::({ x with bytes:=x.bytes+(bs.length:Int) }:SR).obs l)):=((SP2.out.setAt 3 rfl 5 (.int .i64 (x.bytes+(bs.length:Int)))).1).on ((Below.refl _ _).drew);have BV:Hid (Below b w (W.setCell ⟨x.ps,5,none⟩ (.int .i64 (x.bytes+(bs.length:Int)))).drew):=(B4.out.mono hbase).trans ((SP2.out.setAt 3 rfl 5 (.int .i64 (x.bytes+(bs.length:Int)))).2.drew);have SV:Hid (RS (W.setCell ⟨x.ps,5,none⟩ (.int .i64 (x.bytes+(bs.length:Int)))).drew A bs):=S3.out.set H3.out.scell cells_no8 5 _;have hWV:W.heap.size<=(W.setCell ⟨x.ps,5,none⟩ (.int .i64 (x.bytes+(bs.length:Int)))).drew.heap.size:=by simp [World.setCell]
  clear hps2 hps5 hpf5 hlen hj1 H3 HL SP2 S3;generalize (W.setCell ⟨x.ps,5,none⟩ (.int .i64 (x.bytes+(bs.length:Int)))).drew=V at *; have ltV:w2.heap.size<=V.heap.size:=Nat.le_trans lt3 hWV;have IPV:=hid (SPV.out.cell (k:=3) rfl);have IJV:=hid (SPV.out.cell (k:=0) rfl);have MV:Hid (MapIs okID vID vPl V x.cm x.C):=(SPV.out.get (k:=4) (o:=chOb x.cm x.C) rfl).1;have p2:V.cell? ⟨x.ps,2,none⟩=some (.map (some x.cm)):=IPV.out.cell 2;have q0:V.cell? ⟨w2.heap.size,0,none⟩=some (.int .u64 i.1):=IJV.out.cell 0;have q1:V.cell? ⟨w2.heap.size,1,none⟩=some (.int .i64 i.2):=IJV.out.cell 1;have hpsV:x.ps<V.heap.size:=IPV.out.lt;have hw2V:w2.heap.size<V.heap.size:=IJV.out.lt
  have HCL:Hid (Calls Tryz.prog 87 #[.slice A bs.length c] V.drew (fun e w'=>∃ A3 n3 c3,e= .returned (.slice A3 n3 c3)/\RB w' ⟨A3,n3,c3⟩ bs/\(∀ g,blk ⟨A3,n3,c3⟩=some g->V.heap.size<=g)/\Below V.heap.size V w')):=(CloneB_any A c bs V.drew (show SB V.drew A bs from SV.out.sb) (by omega)).mono (by
   rintro e w' ⟨⟨A3,n3,c3⟩,rfl,r1,r2,r3⟩;exact ⟨A3,n3,c3,rfl,r1,r2,of_drew r3⟩)
  go_region_held (fun w'=>w'.cell? ⟨x.ps,2,none⟩=some (.map (some x.cm))/\w'.cell? ⟨w2.heap.size,0,none⟩=some (.int .u64 i.1)/\w'.cell? ⟨w2.heap.size,1,none⟩=some (.int .i64 i.2))
   (first | go_keep | exact K5.out | exact K6.out)
   (first
     | (go_at_call 87;(with_reducible refine HCL.out.mono ?_);rintro e w3 ⟨A3,n3,c3,rfl,hr3,hf3,hb3⟩;have R3:=hid hr3;have F3:=hid hf3;have B5:=hid hb3;have K5:Hid (w3.cell? ⟨x.ps,2,none⟩=some (.map (some x.cm))/\w3.cell? ⟨w2.heap.size,0,none⟩=some (.int .u64 i.1)/\w3.cell? ⟨w2.heap.size,1,none⟩=some (.int .i64 i.2)):=⟨(hb3.cell (p:=⟨x.ps,2,none⟩) hpsV).trans p2,(hb3.cell (p:=⟨w2.heap.size,0,none⟩) hw2V).trans q0,(hb3.cell (p:=⟨w2.heap.size,1,none⟩) hw2V).trans q1⟩;obtain ⟨w4,hu,hm4,hg4,hz4⟩:=MapIs.update mkI Tryz.underlying128 (MV.out.on hb3) hi (Pl.pend ⟨A3,n3,c3⟩ bs);have hu':(Instr.mapUpdate 128 (.map (some x.cm)) (.agg #[.int .u64 i.1,.int .i64 i.2]) (.agg #[.slice A3 n3 c3,.int .i64 0,.int .i64 0])).run Tryz.prog w3= .ok () w4:=hu;have M4:=hid hm4;have G4:=hid hg4;have K6:Hid (w4.cell? ⟨x.ps,2,none⟩=some (.map (some x.cm))/\w4.cell? ⟨w2.heap.size,0,none⟩=some (.int .u64 i.1)/\w4.cell? ⟨w2.heap.size,1,none⟩=some (.int .i64 i.2)):=⟨((IPV.out.on hb3).grown hg4 (map_ne (MV.out.on hb3) (IPV.out.on hb3))).cell 2,((IJV.out.on hb3).grown hg4 (map_ne (MV.out.on hb3) (IJV.out.on hb3))).cell 0,((IJV.out.on hb3).grown hg4 (map_ne (MV.out.on hb3) (IJV.out.on hb3))).cell 1⟩;clear hr3 hf3 hb3 hu hm4 hg4))
  obtain ⟨sp4,b4⟩:=SPV.out.lay 4 (cm:=x.cm) (C:=x.C) rfl B5.out R3.out F3.out (by omega) M4.out G4.out;have SP4:Hid (Sep b w4 (cellOb w2.heap.size 31 #[.int .u64 i.1,.int .i64 i.2]::cellOb w.heap.size 31 #[.int .u64 0,.int .i64 0]::({ x with C:=setL x.C i (Pl.pend ⟨A3,n3,c3⟩ bs),bytes:=x.bytes+(bs.length:Int) }:SR).obs l)):=sp4;have BX:Hid (Below b w w4):=BV.out.trans b4;clear sp4 b4 p2 q0 q1;have IP4:=hid (SP4.out.cell (k:=3) rfl);have p4:w4.cell? ⟨x.ps,4,none⟩=some (.int .i64 x.wait):=IP4.out.cell 4;have pf4:=IP4.out.frozen 4;have hsum2:IntKind.i64.wrap (x.wait+1)=x.wait+1:=IntWalk.i64_in _ (by omega);go_upto_region 20 with fail
  have SP5:Hid (Sep b (w4.setCell ⟨x.ps,4,none⟩ (.int .i64 (x.wait+1))) (cellOb w2.heap.size 31 #[.int .u64 i.1,.int .i64 i.2]::cellOb w.heap.size 31 #[.int .u64 0,.int .i64 0]::(putS x i ⟨A3,n3,c3⟩ bs).obs l)):=(SP4.out.setAt 3 rfl 4 (.int .i64 (x.wait+1))).1;have BY:Hid (Below b w (w4.setCell ⟨x.ps,4,none⟩ (.int .i64 (x.wait+1)))):=BX.out.trans (SP4.out.setAt 3 rfl 4 (.int .i64 (x.wait+1))).2;clear p4 pf4 SP4 SPV;generalize w4.setCell ⟨x.ps,4,none⟩ (.int .i64 (x.wait+1))=V5 at *; have IA5:=hid (SP5.out.cell (k:=1) rfl);have IJ5:=hid (SP5.out.cell (k:=0) rfl);have q0:V5.cell? ⟨w2.heap.size,0,none⟩=some (.int .u64 i.1):=IJ5.out.cell 0;have q1:V5.cell? ⟨w2.heap.size,1,none⟩=some (.int .i64 i.2):=IJ5.out.cell 1;have k40:=IA5.out.cell 0;have k41:=IA5.out.cell 1;have f40:=IA5.out.frozen 0;have f41:=IA5.out.frozen 1;go_wp2_with fail
  have SP6:Hid (Sep b (V5.setCell ⟨w.heap.size,0,none⟩ (.int .u64 i.1)) (cellOb w2.heap.size 31 #[.int .u64 i.1,.int .i64 i.2]::cellOb w.heap.size 31 #[.int .u64 i.1,.int .i64 0]::(putS x i ⟨A3,n3,c3⟩ bs).obs l)):=(SP5.out.setAt 1 rfl 0 (.int .u64 i.1)).1;have SP7:Hid (Sep b ((V5.setCell ⟨w.heap.size,0,none⟩ (.int .u64 i.1)).setCell ⟨w.heap.size,1,none⟩ (.int .i64 i.2)) (cellOb w2.heap.size 31 #[.int .u64 i.1,.int .i64 i.2]::cellOb w.heap.size 31 #[.int .u64 i.1,.int .i64 i.2]::(putS x i ⟨A3,n3,c3⟩ bs).obs l)):=(SP6.out.setAt 1 rfl 1 (.int .i64 i.2)).1;have BZ:Hid (Below b w ((V5.setCell ⟨w.heap.size,0,none⟩ (.int .u64 i.1)).setCell ⟨w.heap.size,1,none⟩ (.int .i64 i.2))):=(BY.out.setCell hbase _).setCell hbase _;have c0:=(SP7.out.cell (k:=1) rfl).cell 0;have c1:=(SP7.out.cell (k:=1) rfl).cell 1;generalize ((V5.setCell ⟨w.heap.size,0,none⟩ (.int .u64 i.1)).setCell ⟨w.heap.size,1,none⟩ (.int .i64 i.2))=W' at SP7 BZ c0 c1 |-; refine bodyPost_ret (v:=.tuple #[.agg #[.int .u64 i.1,.int .i64 i.2],.int .i64 0]) ?_ rfl ⟨rfl,⟨A3,n3,c3⟩,SP7.out.tail.tail,(fun g hg=>?_),BZ.out⟩
  · simp [results,Tryz.results23,go_sem,c0,c1]
  have:=F3.out g hg;have:=B2.out.size;omega)
end
end
section
open Go.RowKit Go.Shelf Go.Sort
abbrev Ent:=ID×Nat
def ent0:Ent:=(id0,0)
instance:Inhabited Ent:=⟨ent0⟩
def encE (e:Ent):List Value:=[.int .u64 e.1.1,.int .i64 e.1.2,.int .i64 e.2]
theorem encE_len (i:Ent):(encE i).length=3:=rfl
theorem encE_one (i:Ent):∀ u∈encE i,u.oneCell'=true:=by
 intro u hu;simp [encE] at hu;rcases hu with rfl | rfl | rfl<;>rfl
theorem info166:(Tryz.prog.info? 166).map (fun i=>(i.zero,i.size,i.bytes))=some (some (.agg #[.int .u64 0,.int .i64 0,.int .i64 0]),3,24):=by kernel_rfl
def cmpE (x y:Ent):Int:=Lib.compareInt x.2 y.2
theorem lt_cmpE (x y:Ent):ltOf cmpE x y=decide (x.2<y.2):=by
 unfold ltOf cmpE Lib.compareInt;by_cases h1:x.2<y.2
 · have:(x.2:Int)<y.2:=by omega
   simp [h1,this]
 by_cases h2:(y.2:Int)<x.2
 · have:¬ (x.2:Int)<y.2:=by omega
   simp [h1,h2,this]
 have:¬ (x.2:Int)<y.2:=by omega
 simp [h1,h2,this]
theorem swoE:SWO (ltOf cmpE) where
 irrefl x:=by rw [lt_cmpE];simp
 trans x y z h1 h2:=by rw [lt_cmpE] at *; simp at *; omega
 ntrans x y z h1 h2:=by rw [lt_cmpE] at *; simp at *; omega
theorem grow2 (W:World) (a b:Obj) (q:Nat):((W.alloc a).alloc b).drewN q=grow (W.drewN q) #[a,b]:=by
 show ((W.drewN q).alloc a).alloc b=grow (W.drewN q) #[a,b];rw [alloc_eq_grow,alloc_eq_grow,grow_grow];rfl
theorem ecmp_grow (x y:Ent) (W:World):Calls Tryz.prog 153 #[.agg #[.int .u64 x.1.1,.int .i64 x.1.2,.int .i64 x.2],.agg #[.int .u64 y.1.1,.int .i64 y.1.2,.int .i64 y.2]] W fun e w'=>e= .returned (.int .i64 (cmpE x y))/\∃ q os',w'=grow (W.drewN q) os':=by
 have hcon2:=fun W'=>cmpI_any x.2 y.2 W';obtain ⟨r,Hr⟩:∃ r,Hid (Lib.compareInt x.2 y.2=r):=⟨_,rfl⟩;unfold cmpE;rw [Hr.out] at hcon2 |-; have H2:=hid hcon2;clear hcon2;go_enter Tryz.func153,Tryz.ntmps153;go_wp2_with (go_at_call 154;refine (H2.out _).mono ?_;rintro e w' ⟨rfl,hw⟩;rw [hw])
 go_ret;exact ⟨rfl,0,_,grow2 W _ _ 0⟩
section
variable {α:Type} [Inhabited α] {enc:α->List Value} {k:Nat}
theorem sort_row (hk:∀ y,(enc y).length=k) {cf:α->α->Int} {f:FuncId} {base g n cap:Nat} {e:TypeId} {xs:List α} {w:World} {gv:Value} (h:w.ownsRow base e k (.slice (some ⟨g,0,none⟩) n cap) n (xs.flatMap enc)) (hk0:0<k)
 (hcon:Calls Tryz.prog f #[.slice (some ⟨g,0,none⟩) xs.toArray.size cap,gv] w fun e w'=>e= .returned (.tuple #[])/\∃ d' m os,PermIn 0 xs.toArray.size xs.toArray d'/\SortedIn (ltOf cf) 0 xs.toArray.size d'/\w'=sortWorldK enc k w g 0 m d' os):
 Calls Tryz.prog f #[.slice (some ⟨g,0,none⟩) n cap,gv] w (fun e w'=>e= .returned (.tuple #[])/\∃ ys:List α,ys.Perm xs/\ys.Pairwise (fun a b=>ltOf cf b a=false)/\HoldsK enc k w' g 0 ys.toArray/\w.grownBy w' (some g)):=by
 have hl:=h.1;rw [flat_len hk] at hl
 have hnx:n=xs.toArray.size:=by
  have:xs.length=n:=Nat.eq_of_mul_eq_mul_right hk0 hl;simp [this]
 have hg:=h.lt g rfl;rw [<- hnx] at hcon;refine Calls.mono hcon ?_;rintro e w' ⟨he,d',m,os,hp,hs,rfl⟩;obtain ⟨hsz,_,hperm⟩:=hp;rw [hnx,Array.extract_size,show xs.toArray.size=d'.size from hsz.symm,Array.extract_size] at hperm;have hH:=holdsK_putRowK (enc:=enc) (k:=k) (Sort.ahead w m) g 0 xs.toArray d' (holdsK_of_own hk hk0 h) hsz
 have hgrow:w.grownBy (sortWorldK enc k w g 0 m d' os) (some g):=by
  refine ⟨rfl,rfl,rfl,by simp [sortWorldK,putRowK],fun j hj hne=>?_⟩;unfold sortWorldK;rw [heap_grow_old _ _ (by simpa [putRowK] using hj)];have:g≠j:=fun e=>hne (by rw [e]);simp [putRowK,putRow,mapBlock,Sort.ahead,Array.getElem?_modify,this]
 refine ⟨he,d'.toList,by simpa using hperm,?_,?_,hgrow⟩
 · rw [List.pairwise_iff_getElem];intro i j hi hj hij;have hi':i<d'.size:=by simpa using hi
   have hj':j<d'.size:=by simpa using hj
   have:=hs i j (Nat.zero_le _) hij (by omega);rw [getElem!_pos d' i hi',getElem!_pos d' j hj'] at this;simpa using this
 exact holdsK_grow (enc:=enc) (k:=k) _ _ _ _ _ (by simpa [putRowK] using hg.2) hH
end
theorem sortE_any (base g n cap:Nat) (xs:List Ent) (w:World) (h:w.ownsRow base 166 3 (.slice (some ⟨g,0,none⟩) n cap) n (xs.flatMap encE)) (hn:xs.length<=4294967296):
 Calls Tryz.prog 152 #[.slice (some ⟨g,0,none⟩) n cap,.func (.func 153) #[] #[]] w (fun e w'=>e= .returned (.tuple #[])/\∃ ys:List Ent,ys.Perm xs/\ys.Pairwise (fun a b=>a.2<=b.2)/\HoldsK encE 3 w' g 0 ys.toArray/\w.grownBy w' (some g)):=by
 have hg:=h.lt g rfl;have eg:∀ args w,(callFunc 153 args).run Tryz.prog w= .ok (.enter 153 args) w:=enters_of Tryz.func153 (by kernel_rfl) rfl
 refine (sort_row encE_len (cf:=cmpE) h (by omega) (AnyQ.slices_SortFunc Tryz.lay152 3 Tryz.isAgg166 Tryz.sizeOf166 encE (fun _=>rfl) encE_one cmpE swoE 153 #[] g 0 cap xs.toArray w eg
  (fun _ _ _ _ x y=>ecmp_grow x y _) (holdsK_of_own encE_len (by omega) h) hg.2 (by simp;omega))).mono ?_
 rintro e w' ⟨rfl,ys,h1,h2,h3,h4⟩;refine ⟨rfl,ys,h1,h2.imp (fun {a b} hab=>?_),h3,h4⟩;rw [lt_cmpE] at hab;simpa using hab
end
section
open Go.RowKit Go.MapKept Go.ChangeMaps Go.Shelf Go.Sort
def durs:Chs->List Ent
 | []=>[]
 | (i,.at o)::C=>(i,o)::durs C
 | (_,.pend _ _)::C=>durs C
theorem durs_app (C D:Chs):durs (C++D)=durs C++durs D:=by
 induction C with
 | nil=>rfl
 | cons c C ih=>
  obtain ⟨i,pl⟩:=c;cases pl with
  | pend d bs=>exact ih
  | «at» o=>simp [durs,ih]
theorem durs_perm {C D:Chs} (h:C.Perm D):(durs C).Perm (durs D):=by
 induction h with
 | nil=>exact .nil
 | cons c _ ih=>
  obtain ⟨i,pl⟩:=c;cases pl with
  | pend d bs=>exact ih
  | «at» o=>exact ih.cons _
 | swap c d l=>
  obtain ⟨i,pl⟩:=c;obtain ⟨j,pm⟩:=d;cases pl<;>cases pm<;>simp only [durs]
  all_goals first | exact .refl _ | exact .swap _ _ _
 | trans _ _ h1 h2=>exact h1.trans h2
theorem durs_len (C:Chs):(durs C).length<=C.length:=by
 induction C with
 | nil=>simp [durs]
 | cons c C ih=>
  obtain ⟨i,pl⟩:=c;cases pl<;>simp [durs]<;>omega
abbrev vI (v:Value):Value:=v
def eM (v:Value) (n:Nat):List (Int×Value):=if n=0 then [] else [(1,v)]
theorem own_base {w:World} {base:Nat} {e:TypeId} {size n:Nat} {v:Value} {xs:List Value} (h:w.ownsRow 0 e size v n xs) (hb:∀ g,v.ownBlock=some g->base<=g):w.ownsRow base e size v n xs:=by
 refine ⟨h.1,?_⟩;rcases h.2 with h2 | ⟨g,cap,cur,hv,hb0,hr⟩
 · exact .inl h2
 exact .inr ⟨g,cap,cur,hv,hb g (by rw [hv];rfl),hr⟩
theorem zero163 (W:World):(zeroValue 163).run Tryz.prog W= .ok (.slice none 0 0) W:=by
 kernel_rfl
theorem okN1:okN 1:=by unfold okN;decide
theorem look_eM {w:World} {am n:Nat} {v:Value} (h:MapIs okN vN vI w am (eM v n)) (hv:n=0->v= .slice none 0 0):(Instr.lookup 161 (.map (some am)) (.int .i64 1) false).run Tryz.prog w= .ok v w:=by
 have:=MapIs.look mkN Tryz.underlying161 (zero163 w) h okN1 false;rw [show (Value.int .i64 1)=vN 1 from rfl,this];by_cases hn:n=0
 · subst hn;rw [hv rfl];rfl
 simp [eM,hn,asc]
theorem setL_eM (v v':Value) (n:Nat):setL (eM v n) 1 v'=eM v' (n+1):=by
 unfold eM;by_cases hn:n=0<;>simp [hn,setL]
theorem three_new (W:World) (x y z:Value) (t:TypeId) (H:Nat) (hH:W.heap.size=H):∀ j u,[x,y,z][j]? =some u->(W.alloc (.cells #[x,y,z] t)).cell? ((⟨H,0,none⟩:Addr).add j)=some u:=by
 intro j u hu;rw [lit_add,Nat.zero_add,new_cell W t #[x,y,z] H hH j];simpa using hu
theorem eql34 (w:World) (a:Option Addr) (n c n' c':Nat):(binOp .eql 34 (.slice a n c) (.slice none n' c')).run Tryz.prog w= .ok (.bool a.isNone) w:=Lib.run_eql_slice_nil w _ _ a n c n' c' Tryz.underlying34
theorem wpList_next_eM (w:World) {ops:Array Oper} {rest:List Oper} {o:Oper} {a:Act} {Q:Exit->Act->World->Prop} (hg:o.guard=none) (it:Operand) (hop:o.op=Op.next it false) (b r:Nat) (v:Value) (n:Nat) (done:List (Int×Value)) (cnt:Nat)
 (hit:a.eval it= .pointer (some ⟨r,0,none⟩)) (h:RIs okN vN vI w b r (eM v n) done cnt)
 (hDone:done.Perm (eM v n)->wpList Tryz.prog ops Q rest (a.put o.dst (.tuple #[.bool false])) w)
 (hMore:∀ (w':World) (cnt':Nat),n≠0->RIs okN vN vI w' b r (eM v n) (done++[(1,v)]) cnt'->cnt'<cnt->w.grownBy w' (some r)->Hid (w'.heap.size=w.heap.size)->
   (Instr.entry (.pointer (some ⟨r,0,none⟩))).run Tryz.prog w'= .ok (.tuple #[.int .i64 1,v]) w'->wpList Tryz.prog ops Q rest (a.put o.dst (.tuple #[.bool true,.int .i64 1,v])) w'):
 wpList Tryz.prog ops Q (o::rest) a w:=
 wpList_next_is w hg it hop b r (eM v n) done cnt hit h hDone (fun c w' cnt' h1 h2 h3 h4 h5 h6=>by
  have hn:n≠0:=by
   intro e;rw [e] at h1;simp [eM] at h1
  have hc:c=(1,v):=by
   rw [eM,if_neg hn] at h1;simpa using h1
  subst hc;exact hMore w' cnt' hn h2 h3 h4 h5 h6)
def EntPost (C:Chs) (w:World) (e:Ending) (w':World):Prop:=
 ∃ (v:Value) (xs:List Ent) (am:Nat),e= .returned (.map (some am))/\w.heap.size<=am/\MapIs okN vN vI w' am (eM v xs.length)/\xs.Perm (durs C)/\xs.Pairwise (fun a b=>a.2<=b.2)/\(xs=[]->v= .slice none 0 0)/\
  (xs≠[]->∃ g c,v= .slice (some ⟨g,0,none⟩) xs.length c/\w.heap.size<=g/\g<w'.heap.size/\HoldsK encE 3 w' g 0 xs.toArray)/\Below w.heap.size w w'
theorem entries_any (ps cm:Nat) (C:Chs) (w:World) (hc:w.cell? ⟨ps,2,none⟩=some (.map (some cm))) (hm:MapIs okID vID vPl w cm C) (hC:C.length<=1000000) (hpd:∀ i d bs,(i,Pl.pend d bs)∈C->d.A≠none):
 Calls Tryz.prog 100 #[vPtr ps] w (EntPost C w):=by
 obtain ⟨i0,hi,hz0,hz1,hz2⟩:=info_parts info166
 have hpsl:ps<w.heap.size:=by
  by_cases h:ps<w.heap.size
  · exact h
  simp [World.cell?, Array.getElem?_eq_none (Nat.le_of_not_lt h)] at hc
 have hcW:(w.alloc (.map #[] 0)).cell? ⟨ps,2,none⟩=some (.map (some cm)):=((bel1q w (.map #[] 0)).cell (p:=⟨ps,2,none⟩) hpsl).trans hc;have Hm:Hid (MapIs okID vID vPl (w.alloc (.map #[] 0)) cm C):=hm.alloc _;have HPD:=hid hpd;have hbw:=hm.lt;have M0:Hid (MapIs okN vN vI (w.alloc (.map #[] 0)) w.heap.size (eM (.slice none 0 0) 0)):=MapIs.made w;have hmk:(Instr.makeMap 161 none).run Tryz.prog w= .ok (.map (some w.heap.size)) (w.alloc (.map #[] 0)):=by simp [Instr.makeMap,run_underlying Tryz.underlying161]
 clear hm hpd;go_enter Tryz.func100,Tryz.ntmps100;go_wp2_with (at_range;refine wpList_range_is _ rfl _ 128 rfl 31 138 Tryz.underlying128 cm C rfl Hm.out ?_;intro w0 hrg0 hg0 hs0)
 rw [show (w.alloc (.map #[] 0)).heap.size=w.heap.size+1 from by simp] at hrg0;have Hrg0:=hid hrg0;have Hb0:Hid (Below w.heap.size w w0):=(bel1q w (.map #[] 0)).grown hg0 (by simp) (by simp);have M1:=hid (M0.out.kept hg0 (by simp));clear hrg0 hg0 hs0;clear hmk;rw [show (w.alloc (.map #[] 0)).heap.size=w.heap.size+1 from by simp];go_frame
 go_loopw [] (fun wr=>∃ (done:Chs) (v:Value) (cnt:Nat),RIs okID vID vPl wr cm (w.heap.size+1) C done cnt/\MapIs okN vN vI wr w.heap.size (eM v (durs done).length)/\wr.ownsRow 0 166 3 v (durs done).length ((durs done).flatMap encE)/\(∀ g,v.ownBlock=some g->w.heap.size+2<=g)/\((durs done).length=0->v= .slice none 0 0)/\Below w.heap.size w wr) (fun wr=>wr.rangeLeft cm (w.heap.size+1))
 case atStart=>exact ⟨[],.slice none 0 0,_,Hrg0.out,M1.out,World.ownsRow_nil _ _ _ _,(fun g hg=>by cases hg),fun _=>rfl,Hb0.out⟩
 obtain ⟨done,v,cnt,hrg,hmp,hown,hnew,hnil,hb⟩:=hrel;have hsz:=hb.size;have Hleft:=hid hrg.left_eq;have Hrg:=hid hrg;have Hmp:=hid hmp;have Hown:=hid hown;have Hnew:=hid hnew;have Hnil:=hid hnil;have Hb:=hid hb;clear hrg hmp hown hnew hnil hb
 go_wp2_with (first
  | (at_next;(refine wpList_next_ch _ rfl _ rfl cm (w.heap.size+1) C done cnt rfl Hrg.out (fun hp=>?_) (fun i pl w1 cnt1 hc1 hrg1 hlt1 hg1 hs1 hen=>halt_ ?_)))
  | (at_range;refine halt_ ?_))
 · rename World=>wa;have Hp:=hid (durs_perm hp)
   have hdl:(durs done).length<=1000000:=by
    have h1:=(durs_perm hp).length_eq;have h3:=durs_len C;omega
   clear hp;obtain ⟨xs,HX⟩:∃ xs,Hid (durs done=xs):=⟨_,rfl⟩;rw [HX.out] at Hp hdl Hnil Hown Hmp;clear HX Hrg
   have hvs:v= .slice none 0 0/\xs=[]∨∃ g cap,v= .slice (some ⟨g,0,none⟩) xs.length cap:=by
    rcases Hown.out.2 with ⟨hv,hx⟩ | ⟨g,cap,cur,hv,_⟩
    · refine .inl ⟨hv,?_⟩;have h1:=Hown.out.1;rw [hx] at h1;simp at h1;exact List.eq_nil_of_length_eq_zero (by omega)
    exact .inr ⟨g,cap,hv⟩
   rcases hvs with ⟨rfl,rfl⟩ | ⟨g,cap,rfl⟩
   · have Hmp0:Hid (MapIs okN vN vI wa w.heap.size (eM (.slice none 0 0) 0)):=Hmp.out;refine wpList_range_is _ rfl _ 161 rfl 3 163 Tryz.underlying161 w.heap.size (eM (.slice none 0 0) 0) rfl Hmp0.out ?_;intro w2 hrg2 hg2 hs2;have Hrg2:=hid hrg2;have HB2:Hid (Below w.heap.size w w2):=Hb.out.grown hg2 hsz (by simp);clear hrg2 hg2 hs2;go_wp2_with fail
     go_loopw [] (fun wq=>wq=w2) (fun wq=>0)
     case atStart=>rfl
     subst hrel;go_wp2_with (at_next;refine wpList_next_eM _ rfl _ rfl w.heap.size wa.heap.size _ 0 [] 0 rfl Hrg2.out (fun hp=>?_) (fun w3 cnt3 hn3 _ _ _ _ _=>absurd rfl hn3))
     go_ret;exact ⟨.slice none 0 0,[],w.heap.size,rfl,Nat.le_refl _,Hrg2.out.map,Hp.out,List.Pairwise.nil,fun _=>rfl,(fun hx=>absurd rfl hx),HB2.out⟩
   have hown':=own_base (base:=w.heap.size+2) Hown.out Hnew.out;have hgl:=hown'.lt g rfl;have Hown':=hid hown';clear hown';refine wpList_range_is _ rfl _ 161 rfl 3 163 Tryz.underlying161 w.heap.size (eM (.slice (some ⟨g,0,none⟩) xs.length cap) xs.length) rfl Hmp.out ?_;intro w2 hrg2 hg2 hs2;have Hrg2:=hid hrg2;have HB2:Hid (Below w.heap.size w w2):=Hb.out.grown hg2 hsz (by simp);have HO2:=hid (Hown'.out.kept hg2 (.inr (by simp [Value.ownBlock])));clear hrg2 hg2;go_wp2_with fail
   go_frame
   go_loopw [] (fun wq=>∃ (done2:List (Int×Value)) (cnt2:Nat),RIs okN vN vI wq w.heap.size wa.heap.size (eM (.slice (some ⟨g,0,none⟩) xs.length cap) xs.length) done2 cnt2/\Below w.heap.size w wq/\((done2=[]/\wq.ownsRow (w.heap.size+2) 166 3 (.slice (some ⟨g,0,none⟩) xs.length cap) xs.length (xs.flatMap encE))∨(1<=done2.length/\∃ ys:List Ent,ys.Perm xs/\ys.Pairwise (fun a b=>a.2<=b.2)/\HoldsK encE 3 wq g 0 ys.toArray))) (fun wq=>wq.rangeLeft w.heap.size wa.heap.size)
   case atStart=>exact ⟨[],_,Hrg2.out,HB2.out,.inl ⟨rfl,HO2.out⟩⟩
   obtain ⟨done2,cnt2,hrg3,hb3,hst⟩:=hrel;have Hrg3:=hid hrg3;have HB3:=hid hb3;have HST:=hid hst;have Hleft2:=hid hrg3.left_eq;have hsz3:=hb3.size;clear hrg3 hb3 hst;go_wp2_with (at_next;refine wpList_next_eM _ rfl _ rfl w.heap.size wa.heap.size _ xs.length done2 cnt2 rfl Hrg3.out (fun hp=>?_) (fun w3 cnt3 hn3 hrg4 hlt4 hg4 hs4 hen4=>halt_ ?_))
   · go_ret;rcases HST.out with ⟨rfl,ho⟩ | ⟨h1,ys,y1,y2,y3⟩
     · have h0:xs.length=0:=by
        have:=hp.length_eq;by_cases hx:xs.length=0
        · exact hx
        simp [eM,hx] at this
       have hv:=Hnil.out h0;cases hv
     refine ⟨.slice (some ⟨g,0,none⟩) xs.length cap,ys,w.heap.size,rfl,Nat.le_refl _,?_,y1.trans Hp.out,y2,fun hy=>?_,fun _=>?_,HB3.out⟩
     · rw [y1.length_eq];exact Hrg3.out.map
     · subst hy;exact Hnil.out y1.length_eq.symm
     exact ⟨g,cap,by rw [y1.length_eq],by omega,by have:=Hrg3.out.lt;omega,y3⟩
   have hd2:done2=[]:=by
    have:=hrg4.len;rw [eM,if_neg hn3] at this;simp at this;exact this
   subst hd2
   obtain ⟨_,ho3⟩:([]:List (Int×Value))=[]/\_:=by
    rcases HST.out with h | h
    · exact h
    exact absurd h.1 (by simp)
   have HO4:=hid (ho3.kept hg4 (.inr (fun e=>Hrg3.out.own_ne ho3 e.symm)));have HB4:Hid (Below w.heap.size w w3):=HB3.out.grown hg4 hsz3 (fun k hk=>by injection hk with hk;omega);have Hrg4:=hid hrg4;have Hlt4:=hid hlt4;clear hrg4 hlt4 hg4 ho3;refine hid ?_;go_wp2_with (go_at_call 152;refine halt_ ?_)
   refine (sortE_any (w.heap.size+2) g xs.length cap xs _ HO4.out (by omega)).mono ?_;rintro e w5 ⟨rfl,ys,y1,y2,y3,y4⟩;have Y1:=hid y1;have Y2:=hid y2;have Y3:=hid y3;have Y4:=hid y4;clear y1 y2 y3 y4 hen4;have hneg:some w.heap.size≠some g:=by intro e;injection e with e;omega
   have Hrg5:=hid (Hrg4.out.kept Y4.out hneg (Hrg4.out.own_ne HO4.out));have HB5:Hid (Below w.heap.size w w5):=HB4.out.grown Y4.out HB4.out.size (fun k hk=>by injection hk with hk;omega);go_wp2_with fail
   go_roundw
   case rel=>exact ⟨_,cnt3,Hrg5.out,HB5.out,.inr ⟨by simp,ys,Y1.out,Y2.out,Y3.out⟩⟩
   rw [Hrg5.out.left_eq,Hleft2.out];exact Hlt4.out
 have Hc1:=hid hc1;have hs1':w1.heap.size=_:=hs1.out;have K1:Hid (w1.ownsRow 0 166 3 v (durs done).length ((durs done).flatMap encE)):=Hown.out.kept hg1 (.inr (fun e=>Hrg.out.own_ne Hown.out e.symm));have Hb1:Hid (Below w.heap.size w w1):=Hb.out.grown hg1 hsz (fun k hk=>by injection hk with hk;omega);have M1':Hid (MapIs okN vN vI w1 w.heap.size (eM v (durs done).length)):=Hmp.out.kept hg1 (by simp);have hsz1:=Hb1.out.size;have Hrg1:=hid hrg1;have Hlt1:=hid hlt1
 have hdl:(durs done).length<=1000000:=by
  have h1:=hrg1.len;have h3:=durs_len done;simp at h1;omega
 clear hc1 hrg1 hlt1 hg1 hs1';refine hid ?_;cases pl with
 | pend d bs=>
  have hA:=HPD.out i d bs Hc1.out
  have q:∀ W,(binOp .eql 34 (.slice (Pl.pend d bs).A (Pl.pend d bs).len (Pl.pend d bs).cap) (.slice none 0 0)).run Tryz.prog W= .ok (.bool false) W:=fun W=>by
   rw [eql34];cases hd:d.A with
   | none=>exact absurd hd hA
   | some ad=>simp [Pl.A,hd]
  clear hA;go_wp2_with fail
  go_roundw
  case rel=>
   refine ⟨done++[(i,.pend d bs)],v,cnt1,(Hrg1.out.alloc _).alloc _,?_,?_,Hnew.out,?_,(Hb1.out.alloc hsz1 _).alloc (by simp;omega) _⟩
   · rw [durs_app];simpa [durs] using (M1'.out.alloc _).alloc _
   · rw [durs_app];simpa [durs] using (K1.out.alloc _).alloc _
   rw [durs_app];simpa [durs] using Hnil.out
  rw [((Hrg1.out.alloc _).alloc _).left_eq,Hleft.out];exact Hlt1.out
 | «at» o=>
  have q:∀ W,(binOp .eql 34 (.slice (Pl.at o).A (Pl.at o).len (Pl.at o).cap) (.slice none 0 0)).run Tryz.prog W= .ok (.bool true) W:=fun W=>by
   rw [eql34];rfl
  go_wp2_with fail
  clear hen q;have IA:Hid (IsB ((w1.alloc (.cells #[.int .u64 i.1,.int .i64 i.2] 31)).alloc (.cells #[.slice (Pl.at o).A (Pl.at o).len (Pl.at o).cap,.int .i64 (Pl.at o).f,.int .i64 (Pl.at o).o] 138)) w1.heap.size 31 #[.int .u64 i.1,.int .i64 i.2]):=(IsB.new _ _ _).alloc _
  have IB:Hid (IsB ((w1.alloc (.cells #[.int .u64 i.1,.int .i64 i.2] 31)).alloc (.cells #[.slice (Pl.at o).A (Pl.at o).len (Pl.at o).cap,.int .i64 (Pl.at o).f,.int .i64 (Pl.at o).o] 138)) (w1.heap.size+1) 138 #[.slice none 0 0,.int .i64 1,.int .i64 o]):=by
   have:=IsB.new (w1.alloc (.cells #[.int .u64 i.1,.int .i64 i.2] 31)) 138 #[.slice (Pl.at o).A (Pl.at o).len (Pl.at o).cap,.int .i64 (Pl.at o).f,.int .i64 (Pl.at o).o];rw [show (w1.alloc (.cells #[.int .u64 i.1,.int .i64 i.2] 31)).heap.size=w1.heap.size+1 from by simp] at this;exact this
  have K2:=hid ((K1.out.alloc (.cells #[.int .u64 i.1,.int .i64 i.2] 31)).alloc (.cells #[.slice (Pl.at o).A (Pl.at o).len (Pl.at o).cap,.int .i64 (Pl.at o).f,.int .i64 (Pl.at o).o] 138));have M2:=hid ((M1'.out.alloc (.cells #[.int .u64 i.1,.int .i64 i.2] 31)).alloc (.cells #[.slice (Pl.at o).A (Pl.at o).len (Pl.at o).cap,.int .i64 (Pl.at o).f,.int .i64 (Pl.at o).o] 138));have R2:=hid ((Hrg1.out.alloc (.cells #[.int .u64 i.1,.int .i64 i.2] 31)).alloc (.cells #[.slice (Pl.at o).A (Pl.at o).len (Pl.at o).cap,.int .i64 (Pl.at o).f,.int .i64 (Pl.at o).o] 138));have B2:Hid (Below w.heap.size w ((w1.alloc (.cells #[.int .u64 i.1,.int .i64 i.2] 31)).alloc (.cells #[.slice (Pl.at o).A (Pl.at o).len (Pl.at o).cap,.int .i64 (Pl.at o).f,.int .i64 (Pl.at o).o] 138))):=(Hb1.out.alloc hsz1 _).alloc (by simp;omega) _;generalize ((w1.alloc (.cells #[.int .u64 i.1,.int .i64 i.2] 31)).alloc (.cells #[.slice (Pl.at o).A (Pl.at o).len (Pl.at o).cap,.int .i64 (Pl.at o).f,.int .i64 (Pl.at o).o] 138))=W at IA IB K2 M2 R2 B2 |-; obtain ⟨n,Hn⟩:∃ n,Hid ((durs done).length=n):=⟨_,rfl⟩;rw [Hn.out] at K2 M2 hdl Hnil;have hl1:(Instr.lookup 161 (.map (some w.heap.size)) (.int .i64 1) false).run Tryz.prog W.drew= .ok v W.drew:=look_eM (w:=W.drew) M2.out Hnil.out
  have hl2:(Instr.lookup 161 (.map (some w.heap.size)) (.int .i64 1) false).run Tryz.prog (W.alloc (.cells #[.int .u64 i.1,.int .i64 i.2,.int .i64 o] 166)).drew= .ok v (W.alloc (.cells #[.int .u64 i.1,.int .i64 i.2,.int .i64 o] 166)).drew:=look_eM (w:=(W.alloc (.cells #[.int .u64 i.1,.int .i64 i.2,.int .i64 o] 166)).drew) (M2.out.alloc _) Hnil.out;have a0:W.cell? ⟨w1.heap.size,0,none⟩=some (.int .u64 i.1):=IA.out.cell 0;have a1:W.cell? ⟨w1.heap.size,1,none⟩=some (.int .i64 i.2):=IA.out.cell 1;have b1:W.cell? ⟨w1.heap.size+1,1,none⟩=some (.int .i64 1):=IB.out.cell 1;have b2:W.cell? ⟨w1.heap.size+1,2,none⟩=some (.int .i64 o):=IB.out.cell 2;have iaw:=IA.out.lt;have ibw:=IB.out.lt
  have hfin:∀ v' w3,w3.ownsRow 0 166 3 v' (n+1) ((durs done).flatMap encE++[.int .u64 i.1,.int .i64 i.2,.int .i64 o])->(W.alloc (.cells #[.int .u64 i.1,.int .i64 i.2,.int .i64 o] 166)).drew.grownBy w3 v.ownBlock->v'.ownBlock=v.ownBlock∨v'.ownBlock=some (W.alloc (.cells #[.int .u64 i.1,.int .i64 i.2,.int .i64 o] 166)).drew.heap.size->∃ w4,(Instr.mapUpdate 161 (.map (some w.heap.size)) (.int .i64 1) v').run Tryz.prog w3= .ok () w4/\Hid ((w4.cell? ⟨w1.heap.size,0,none⟩=some (.int .u64 i.1)/\w4.cell? ⟨w1.heap.size,1,none⟩=some (.int .i64 i.2)/\w4.cell? ⟨w1.heap.size+1,1,none⟩=some (.int .i64 1)/\w4.cell? ⟨w1.heap.size+1,2,none⟩=some (.int .i64 o))/\(w3.cell? ⟨w1.heap.size,0,none⟩=some (.int .u64 i.1)/\w3.cell? ⟨w1.heap.size,1,none⟩=some (.int .i64 i.2)/\w3.cell? ⟨w1.heap.size+1,1,none⟩=some (.int .i64 1)/\w3.cell? ⟨w1.heap.size+1,2,none⟩=some (.int .i64 o)))/\Hid (∃ (done':Chs) (v:Value) (cnt:Nat),done'=done++[(i,.at o)]/\cnt=cnt1/\RIs okID vID vPl w4 cm (w.heap.size+1) C done' cnt/\MapIs okN vN vI w4 w.heap.size (eM v (durs done').length)/\w4.ownsRow 0 166 3 v (durs done').length ((durs done').flatMap encE)/\(∀ g,v.ownBlock=some g->w.heap.size+2<=g)/\((durs done').length=0->v= .slice none 0 0)/\Below w.heap.size w w4):=by
   intro v' w3 hown3 hgr3 hbk3;have MW:MapIs okN vN vI (W.alloc (.cells #[.int .u64 i.1,.int .i64 i.2,.int .i64 o] 166)).drew w.heap.size (eM v n):=M2.out.alloc _;have M3:=MW.kept hgr3 (M2.out.own_ne K2.out);obtain ⟨w4,hu,hm4,hg4,hz4⟩:=MapIs.update mkN Tryz.underlying161 M3 okN1 v';rw [setL_eM] at hm4;have IAW:IsB (W.alloc (.cells #[.int .u64 i.1,.int .i64 i.2,.int .i64 o] 166)).drew w1.heap.size 31 #[.int .u64 i.1,.int .i64 i.2]:=IA.out.alloc _;have IBW:IsB (W.alloc (.cells #[.int .u64 i.1,.int .i64 i.2,.int .i64 o] 166)).drew (w1.heap.size+1) 138 #[.slice none 0 0,.int .i64 1,.int .i64 o]:=IB.out.alloc _;have IA3:=IAW.grown hgr3 (IA.out.own_ne K2.out (by decide));have IB3:=IBW.grown hgr3 (IB.out.own_ne K2.out (by decide));have IA4:=IA3.grown hg4 (map_ne M3 IA3);have IB4:=IB3.grown hg4 (map_ne M3 IB3);have RW:RIs okID vID vPl (W.alloc (.cells #[.int .u64 i.1,.int .i64 i.2,.int .i64 o] 166)).drew cm (w.heap.size+1) C (done++[(i,.at o)]) cnt1:=R2.out.alloc _;have R4:=(RW.kept hgr3 (R2.out.map.own_ne K2.out) (R2.out.own_ne K2.out)).kept hg4 (by intro e;injection e with e;omega) (by intro e;injection e with e;omega);have own4:=hown3.kept hg4 (.inr (fun e=>M3.own_ne hown3 e.symm));have hBW:Below w.heap.size w (W.alloc (.cells #[.int .u64 i.1,.int .i64 i.2,.int .i64 o] 166)).drew:=(B2.out.alloc (B2.out.size) _).drew
   have hB3:Below w.heap.size w w3:=hBW.grown hgr3 hBW.size (fun k hk=>by have:=Hnew.out k hk;omega);have hB4:Below w.heap.size w w4:=hB3.grown hg4 hB3.size (fun k hk=>by injection hk with hk;omega)
   have hdl':(durs (done++[(i,Pl.at o)])).length=n+1:=by
    rw [durs_app,List.length_append,Hn.out];rfl
   refine ⟨w4,hu,⟨⟨IA4.cell 0,IA4.cell 1,IB4.cell 1,IB4.cell 2⟩,⟨IA3.cell 0,IA3.cell 1,IB3.cell 1,IB3.cell 2⟩⟩,done++[(i,.at o)],v',cnt1,rfl,rfl,R4,?_,?_,?_,?_,hB4⟩
   · rw [hdl'];exact hm4
   · rw [hdl',durs_app,List.flatMap_append];exact own4
   · intro g hg;rcases hbk3 with e | e
     · exact Hnew.out g (e ▸ hg)
     rw [e] at hg;injection hg with hg;have h1:=Hrg1.out.lt;have h2:=B2.out.size;have:W.heap.size+1=g:=by simpa using hg
     omega
   rw [hdl'];intro h;omega
  have HFIN:=hid hfin;have KO:Hid ((W.alloc (.cells #[.int .u64 i.1,.int .i64 i.2,.int .i64 o] 166)).drew.ownsRow 0 166 3 v n ((durs done).flatMap encE)):=K2.out.alloc _;have KN:Hid (∀ j u,[Value.int .u64 i.1,.int .i64 i.2,.int .i64 o][j]? =some u->(W.alloc (.cells #[.int .u64 i.1,.int .i64 i.2,.int .i64 o] 166)).drew.cell? ((⟨W.heap.size,0,none⟩:Addr).add j)=some u):=three_new W _ _ _ _ _ rfl;have KE:Hid (∀ u∈[Value.int .u64 i.1,.int .i64 i.2,.int .i64 o],u.oneCell'=true):=encE_one (i,o);have h03:0<3:=by omega
  have h01:0<1:=by omega
  have h63:n+1<=maxLen:=by unfold maxLen;omega
  have hby:(n+1)*24<=140737488355328:=by omega
  clear hfin
  go_region_held3 (fun w'=>w'.cell? ⟨w1.heap.size,0,none⟩=some (.int .u64 i.1)/\w'.cell? ⟨w1.heap.size,1,none⟩=some (.int .i64 i.2)/\w'.cell? ⟨w1.heap.size+1,1,none⟩=some (.int .i64 1)/\w'.cell? ⟨w1.heap.size+1,2,none⟩=some (.int .i64 o))
   (first | go_keep | exact K5.out.2 | exact K5.out.1)
   (first
     | ((with_reducible refine step_append_row rfl _ _ 163 rfl 166 i0 _ 3 24 Tryz.underlying163 hi hz0 hz1 hz2 rfl h03 v n _ rfl KO.out ⟨W.heap.size,0,none⟩ 1 1 [.int .u64 i.1,.int .i64 i.2,.int .i64 o] rfl rfl KN.out KE.out h01 h63 hby ?_);intro v' w3 hown3 hgr3 hbk3;obtain ⟨w4,hu,K5,K6⟩:=HFIN.out v' w3 hown3 hgr3 hbk3;clear hown3 hgr3 hbk3))
  all_goals (
   go_wp2_with fail
   go_roundw
   case rel=>
    obtain ⟨done',v',cnt',e1,e2,h3⟩:=K6.out;exact ⟨done',v',cnt',h3⟩
   obtain ⟨done',v',cnt',e1,e2,h3,_⟩:=K6.out;rw [h3.left_eq,Hleft.out,e2];exact Hlt1.out)
end
end Go.Proofs.YteabgcollokgjaaGreatDoor
