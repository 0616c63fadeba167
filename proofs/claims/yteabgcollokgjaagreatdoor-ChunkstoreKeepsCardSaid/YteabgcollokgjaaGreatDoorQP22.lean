/- Q -/
import Derived.Test.YteabgcollokgjaaGreatDoorQP21
set_option linter.unusedSimpArgs false
set_option linter.unusedVariables false
set_option maxRecDepth 100000
set_option maxHeartbeats 32000000
open Go.Lib (hid)
open List renaming sublist_cons_self → zA,setIfInBounds_toArray → zB
namespace Go.Proofs.YteabgcollokgjaaGreatDoor
section
open Go.RowKit Go.MapKept Go.ChangeMaps Go.Shelf Go.Sort
def pdN (C done:Chs):Int:=((done.filter (fun c=>((asc C c.1).map Pl.isP).getD false)).length:Int)
theorem pdN_snoc (C done:Chs) (c:ID×Pl):pdN C (done++[c])=pdN C done+if ((asc C c.1).map Pl.isP).getD false then 1 else 0:=by
 unfold pdN;rw [List.filter_append];cases h:((asc C c.1).map Pl.isP).getD false<;>simp [h]
theorem pdN_le (C done:Chs):0<=pdN C done/\pdN C done<=done.length:=by
 unfold pdN;have:=List.length_filter_le (fun c=>((asc C c.1).map Pl.isP).getD false) done;omega
theorem setL_memG {α β:Type} [DecidableEq α] {L:List (α×β)} {a:α} {v:β} {c:α×β} (h:c∈setL L a v):c=(a,v)∨c∈L:=by
 induction L with
 | nil=>simp [setL] at h;exact .inl h
 | cons d L ih=>
  unfold setL at h;split at h
  · rcases List.mem_cons.1 h with rfl | h
    · exact .inl rfl
    exact .inr (List.mem_cons_of_mem _ h)
  rcases List.mem_cons.1 h with rfl | h
  · exact .inr (List.mem_cons_self ..)
  rcases ih h with h | h
  · exact .inl h
  exact .inr (List.mem_cons_of_mem _ h)
theorem setL_all {α β:Type} [DecidableEq α] (P:β->Prop) {L:List (α×β)} {a:α} {v:β} (h:∀ c∈L,P c.2) (hv:P v):∀ c∈setL L a v,P c.2:=by
 intro c hc;rcases setL_memG hc with rfl | hc
 · exact hv
 exact h c hc
theorem nfold_keys (D:List UInt8) (C:Chs) (ys:List Ent) (ids:List ID):(∀ c∈(afold C (rfold D [] ys) ids).1,∃ o,c.2=Pl.at o)/\(∀ i,i∈((afold C (rfold D [] ys) ids).1.map (·.1))↔i∈ys.map (·.1)∨i∈ids)/\(afold C (rfold D [] ys) ids).1.length<=ys.length+ids.length:=by
 have h1:∀ (ys:List Ent) (p:Chs×List UInt8),(∀ c∈p.1,∃ o,c.2=Pl.at o)->(∀ c∈(ys.foldl (rstep D) p).1,∃ o,c.2=Pl.at o)/\(∀ i,i∈((ys.foldl (rstep D) p).1.map (·.1))↔i∈p.1.map (·.1)∨i∈ys.map (·.1))/\(ys.foldl (rstep D) p).1.length<=p.1.length+ys.length:=by
  intro ys;induction ys with
  | nil=>intro p hp;exact ⟨hp,by simp,by simp⟩
  | cons y ys ih=>
   intro p hp;rw [List.foldl_cons];obtain ⟨a1,a2,a3⟩:=ih (rstep D p y) (setL_all (fun pl=>∃ o,pl=Pl.at o) hp ⟨_,rfl⟩);have e:(rstep D p y).1=setL p.1 y.1 (Pl.at (0+p.2.length)):=rfl;have hl:=setL_length p.1 y.1 (Pl.at (0+p.2.length));refine ⟨a1,fun i=>(a2 i).trans ?_,by rw [e] at a3;simp only [List.length_cons];omega⟩;rw [e,setL_keys p.1 y.1 (Pl.at (0+p.2.length)) i,List.map_cons,List.mem_cons];constructor
   · rintro ((h | h) | h)
     · exact .inr (.inl h)
     · exact .inl h
     exact .inr (.inr h)
   rintro (h | h | h)
   · exact .inl (.inr h)
   · exact .inl (.inl h)
   exact .inr h
 have h2:∀ (ids:List ID) (p:Chs×List UInt8),(∀ c∈p.1,∃ o,c.2=Pl.at o)->(∀ c∈(ids.foldl (wstep 0 C) p).1,∃ o,c.2=Pl.at o)/\(∀ i,i∈((ids.foldl (wstep 0 C) p).1.map (·.1))↔i∈p.1.map (·.1)∨i∈ids)/\(ids.foldl (wstep 0 C) p).1.length<=p.1.length+ids.length:=by
  intro ids;induction ids with
  | nil=>intro p hp;exact ⟨hp,by simp,by simp⟩
  | cons j ids ih=>
   intro p hp;rw [List.foldl_cons];obtain ⟨a1,a2,a3⟩:=ih (wstep 0 C p j) (setL_all (fun pl=>∃ o,pl=Pl.at o) hp ⟨_,rfl⟩);have e:(wstep 0 C p j).1=setL p.1 j (Pl.at (0+p.2.length)):=rfl;have hl:=setL_length p.1 j (Pl.at (0+p.2.length));refine ⟨a1,fun i=>(a2 i).trans ?_,by rw [e] at a3;simp only [List.length_cons];omega⟩;rw [e,setL_keys p.1 j (Pl.at (0+p.2.length)) i,List.mem_cons];constructor
   · rintro ((h | h) | h)
     · exact .inr (.inl h)
     · exact .inl h
     exact .inr (.inr h)
   rintro (h | h | h)
   · exact .inl (.inr h)
   · exact .inl (.inl h)
   exact .inr h
 obtain ⟨a1,a2,a3⟩:=h1 ys ([],[]) (by simp);obtain ⟨b1,b2,b3⟩:=h2 ids (rfold D [] ys) a1;refine ⟨b1,fun i=>(b2 i).trans ?_,?_⟩
 · have:=a2 i;simp only [List.map_nil,List.not_mem_nil,false_or] at this;unfold rfold;rw [this]
 unfold rfold at b3;simp only [List.length_nil,Nat.zero_add] at a3;unfold afold rfold;omega
theorem SW.replFile {b:Nat} {w0 w w2:World} {l:List Ob} (h:SW b w0 l w) (k:Nat) {fm:Nat} {f:FR} (hk:l[k]? =some (flOb fm (some f))) (hm:MapIs okN vN vPtr w2 fm [(1,w.heap.size+1)]) (hg:((w.alloc (.map #[] 0)).alloc (.cells #[.int .i64 0,.bool true,.map (some w.heap.size)] 145)).grownBy w2 (some fm)):SW b w0 (l.set k (flOb fm (some ⟨w.heap.size+1,w.heap.size,0,true,[]⟩))) w2:=by
 have hh:=h.get k (o:=flOb fm (some f)) hk;have hfl:=hh.1.lt;have hb:Below w.heap.size w ((w.alloc (.map #[] 0)).alloc (.cells #[.int .i64 0,.bool true,.map (some w.heap.size)] 145)):=(bel1q _ _).alloc (by simp) _
 have hi0:IsB ((w.alloc (.map #[] 0)).alloc (.cells #[.int .i64 0,.bool true,.map (some w.heap.size)] 145)) (w.heap.size+1) 145 #[.int .i64 0,.bool true,.map (some w.heap.size)]:=by
  have:=IsB.new (w.alloc (.map #[] 0)) 145 #[.int .i64 0,.bool true,.map (some w.heap.size)];simpa using this
 have hi:IsB w2 (w.heap.size+1) 145 #[.int .i64 0,.bool true,.map (some w.heap.size)]:=hi0.grown hg (by simp;omega);have hm0:MapIs okID vID vBl ((w.alloc (.map #[] 0)).alloc (.cells #[.int .i64 0,.bool true,.map (some w.heap.size)] 145)) w.heap.size []:=(MapIs.made w).alloc _;have hm2:MapIs okID vID vBl w2 w.heap.size []:=hm0.kept hg (by simp;omega)
 have:=h.1.stepAt k hk (w':=w2) (o':=flOb fm (some ⟨w.heap.size+1,w.heap.size,0,true,[]⟩)) ⟨hg.os.trans hb.os,hg.tape.trans hb.tape,hg.output.trans hb.output,Nat.le_trans hb.size hg.size,fun i hi hn=>(hg.block i (Nat.lt_of_lt_of_le hi hb.size) (fun e=>hn (.inl (by injection e)))).trans (hb.block i hi),fun i hi=>by
  rcases hi with hi | ⟨f',e,hi⟩
  · exact .inl (.inl hi)
  · injection e with e;subst e;simp only at hi;exact .inr (by omega)⟩ (fun i hi=>hi.elim) ⟨hm,fun f' e=>by
  injection e with e;subst e;exact ⟨hi,hm2,by simp;omega⟩⟩ (fun i hi'=>by
  rcases hi' with (hi' | ⟨f',e,hi'⟩) | hi'
  · rw [hi'];exact hm.lt
  · injection e with e;subst e;rcases hi' with hi' | hi'
    · rw [hi'];exact hi.lt
    rw [hi'];exact hm2.lt
  exact hi'.elim)
 exact ⟨this.1,h.2.trans this.2⟩
structure RCS where
 pc:Nat
 SA:Option Addr
 sc:Nat
 A:Option Addr
 ac:Nat
 len:Nat
 ids:List ID
 lg:Nat
 cap:Nat
 ys:List Ent
abbrev RCS.cs (q:RCS):Array Value:= #[.int .i64 1,.bool true,.slice q.SA q.ys.length q.sc,.slice q.A q.ids.length q.ac,.int .i64 (q.len:Int)]
abbrev RCS.lv (q:RCS):Value:=.slice (some ⟨q.lg,0,none⟩) 1 q.cap
abbrev RCS.obs (q:RCS) (l:List Ob):List Ob:=cellOb q.pc 216 q.cs::riOb q.A q.ids::rowOb 214 1 q.lv 1 [vPtr q.pc]::ebOb (.slice q.SA q.ys.length q.sc) q.ys::l
def CRPost (b:Nat) (w0:World) (q:RCS) (D:List UInt8) (x:SR) (l:List Ob) (e:Ending) (w':World):Prop:=
 ∃ n1 n2 r',Cnt x.s.now n1/\Cnt (reqS x.s n1 (crOp x.nm (afold x.C (rfold D [] q.ys) q.ids).2)).now n2/\∃ E,e= .returned (.int .i64 E)/\
  ((E≠0/\E=rqE x.s x.nm n1 n2 (afold x.C (rfold D [] q.ys) q.ids).2/\SW b w0 (({ x with r:=r',s:=rqS x.s x.nm n1 n2 (afold x.C (rfold D [] q.ys) q.ids).2,dead:=E==303 }:SR).obs l) w')∨
   (E≠0/\rqE x.s x.nm n1 n2 (afold x.C (rfold D [] q.ys) q.ids).2=0/\E=syncE (rqS x.s x.nm n1 n2 (afold x.C (rfold D [] q.ys) q.ids).2)/\SW b w0 (({ x with r:=r',s:=syncS (rqS x.s x.nm n1 n2 (afold x.C (rfold D [] q.ys) q.ids).2),dead:=E==303 }:SR).obs l) w')∨
   (E=0/\rqE x.s x.nm n1 n2 (afold x.C (rfold D [] q.ys) q.ids).2=0/\syncE (rqS x.s x.nm n1 n2 (afold x.C (rfold D [] q.ys) q.ids).2)=0/\∃ done f,done.Perm (afold x.C (rfold D [] q.ys) q.ids).1/\f.len=q.len/\f.clean=true/\f.T=[]/\
    SW b w0 (({ x with r:=r',s:=syncS (rqS x.s x.nm n1 n2 (afold x.C (rfold D [] q.ys) q.ids).2),C:=updAll x.C done,wait:=x.wait-pdN x.C done,F:=some f }:SR).obs l) w'))
theorem rqS_ops (s:St) (nm:ByteArray) (n1 n2:Nat) (bs:List UInt8):(rqS s nm n1 n2 bs).ops.length<=s.ops.length+2:=by
 unfold rqS;split
 · have h1:=reqS_ops s n1 (crOp nm bs);have h2:=reqS_ops (reqS s n1 (crOp nm bs)) n2 (rnOp nm);omega
 have h1:=reqS_ops s n1 (crOp nm bs);omega
theorem carryR_any {b:Nat} {w0 w:World} {q:RCS} {x:SR} {l:List Ob} (h:SW b w0 (q.obs (x.obs l)) w) (hlen:q.len≠0) (D:List UInt8) (hrd:readE x.s (fileN x.nm)=0) (hD:readB x.s (fileN x.nm)=D) (hnm:x.nm.size<=1000) (hF:∃ f,x.F=some f)
 (hys:∀ y∈q.ys,asc x.C y.1=some (.at y.2)/\okID y.1/\1<=y.1.2/\y.1.2<=8192/\(y.2:Int)+28+y.1.2<=D.length)
 (hids:∀ i∈q.ids,∃ d bs,asc x.C i=some (.pend d bs)/\i.2=(bs.length:Int)/\bs.length<=8192/\okID i) (hsum:entSum q.ys+frSum q.ids<=1048576) (hyl:q.ys.length<=1000000) (hL:x.s.ops.length<=999980) (hcn:∀ n,Cnt x.s.now n->n<=200) (hw0:0<=x.wait) (hw1:x.wait<=1099511627776):
 Calls Tryz.prog 88 #[vPtr x.ps,q.lv] w (CRPost b w0 q D x l):=by
 obtain ⟨pc,SA,sc,A,ac,len,ids,lg,cap,ys⟩:=q;simp only at hlen hids hys hsum hyl;have H:=hid h;have HCR:=hid (crowded_any (l:=l) (h.1.sub (by simp only [RCS.obs];exact ((zA _ _).trans ((zA _ _).trans ((zA _ _).trans (zA _ _)))))) lg cap pc true (len:Int) (lv_cell (k:=2) h rfl) ((h.cell 0 rfl).cell 0) ((h.cell 0 rfl).cell 1) ((h.cell 0 rfl).cell 4) hnm hcn);have HIDS:=hid hids;have HYS:=hid hys;have HRD:=hid hrd;have HD:=hid hD;obtain ⟨f,hF⟩:=hF;have HF:=hid hF;clear h hids hys hcn hrd hD hF;show Calls Tryz.prog 88 #[vPtr x.ps,.slice (some ⟨lg,0,none⟩) 1 cap] w _;go_enter Tryz.func88,Tryz.ntmps88;go_upto_region 5 with (go_at_call 135;(with_reducible refine HCR.out.mono ?_);rintro e w1 ⟨rfl,hb1⟩)
 have S1:=hid (H.out.on hb1);have hmk:(Instr.makeMap 128 none).run Tryz.prog w1= .ok (.map (some w1.heap.size)) (w1.alloc (.map #[] 0)):=by simp [Instr.makeMap,run_underlying Tryz.underlying128]
 have S2:Hid (SW b w0 ((⟨pc,SA,sc,A,ac,(len:Int),ids,.slice (some ⟨lg,0,none⟩) 1 cap,w1.heap.size,[],ys⟩:RWS).obs x l) (w1.alloc (.map #[] 0))):=SW.front (pre:=[_,_]) (t:=_::_::_::x.obs l) S1.out.newMap [1,0] (n:=2) rfl (by decide);have HWR:=hid (writeR_any S2.out lg cap rfl (by simp only;omega) D HRD.out HD.out hnm (fun y hy=>(HYS.out y hy).2) HIDS.out hsum (by omega));clear hb1 HCR H S1 S2;generalize hmv:w1.heap.size=mv at HWR hmk;clear hmv;go_upto_if 24 with (go_at_call 136;(with_reducible refine HWR.out.mono ?_);refine halt_ ?_)
 rintro e w2 ⟨n1,n2,r1,hc1,hc2,rfl,hs2⟩;have HC1:=hid hc1;have HC2:=hid hc2;obtain ⟨bs,HBS⟩:∃ bs,Hid ((afold x.C (rfold D [] ys) ids).2=bs):=⟨_,rfl⟩;obtain ⟨M,HM⟩:∃ M,Hid ((afold x.C (rfold D [] ys) ids).1=M):=⟨_,rfl⟩;simp only at hs2 |-; rw [HBS.out] at hs2 |-; rw [HM.out] at hs2;obtain ⟨E1,HE1⟩:∃ E1,Hid (rqE x.s x.nm n1 n2 bs=E1):=⟨_,rfl⟩;rw [HE1.out];obtain ⟨s1,HS1⟩:∃ s1,Hid (rqS x.s x.nm n1 n2 bs=s1):=⟨_,rfl⟩;rw [HS1.out] at hs2
 have hops:s1.ops.length<=1000000:=by
  rw [<- HS1.out];have:=rqS_ops x.s x.nm n1 n2 bs;omega
 simp only [HBS.out] at HC2;have S3:Hid (SW b w0 (cellOb pc 216 #[.int .i64 1,.bool true,.slice SA ys.length sc,.slice A ids.length ac,.int .i64 (len:Int)]::chOb mv M::riOb A ids::rowOb 214 1 (.slice (some ⟨lg,0,none⟩) 1 cap) 1 [vPtr pc]::ebOb (.slice SA ys.length sc) ys::({ x with r:=r1,s:=s1 }:SR).obs l) w2):=hs2;clear hs2 hc1 hc2 HWR hmk;by_cases h0:E1=0
 · have q1:(E1==0)=true:=by simpa using h0
   have H0:=hid h0;clear h0;have k0:w2.cell? ⟨x.ps,0,none⟩=some (vPtr x.p):=(S3.out.cell 6 rfl).cell 0;have HSY:=hid (goes_S (l:=(cellOb pc 216 #[.int .i64 1,.bool true,.slice SA ys.length sc,.slice A ids.length ac,.int .i64 (len:Int)]::chOb mv M::riOb A ids::rowOb 214 1 (.slice (some ⟨lg,0,none⟩) 1 cap) 1 [vPtr pc]::ebOb (.slice SA ys.length sc) ys::({ x with r:=r1,s:=s1 }:SR).obs l)) (k:=5) (Sync_any x.p r1 s1 w2 (S3.out.get 5 (o:=devOb x.p r1 s1) rfl) hops) S3.out.1 rfl);go_upto_if 31 with (go_at_call 137;(with_reducible refine HSY.out.mono ?_);rintro e w3 ⟨rfl,r2,hs3,hb3⟩;have S4:=hid (⟨hs3,S3.out.2.trans hb3⟩:SW b w0 _ w3);clear hs3 hb3)
   clear k0 HSY S3;have S5:Hid (SW b w0 (cellOb pc 216 #[.int .i64 1,.bool true,.slice SA ys.length sc,.slice A ids.length ac,.int .i64 (len:Int)]::chOb mv M::riOb A ids::rowOb 214 1 (.slice (some ⟨lg,0,none⟩) 1 cap) 1 [vPtr pc]::ebOb (.slice SA ys.length sc) ys::({ x with r:=r2,s:=syncS s1 }:SR).obs l) w3):=S4.out;clear S4;obtain ⟨E2,HE2⟩:∃ E2,Hid (syncE s1=E2):=⟨_,rfl⟩;rw [HE2.out];by_cases h2:E2=0
   · have q2:(E2 !=0)=false:=by simpa using h2
     have H2:=hid h2;clear h2;have HMI:=hid (S5.out.get 1 (o:=chOb mv M) rfl).1;go_wp2_with (at_range;(with_reducible refine wpList_range_is _ rfl _ 128 rfl 31 138 Tryz.underlying128 mv M rfl HMI.out ?_);intro w4 hrg hg hs;have RI0:=hid hrg;have SWr:=hid (S5.out.range 1 rfl hrg hg);clear hrg hg hs)
     have HMK:=hid (nfold_keys D x.C ys ids);rw [HM.out] at HMK
     have hml:M.length<=2100000:=by
      have h1:=HMK.out.2.2;have h2:=len_le_frSum ids;omega
     obtain ⟨r,Hr⟩:∃ r,Hid (w3.heap.size=r):=⟨_,rfl⟩;rw [Hr.out] at SWr;rw [Hr.out];clear Hr RI0 HMI S5;try go_frame
     go_loopw [] (fun wr=>∃ (done:Chs) (cnt:Nat),SW b w0 (cellOb pc 216 #[.int .i64 1,.bool true,.slice SA ys.length sc,.slice A ids.length ac,.int .i64 (len:Int)]::itOb mv r M done cnt::riOb A ids::rowOb 214 1 (.slice (some ⟨lg,0,none⟩) 1 cap) 1 [vPtr pc]::ebOb (.slice SA ys.length sc) ys::({ x with r:=r2,s:=syncS s1,C:=updAll x.C done,wait:=x.wait-pdN x.C done }:SR).obs l) wr) (fun wr=>wr.rangeLeft mv r)
     case atStart=>exact ⟨[],M.length,by simpa [updAll,pdN] using SWr.out⟩
     obtain ⟨done,cnt,hs⟩:=hrel;have S6:=hid hs;have HRI:=hid (hs.get 1 (o:=itOb mv r M done cnt) rfl:RIs okID vID vPl wr mv r M done cnt);have Hleft:=hid HRI.out.left_eq;clear hs SWr;go_wp2_with (at_next;(refine wpList_next_ch _ rfl _ rfl mv r M done cnt rfl HRI.out (fun hp=>?_) (fun i pl w5 cnt1 hc1 hrg1 hlt1 hg1 hs1 hen=>halt_ ?_)))
     · rename World=>wa
       have S13:Hid (SW b w0 (cellOb pc 216 #[.int .i64 1,.bool true,.slice SA ys.length sc,.slice A ids.length ac,.int .i64 (len:Int)]::itOb mv r M done cnt::riOb A ids::rowOb 214 1 (.slice (some ⟨lg,0,none⟩) 1 cap) 1 [vPtr pc]::ebOb (.slice SA ys.length sc) ys::({ x with r:=r2,s:=syncS s1,C:=updAll x.C done,wait:=x.wait-pdN x.C done,F:=some f }:SR).obs l) wa):=by
        rw [Hid, <- HF.out];exact S6.out
       clear S6 Hleft HRI;have cl:wa.cell? ⟨lg,0,none⟩=some (vPtr pc):=lv_cell (k:=3) S13.out rfl;have c4:wa.cell? ⟨pc,4,none⟩=some (.int .i64 (len:Int)):=(S13.out.cell 0 rfl).cell 4;have q4:((len:Int)==0)=false:=by simpa using hlen
       go_wp2_with fail
       refine wp_loop_rounds 2 ?_;rw [rounds_succ];go_upto_region 23 with fail
       refine wp_region_held_tail [(0,true),(1,true),(2,true),(3,true),(4,true),(5,true),(6,true),(7,true),(8,true)] (SW b w0 (cellOb pc 216 #[.int .i64 1,.bool true,.slice SA ys.length sc,.slice A ids.length ac,.int .i64 (len:Int)]::itOb mv r M done cnt::riOb A ids::rowOb 214 1 (.slice (some ⟨lg,0,none⟩) 1 cap) 1 [vPtr pc]::ebOb (.slice SA ys.length sc) ys::({ x with r:=r2,s:=syncS s1,C:=updAll x.C done,wait:=x.wait-pdN x.C done,F:=some f }:SR).obs l)) (by kernel_rfl) (fun _ _ d _ _ h=>by cases d<;>exact h) (by kernel_rfl) S13.out.drew ?_;simp only [pk_];have S13d:=hid S13.out.drew;generalize wa.drew=W8 at S13d |-; have HC:=hid (fun (w':World) (h:SW b w0 (cellOb pc 216 #[.int .i64 1,.bool true,.slice SA ys.length sc,.slice A ids.length ac,.int .i64 (len:Int)]::itOb mv r M done cnt::riOb A ids::rowOb 214 1 (.slice (some ⟨lg,0,none⟩) 1 cap) 1 [vPtr pc]::ebOb (.slice SA ys.length sc) ys::({ x with r:=r2,s:=syncS s1,C:=updAll x.C done,wait:=x.wait-pdN x.C done,F:=some f }:SR).obs l) w')=>(⟨(h.cell 6 rfl).cell 3,(h.cell 0 rfl).cell 0,look_f1 (h.get 8 (o:=flOb x.fm (some f)) rfl).1 rfl⟩:w'.cell? ⟨x.ps,3,none⟩=some (.map (some x.fm))/\w'.cell? ⟨pc,0,none⟩=some (.int .i64 1)/\(Instr.lookup 129 (.map (some x.fm)) (.int .i64 1) false).run Tryz.prog w'= .ok (vPtr f.fb) w'))
       iterate 9
        (refine wpHeld_take (v:=?_) (Or.inl ⟨by rfl,?_⟩) ?_
         rotate_left
         · (intro w' hSw;obtain ⟨h1,h2,h3⟩:=HC.out w' hSw;go_simp;try with_reducible rfl)
         try simp only [Act.put,zB,List.set])
       refine wpHeld_nil ?_;simp only [dz_];clear HC S13 cl c4;have hmk:(Instr.makeMap 143 none).run Tryz.prog W8= .ok (.map (some W8.heap.size)) (W8.alloc (.map #[] 0)):=by simp [Instr.makeMap,run_underlying Tryz.underlying143]
       have c1:W8.cell? ⟨pc,1,none⟩=some (.bool true):=(S13d.out.cell 0 rfl).cell 1;go_upto_region 26 with fail
       clear c1;have S14:=hid (((S13d.out.alloc (.map #[] 0)).alloc (.cells #[.int .i64 0,.bool true,.map (some W8.heap.size)] 145)).drew);obtain ⟨W10,HW10⟩:∃ W10,Hid ((((W8.alloc (.map #[] 0)).alloc (.cells #[.int .i64 0,.bool true,.map (some W8.heap.size)] 145)).drew)=W10):=⟨_,rfl⟩;refine wp_region_held_tail [(0,true),(1,true),(2,true),(3,true),(4,true),(5,true),(6,true),(7,true),(8,true)] (SW b w0 (cellOb pc 216 #[.int .i64 1,.bool true,.slice SA ys.length sc,.slice A ids.length ac,.int .i64 (len:Int)]::itOb mv r M done cnt::riOb A ids::rowOb 214 1 (.slice (some ⟨lg,0,none⟩) 1 cap) 1 [vPtr pc]::ebOb (.slice SA ys.length sc) ys::({ x with r:=r2,s:=syncS s1,C:=updAll x.C done,wait:=x.wait-pdN x.C done,F:=some f }:SR).obs l)) (by kernel_rfl) (fun _ _ d _ _ h=>by cases d<;>exact h) (by kernel_rfl) S14.out ?_;simp only [pk_];rw [HW10.out] at S14 |-
       have HC:=hid (fun (w':World) (h:SW b w0 (cellOb pc 216 #[.int .i64 1,.bool true,.slice SA ys.length sc,.slice A ids.length ac,.int .i64 (len:Int)]::itOb mv r M done cnt::riOb A ids::rowOb 214 1 (.slice (some ⟨lg,0,none⟩) 1 cap) 1 [vPtr pc]::ebOb (.slice SA ys.length sc) ys::({ x with r:=r2,s:=syncS s1,C:=updAll x.C done,wait:=x.wait-pdN x.C done,F:=some f }:SR).obs l) w')=>(⟨(h.cell 6 rfl).cell 3,(h.cell 0 rfl).cell 0⟩:w'.cell? ⟨x.ps,3,none⟩=some (.map (some x.fm))/\w'.cell? ⟨pc,0,none⟩=some (.int .i64 1)))
       iterate 9
        (refine wpHeld_take (v:=?_) (Or.inl ⟨by rfl,?_⟩) ?_
         rotate_left
         · (intro w' hSw;obtain ⟨h1,h2⟩:=HC.out w' hSw;go_simp;try with_reducible rfl)
         try simp only [Act.put,zB,List.set])
       refine wpHeld_nil ?_;simp only [dz_];clear HC hmk;obtain ⟨w11,hu,hm11,hg11,hz11⟩:=MapIs.update mkN Tryz.underlying129 (S14.out.get 8 (o:=flOb x.fm (some f)) rfl).1 okN1 (W8.heap.size+1);have hu':(Instr.mapUpdate 129 (.map (some x.fm)) (.int .i64 1) (.pointer (some ⟨W8.heap.size+1,0,none⟩))).run Tryz.prog W10= .ok () w11:=hu
       have hm12:MapIs okN vN vPtr w11 x.fm [(1,W8.heap.size+1)]:=by
        have e:setL (fL (some f)) 1 (W8.heap.size+1)=[(1,W8.heap.size+1)]:=by simp [fL,setL]
        rw [<- e];exact hm11
       have S15:=hid (S13d.out.replFile 8 (w2:=w11) rfl hm12 (by rw [<- HW10.out] at hg11;exact ⟨hg11.os,hg11.tape,hg11.output,hg11.size,hg11.block⟩));clear hu hm11 hm12 hg11 hz11 S14 S13d HW10;have c4':w11.cell? ⟨pc,4,none⟩=some (.int .i64 (len:Int)):=(S15.out.cell 0 rfl).cell 4;have cf:w11.cell? ⟨W8.heap.size+1,0,none⟩=some (.int .i64 0):=((S15.out.get 8 (o:=flOb x.fm (some ⟨W8.heap.size+1,W8.heap.size,0,true,[]⟩)) rfl).2 _ rfl).1.cell 0;have cz:w11.frozen? ⟨W8.heap.size+1,0,none⟩=false:=((S15.out.get 8 (o:=flOb x.fm (some ⟨W8.heap.size+1,W8.heap.size,0,true,[]⟩)) rfl).2 _ rfl).1.frozen 0;have S16:=hid (S15.out.fileLen 8 rfl len);clear S15;go_wp2_with fail
       rw [rounds_succ];go_wp2_with fail
       go_ret;unfold CRPost;simp only;rw [HBS.out,HM.out];refine ⟨n1,n2,r2,HC1.out,HC2.out,0,rfl,.inr (.inr ⟨rfl,by rw [HE1.out,H0.out],by rw [HS1.out,HE2.out,H2.out],done,⟨W8.heap.size+1,W8.heap.size,len,true,[]⟩,hp,rfl,rfl,rfl,?_⟩)⟩;rw [HS1.out];exact S16.out.tail.tail.tail.tail.tail
     obtain ⟨o,rfl⟩:∃ o,pl=Pl.at o:=HMK.out.1 _ hc1;have hmem:i∈ys.map (·.1)∨i∈ids:=(HMK.out.2.1 i).1 (List.mem_map.2 ⟨_,hc1,rfl⟩);have S7:=hid (S6.out.next 1 rfl hrg1 hg1);have hdl:done.length<=2100000:=Nat.le_trans HRI.out.len hml;have hpdl:=pdN_le x.C done
     have hac0:asc (updAll x.C done) i=asc x.C i:=by
      have hk:=hrg1.keysN;rw [List.map_append,List.nodup_append] at hk;rw [updAll_asc _ _ hk.1,asc_none (fun c hc e=>hk.2.2 c.1 (List.mem_map.2 ⟨c,hc,rfl⟩) i (by simp) e)]
     have Hlt:=hid hlt1;have S8:Hid (SW b w0 (cellOb (w5.heap.size+1) 138 #[.slice none 0 0,.int .i64 1,.int .i64 (o:Int)]::cellOb w5.heap.size 31 #[.int .u64 i.1,.int .i64 i.2]::cellOb pc 216 #[.int .i64 1,.bool true,.slice SA ys.length sc,.slice A ids.length ac,.int .i64 (len:Int)]::itOb mv r M (done++[(i,.at o)]) cnt1::riOb A ids::rowOb 214 1 (.slice (some ⟨lg,0,none⟩) 1 cap) 1 [vPtr pc]::ebOb (.slice SA ys.length sc) ys::({ x with r:=r2,s:=syncS s1,C:=updAll x.C done,wait:=x.wait-pdN x.C done }:SR).obs l) ((w5.alloc (.cells #[.int .u64 i.1,.int .i64 i.2] 31)).alloc (.cells #[.slice none 0 0,.int .i64 1,.int .i64 (o:Int)] 138))):=(S7.out.newCell 31 _).newCellAt 138 _ (by simp);simp only [Pl.A,Pl.len,Pl.cap,Pl.f,Pl.o] at hen;clear hc1 hrg1 hlt1 hg1 hs1 S6 HRI;rcases hmem with hmem | hmem
     · obtain ⟨y,hy,rfl⟩:=List.mem_map.1 hmem;obtain ⟨hai,hok,_⟩:=HYS.out y hy;obtain ⟨i,o0⟩:=y;simp only at hai hok hac0 S7 S8 hen |-; have HAC:Hid (asc (updAll x.C done) i=some (.at o0)):=hac0.trans hai;have HOK:=hid hok
       have HPD:Hid (pdN x.C (done++[(i,Pl.at o)])=pdN x.C done):=by
        rw [Hid,pdN_snoc,hai];simp [Pl.isP]
       clear hai hok hy hmem hac0 S7;refine hid ?_;have hfd:=fun W=>field138 none 0 0 1 (o0:Int) W;go_upto_region 15 with fail
       refine wp_region_held_tail [(0,true),(1,true),(2,true),(3,true),(4,true),(5,true),(6,true)] (SW b w0 (cellOb (w5.heap.size+1) 138 #[.slice none 0 0,.int .i64 1,.int .i64 (o:Int)]::cellOb w5.heap.size 31 #[.int .u64 i.1,.int .i64 i.2]::cellOb pc 216 #[.int .i64 1,.bool true,.slice SA ys.length sc,.slice A ids.length ac,.int .i64 (len:Int)]::itOb mv r M (done++[(i,.at o)]) cnt1::riOb A ids::rowOb 214 1 (.slice (some ⟨lg,0,none⟩) 1 cap) 1 [vPtr pc]::ebOb (.slice SA ys.length sc) ys::({ x with r:=r2,s:=syncS s1,C:=updAll x.C done,wait:=x.wait-pdN x.C done }:SR).obs l)) (by kernel_rfl) (fun _ _ d _ _ h=>by cases d<;>exact h) (by kernel_rfl) S8.out.drew ?_;simp only [pk_];have S9:=hid S8.out.drew;clear S8;generalize ((w5.alloc (.cells #[.int .u64 i.1,.int .i64 i.2] 31)).alloc (.cells #[.slice none 0 0,.int .i64 1,.int .i64 (o:Int)] 138)).drew=W5 at S9 |-
       have HC:=hid (fun (w':World) (h:SW b w0 (cellOb (w5.heap.size+1) 138 #[.slice none 0 0,.int .i64 1,.int .i64 (o:Int)]::cellOb w5.heap.size 31 #[.int .u64 i.1,.int .i64 i.2]::cellOb pc 216 #[.int .i64 1,.bool true,.slice SA ys.length sc,.slice A ids.length ac,.int .i64 (len:Int)]::itOb mv r M (done++[(i,.at o)]) cnt1::riOb A ids::rowOb 214 1 (.slice (some ⟨lg,0,none⟩) 1 cap) 1 [vPtr pc]::ebOb (.slice SA ys.length sc) ys::({ x with r:=r2,s:=syncS s1,C:=updAll x.C done,wait:=x.wait-pdN x.C done }:SR).obs l) w')=>(⟨(h.cell 8 rfl).cell 2,(h.cell 1 rfl).cell 0,(h.cell 1 rfl).cell 1,look_pl (h.get 9 (o:=chOb x.cm (updAll x.C done)) rfl).1 HOK.out HAC.out⟩:w'.cell? ⟨x.ps,2,none⟩=some (.map (some x.cm))/\w'.cell? ⟨w5.heap.size,0,none⟩=some (.int .u64 i.1)/\w'.cell? ⟨w5.heap.size,1,none⟩=some (.int .i64 i.2)/\(Instr.lookup 128 (.map (some x.cm)) (.agg #[.int .u64 i.1,.int .i64 i.2]) false).run Tryz.prog w'= .ok (.agg #[.slice none 0 0,.int .i64 1,.int .i64 (o0:Int)]) w'))
       iterate 7
        (refine wpHeld_take (v:=?_) (Or.inl ⟨by rfl,?_⟩) ?_
         rotate_left
         · (intro w' hSw;obtain ⟨h1,h2,h3,h4⟩:=HC.out w' hSw;go_simp;try with_reducible rfl)
         try simp only [Act.put,zB,List.set])
       refine wpHeld_nil ?_;simp only [dz_];clear HC hfd;go_upto_region 17 with fail
       obtain ⟨wt,Hwt⟩:∃ wt,Hid (x.wait-pdN x.C done=wt):=⟨_,rfl⟩;rw [Hwt.out] at S9;have S10:Hid (SW b w0 (cellOb (w5.heap.size+1) 138 #[.slice none 0 0,.int .i64 1,.int .i64 (o:Int)]::cellOb w5.heap.size 31 #[.int .u64 i.1,.int .i64 i.2]::cellOb pc 216 #[.int .i64 1,.bool true,.slice SA ys.length sc,.slice A ids.length ac,.int .i64 (len:Int)]::itOb mv r M (done++[(i,.at o)]) cnt1::riOb A ids::rowOb 214 1 (.slice (some ⟨lg,0,none⟩) 1 cap) 1 [vPtr pc]::ebOb (.slice SA ys.length sc) ys::({ x with r:=r2,s:=syncS s1,C:=updAll x.C done,wait:=wt }:SR).obs l) W5.drew):=S9.out.drew;clear S9;refine wp_region_held_tail [(0,true),(1,true),(2,true),(3,true),(4,true),(5,true)] (SW b w0 (cellOb (w5.heap.size+1) 138 #[.slice none 0 0,.int .i64 1,.int .i64 (o:Int)]::cellOb w5.heap.size 31 #[.int .u64 i.1,.int .i64 i.2]::cellOb pc 216 #[.int .i64 1,.bool true,.slice SA ys.length sc,.slice A ids.length ac,.int .i64 (len:Int)]::itOb mv r M (done++[(i,.at o)]) cnt1::riOb A ids::rowOb 214 1 (.slice (some ⟨lg,0,none⟩) 1 cap) 1 [vPtr pc]::ebOb (.slice SA ys.length sc) ys::({ x with r:=r2,s:=syncS s1,C:=updAll x.C done,wait:=wt }:SR).obs l)) (by kernel_rfl) (fun _ _ d _ _ h=>by cases d<;>exact h) (by kernel_rfl) S10.out ?_;simp only [pk_];generalize W5.drew=W6 at S10 |-
       have HC:=hid (fun (w':World) (h:SW b w0 (cellOb (w5.heap.size+1) 138 #[.slice none 0 0,.int .i64 1,.int .i64 (o:Int)]::cellOb w5.heap.size 31 #[.int .u64 i.1,.int .i64 i.2]::cellOb pc 216 #[.int .i64 1,.bool true,.slice SA ys.length sc,.slice A ids.length ac,.int .i64 (len:Int)]::itOb mv r M (done++[(i,.at o)]) cnt1::riOb A ids::rowOb 214 1 (.slice (some ⟨lg,0,none⟩) 1 cap) 1 [vPtr pc]::ebOb (.slice SA ys.length sc) ys::({ x with r:=r2,s:=syncS s1,C:=updAll x.C done,wait:=wt }:SR).obs l) w')=>(⟨(h.cell 8 rfl).cell 2,(h.cell 1 rfl).cell 0,(h.cell 1 rfl).cell 1,(h.cell 0 rfl).cell 0,(h.cell 0 rfl).cell 1,(h.cell 0 rfl).cell 2⟩:w'.cell? ⟨x.ps,2,none⟩=some (.map (some x.cm))/\w'.cell? ⟨w5.heap.size,0,none⟩=some (.int .u64 i.1)/\w'.cell? ⟨w5.heap.size,1,none⟩=some (.int .i64 i.2)/\w'.cell? ⟨w5.heap.size+1,0,none⟩=some (.slice none 0 0)/\w'.cell? ⟨w5.heap.size+1,1,none⟩=some (.int .i64 1)/\w'.cell? ⟨w5.heap.size+1,2,none⟩=some (.int .i64 (o:Int))))
       iterate 6
        (refine wpHeld_take (v:=?_) (Or.inl ⟨by rfl,?_⟩) ?_
         rotate_left
         · (intro w' hSw;obtain ⟨h1,h2,h3,h4,h5,h6⟩:=HC.out w' hSw;go_simp;try with_reducible rfl)
         try simp only [Act.put,zB,List.set])
       refine wpHeld_nil ?_;simp only [dz_];clear HC;obtain ⟨w7,hu,hm7,hg7,hz7⟩:=MapIs.update mkI Tryz.underlying128 (S10.out.get 9 (o:=chOb x.cm (updAll x.C done)) rfl).1 HOK.out (Pl.at o);have hu':(Instr.mapUpdate 128 (.map (some x.cm)) (.agg #[.int .u64 i.1,.int .i64 i.2]) (.agg #[.slice none 0 0,.int .i64 1,.int .i64 (o:Int)])).run Tryz.prog W6= .ok () w7:=hu;have S11:=hid (S10.out.note 9 (cm:=x.cm) (C:=updAll x.C done) rfl hm7 hg7).tail.tail;clear hu hm7 hg7 hz7 S10;go_wp2_with fail
       go_roundw
       case rel=>
        refine ⟨done++[(i,.at o)],cnt1,?_⟩;rw [updAll_snoc]
        have e1:x.wait-pdN x.C (done++[(i,Pl.at o)])=wt:=by
         have h1:=HPD.out;have h2:=Hwt.out;omega
        rw [e1];exact S11.out
       have h1:RIs okID vID vPl w7 mv r M (done++[(i,Pl.at o)]) cnt1:=S11.out.get 1 rfl;rw [h1.left_eq,Hleft.out];exact Hlt.out
     obtain ⟨⟨dA,dn,dc⟩,bs',hai,hi2,hch,hok⟩:=HIDS.out i hmem;have hac:=hac0.trans hai;have hrb:=(S7.out.get 7 (o:=chOb x.cm (updAll x.C done)) rfl).2 i ⟨dA,dn,dc⟩ bs' (mem_of_asc hac)
     have hdA:∃ ad,dA=some ad:=by
      cases dA with
      | some ad=>exact ⟨ad,rfl⟩
      | none=>
       have:=hrb.1.1;have:=hrb.1.2.1;have:=hrb.1.2.2.1 rfl;omega
     obtain ⟨ad,rfl⟩:=hdA;have HAC:=hid hac;have HOK:=hid hok
     have HPD:Hid (pdN x.C (done++[(i,Pl.at o)])=pdN x.C done+1):=by
      rw [Hid,pdN_snoc,hai];simp [Pl.isP]
     clear hai hok hmem hac0 hac hrb hi2 hch S7;refine hid ?_;have hfd:=fun W=>field138 (some ad) dn dc 0 0 W;go_upto_region 15 with fail
     refine wp_region_held_tail [(0,true),(1,true),(2,true),(3,true),(4,true),(5,true),(6,true)] (SW b w0 (cellOb (w5.heap.size+1) 138 #[.slice none 0 0,.int .i64 1,.int .i64 (o:Int)]::cellOb w5.heap.size 31 #[.int .u64 i.1,.int .i64 i.2]::cellOb pc 216 #[.int .i64 1,.bool true,.slice SA ys.length sc,.slice A ids.length ac,.int .i64 (len:Int)]::itOb mv r M (done++[(i,.at o)]) cnt1::riOb A ids::rowOb 214 1 (.slice (some ⟨lg,0,none⟩) 1 cap) 1 [vPtr pc]::ebOb (.slice SA ys.length sc) ys::({ x with r:=r2,s:=syncS s1,C:=updAll x.C done,wait:=x.wait-pdN x.C done }:SR).obs l)) (by kernel_rfl) (fun _ _ d _ _ h=>by cases d<;>exact h) (by kernel_rfl) S8.out.drew ?_;simp only [pk_];have S9:=hid S8.out.drew;clear S8;generalize ((w5.alloc (.cells #[.int .u64 i.1,.int .i64 i.2] 31)).alloc (.cells #[.slice none 0 0,.int .i64 1,.int .i64 (o:Int)] 138)).drew=W5 at S9 |-
     have HC:=hid (fun (w':World) (h:SW b w0 (cellOb (w5.heap.size+1) 138 #[.slice none 0 0,.int .i64 1,.int .i64 (o:Int)]::cellOb w5.heap.size 31 #[.int .u64 i.1,.int .i64 i.2]::cellOb pc 216 #[.int .i64 1,.bool true,.slice SA ys.length sc,.slice A ids.length ac,.int .i64 (len:Int)]::itOb mv r M (done++[(i,.at o)]) cnt1::riOb A ids::rowOb 214 1 (.slice (some ⟨lg,0,none⟩) 1 cap) 1 [vPtr pc]::ebOb (.slice SA ys.length sc) ys::({ x with r:=r2,s:=syncS s1,C:=updAll x.C done,wait:=x.wait-pdN x.C done }:SR).obs l) w')=>(⟨(h.cell 8 rfl).cell 2,(h.cell 1 rfl).cell 0,(h.cell 1 rfl).cell 1,look_pend (h.get 9 (o:=chOb x.cm (updAll x.C done)) rfl).1 HOK.out HAC.out⟩:w'.cell? ⟨x.ps,2,none⟩=some (.map (some x.cm))/\w'.cell? ⟨w5.heap.size,0,none⟩=some (.int .u64 i.1)/\w'.cell? ⟨w5.heap.size,1,none⟩=some (.int .i64 i.2)/\(Instr.lookup 128 (.map (some x.cm)) (.agg #[.int .u64 i.1,.int .i64 i.2]) false).run Tryz.prog w'= .ok (.agg #[.slice (some ad) dn dc,.int .i64 0,.int .i64 0]) w'))
     iterate 7
      (refine wpHeld_take (v:=?_) (Or.inl ⟨by rfl,?_⟩) ?_
       rotate_left
       · (intro w' hSw;obtain ⟨h1,h2,h3,h4⟩:=HC.out w' hSw;go_simp;try with_reducible rfl)
       try simp only [Act.put,zB,List.set])
     refine wpHeld_nil ?_;simp only [dz_];clear HC hfd;have k4:W5.cell? ⟨x.ps,4,none⟩=some (.int .i64 (x.wait-pdN x.C done)):=(S9.out.cell 8 rfl).cell 4;have kz:W5.frozen? ⟨x.ps,4,none⟩=false:=(S9.out.cell 8 rfl).frozen 4;have hsum1:IntKind.i64.wrap (x.wait-pdN x.C done-1)=x.wait-pdN x.C done-1:=IntWalk.i64_in _ (by omega);go_upto_region 17 with fail
     clear k4 kz hsum1;obtain ⟨wt,Hwt⟩:∃ wt,Hid (x.wait-pdN x.C done-1=wt):=⟨_,rfl⟩;rw [Hwt.out];have S10:Hid (SW b w0 (cellOb (w5.heap.size+1) 138 #[.slice none 0 0,.int .i64 1,.int .i64 (o:Int)]::cellOb w5.heap.size 31 #[.int .u64 i.1,.int .i64 i.2]::cellOb pc 216 #[.int .i64 1,.bool true,.slice SA ys.length sc,.slice A ids.length ac,.int .i64 (len:Int)]::itOb mv r M (done++[(i,.at o)]) cnt1::riOb A ids::rowOb 214 1 (.slice (some ⟨lg,0,none⟩) 1 cap) 1 [vPtr pc]::ebOb (.slice SA ys.length sc) ys::({ x with r:=r2,s:=syncS s1,C:=updAll x.C done,wait:=wt }:SR).obs l) (W5.setCell ⟨x.ps,4,none⟩ (.int .i64 wt)).drew):=(S9.out.setAt 8 rfl 4 (.int .i64 wt)).drew;clear S9;refine wp_region_held_tail [(0,true),(1,true),(2,true),(3,true),(4,true),(5,true)] (SW b w0 (cellOb (w5.heap.size+1) 138 #[.slice none 0 0,.int .i64 1,.int .i64 (o:Int)]::cellOb w5.heap.size 31 #[.int .u64 i.1,.int .i64 i.2]::cellOb pc 216 #[.int .i64 1,.bool true,.slice SA ys.length sc,.slice A ids.length ac,.int .i64 (len:Int)]::itOb mv r M (done++[(i,.at o)]) cnt1::riOb A ids::rowOb 214 1 (.slice (some ⟨lg,0,none⟩) 1 cap) 1 [vPtr pc]::ebOb (.slice SA ys.length sc) ys::({ x with r:=r2,s:=syncS s1,C:=updAll x.C done,wait:=wt }:SR).obs l)) (by kernel_rfl) (fun _ _ d _ _ h=>by cases d<;>exact h) (by kernel_rfl) S10.out ?_
     simp only [pk_];generalize (W5.setCell ⟨x.ps,4,none⟩ (.int .i64 wt)).drew=W6 at S10 |-; have HC:=hid (fun (w':World) (h:SW b w0 (cellOb (w5.heap.size+1) 138 #[.slice none 0 0,.int .i64 1,.int .i64 (o:Int)]::cellOb w5.heap.size 31 #[.int .u64 i.1,.int .i64 i.2]::cellOb pc 216 #[.int .i64 1,.bool true,.slice SA ys.length sc,.slice A ids.length ac,.int .i64 (len:Int)]::itOb mv r M (done++[(i,.at o)]) cnt1::riOb A ids::rowOb 214 1 (.slice (some ⟨lg,0,none⟩) 1 cap) 1 [vPtr pc]::ebOb (.slice SA ys.length sc) ys::({ x with r:=r2,s:=syncS s1,C:=updAll x.C done,wait:=wt }:SR).obs l) w')=>(⟨(h.cell 8 rfl).cell 2,(h.cell 1 rfl).cell 0,(h.cell 1 rfl).cell 1,(h.cell 0 rfl).cell 0,(h.cell 0 rfl).cell 1,(h.cell 0 rfl).cell 2⟩:w'.cell? ⟨x.ps,2,none⟩=some (.map (some x.cm))/\w'.cell? ⟨w5.heap.size,0,none⟩=some (.int .u64 i.1)/\w'.cell? ⟨w5.heap.size,1,none⟩=some (.int .i64 i.2)/\w'.cell? ⟨w5.heap.size+1,0,none⟩=some (.slice none 0 0)/\w'.cell? ⟨w5.heap.size+1,1,none⟩=some (.int .i64 1)/\w'.cell? ⟨w5.heap.size+1,2,none⟩=some (.int .i64 (o:Int))))
     iterate 6
      (refine wpHeld_take (v:=?_) (Or.inl ⟨by rfl,?_⟩) ?_
       rotate_left
       · (intro w' hSw;obtain ⟨h1,h2,h3,h4,h5,h6⟩:=HC.out w' hSw;go_simp;try with_reducible rfl)
       try simp only [Act.put,zB,List.set])
     refine wpHeld_nil ?_;simp only [dz_];clear HC;obtain ⟨w7,hu,hm7,hg7,hz7⟩:=MapIs.update mkI Tryz.underlying128 (S10.out.get 9 (o:=chOb x.cm (updAll x.C done)) rfl).1 HOK.out (Pl.at o);have hu':(Instr.mapUpdate 128 (.map (some x.cm)) (.agg #[.int .u64 i.1,.int .i64 i.2]) (.agg #[.slice none 0 0,.int .i64 1,.int .i64 (o:Int)])).run Tryz.prog W6= .ok () w7:=hu;have S11:=hid (S10.out.note 9 (cm:=x.cm) (C:=updAll x.C done) rfl hm7 hg7).tail.tail;clear hu hm7 hg7 hz7 S10;go_wp2_with fail
     go_roundw
     case rel=>
      refine ⟨done++[(i,.at o)],cnt1,?_⟩;rw [updAll_snoc]
      have e1:x.wait-pdN x.C (done++[(i,Pl.at o)])=wt:=by
       have h1:=HPD.out;have h2:=Hwt.out;omega
      rw [e1];exact S11.out
     have h1:RIs okID vID vPl w7 mv r M (done++[(i,Pl.at o)]) cnt1:=S11.out.get 1 rfl;rw [h1.left_eq,Hleft.out];exact Hlt.out
   have q2:(E2 !=0)=true:=by simpa using h2
   have H2:=hid h2;clear h2;have kd:w3.cell? ⟨x.ps,6,none⟩=some (.bool x.dead):=(S5.out.cell 6 rfl).cell 6;have kz:w3.frozen? ⟨x.ps,6,none⟩=false:=(S5.out.cell 6 rfl).frozen 6;go_wp2_with fail
   go_ret;unfold CRPost;simp only;rw [HBS.out,HM.out];exact ⟨n1,n2,r2,HC1.out,HC2.out,E2,rfl,.inr (.inl ⟨H2.out,by rw [HE1.out,H0.out],by rw [HS1.out,HE2.out],by rw [HS1.out];exact (S5.out.setAt 6 rfl 6 (.bool (E2==303))).tail.tail.tail.tail.tail⟩)⟩
 have q1:(E1==0)=false:=by simpa using h0
 have q2:(E1 !=0)=true:=by simpa using h0
 have H0:=hid h0;clear h0;have kd:w2.cell? ⟨x.ps,6,none⟩=some (.bool x.dead):=(S3.out.cell 6 rfl).cell 6;have kz:w2.frozen? ⟨x.ps,6,none⟩=false:=(S3.out.cell 6 rfl).frozen 6;go_wp2_with fail
 go_ret;unfold CRPost;simp only;rw [HBS.out,HM.out];exact ⟨n1,n2,r1,HC1.out,HC2.out,E1,rfl,.inl ⟨H0.out,by rw [HE1.out],by rw [HS1.out];exact (S3.out.setAt 6 rfl 6 (.bool (E1==303))).tail.tail.tail.tail.tail⟩⟩
end
end Go.Proofs.YteabgcollokgjaaGreatDoor
