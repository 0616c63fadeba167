/- Contracts of the walk, part 20. -/
import Derived.RangeFuncNested
import Derived.RangeFuncBound
import Derived.RangeFuncCalls
import Derived.RangeFuncLeaves
import Derived.Shelf.Abstract
import Derived.Shelf.RegionOpen
import Derived.WalkKit
import Derived.OwnWalkIn
import Derived.TacticsInMore
import Derived.LoopNIn
import Derived.LoopIn
import Derived.Test.YtmiknfneeipkeaaGreatS04
import Derived.Test.YtmiknfneeipkeaaGreatS15
open Go.Lib (hid)
namespace Go.Proofs.YtmiknfneeipkeaaGreat
open Go.RowKit Go.MapKept Go.ChangeMaps
attribute [local go_sem] wext_cell
structure Rv where
 p:ByteArray
 n:Int
 c:Int
 a:Int
 tb:Int
 f1:Bool
 f2:Bool
 f3:Bool
 sm:Int
 sz:Int
 fp:ByteArray
 fn:Int
def Rv.enc (r:Rv):List Value:=[.string r.p,.int .i64 r.n,.int .i64 r.c,.int .i64 r.a,.int .i64 r.tb,.bool r.f1,.bool r.f2,.bool r.f3,.int .u64 r.sm,.int .i64 r.sz,.string r.fp,.int .i64 r.fn]
abbrev Rv.val (r:Rv):Value:=.agg #[.string r.p,.int .i64 r.n,.int .i64 r.c,.int .i64 r.a,.int .i64 r.tb,.bool r.f1,.bool r.f2,.bool r.f3,.int .u64 r.sm,.int .i64 r.sz,.string r.fp,.int .i64 r.fn]
theorem Rv.enc_len (r:Rv):r.enc.length=12:=rfl
def Rv.id (r:Rv):ID:=(r.sm,r.sz)
def Rv.fi (r:Rv):Fi:=(r.p,r.n)
def okR (r:Rv):Prop:=okID r.id/\okF r.fi
structure RvO where
 r:Rv
 ok:okR r
def RvO.enc (r:RvO):List Value:=r.1.enc
theorem RvO.enc_len (r:RvO):r.enc.length=12:=rfl
def backL (ms:List RvO):List (Nat×RvO):=ms.reverse.zipIdx.map (fun x=>(x.2,x.1))
theorem backL_len (ms:List RvO):(backL ms).length=ms.length:=by simp [backL]
theorem backL_at (ms:List RvO) {k:Nat} (h:k<ms.length):(backL ms)[k]? =some (k,ms[ms.length-1-k]'(by omega)):=by
 simp [backL,List.getElem?_map,List.getElem?_zipIdx,List.getElem?_reverse h,List.getElem?_eq_getElem (show ms.length-1-k<ms.length by omega)]
def KpC (W W':World):Prop:=W.heap.size<=W'.heap.size/\∀ (k:Nat) (o:Obj),W.heap[k]? =some o->o.isCells=true->W'.heap[k]? =some o
theorem KpC.trans {A B C:World} (h:KpC A B) (k:KpC B C):KpC A C:=⟨Nat.le_trans h.1 k.1,fun i o hi ho=>k.2 i o (h.2 i o hi ho) ho⟩
theorem KpC.refl (W:World):KpC W W:=⟨Nat.le_refl _,fun _ _ h _=>h⟩
theorem kpC_b {w:World} (W:World) (l:Nat) (o o':Obj) (_:w.heap.size<=l) (h:W.heap[l]? =some o) (hc:o.isCells=false) (_:o.isWalk=false):KpC W (W.putObj l o'):=by
 refine ⟨by simp,fun k x hk hx=>?_⟩;rw [World.putObj_heap_other (fun e=>?_)]
 · exact hk
 subst e;rw [h] at hk;injection hk with hk;subst hk;rw [hc] at hx;cases hx
theorem KpC.isB {W W':World} (h:KpC W W') {g:Nat} {t:TypeId} {cs:Array Value} (hi:IsB W g t cs):IsB W' g t cs:=h.2 g _ hi rfl
theorem KpC.rowV {W W':World} (h:KpC W W') {t:TypeId} {sz n:Nat} {A:Option Addr} {xs:List Value} (hr:RowV W t sz A n xs):RowV W' t sz A n xs:=by
 refine ⟨hr.1,?_⟩;rcases hr.2 with h2 | ⟨g,cur,e,hi,hx⟩
 · exact .inl h2
 exact .inr ⟨g,cur,e,h.isB hi,hx⟩
theorem grown_of {W W':World} (h:Below W.heap.size W W'):W.grownBy W' none:=⟨h.os,h.tape,h.output,h.size,fun k hk _=>h.block k hk⟩
theorem KpC.of_below {W W':World} (h:Below W.heap.size W W'):KpC W W':=⟨h.size,fun k o hk _=>(h.block k (Array.getElem?_eq_some_iff.1 hk).1).trans hk⟩
theorem rvs_at {w:World} {A:Option Addr} {ms:List RvO} {j:Nat} (h:RowV w 111 12 A ms.length (ms.flatMap RvO.enc)) (hj:j<ms.length):∃ g,A=some ⟨g,0,none⟩/\g<w.heap.size/\∀ c,c<12->w.cell? ⟨g,j*12+c,none⟩=((ms[j]'hj).1.enc)[c]? :=by
 obtain ⟨g,e,hlt,hc⟩:=h.at (by omega);refine ⟨g,e,hlt,fun c hc12=>?_⟩;rw [hc _ (by omega),flat_at RvO.enc_len (ms[j]'hj) ms j c hj hc12];rw [List.getD_eq_getElem?_getD,List.getElem?_eq_getElem hj];rfl
attribute [local go_sem] Oper.semAt_some
set_option maxRecDepth 100000 in
set_option maxHeartbeats 4000000 in
theorem back_stops (n:Nat) (g1 g2:Nat) (w:World) (D0 D1:Value) (p:ByteArray) (k:Int) (ms:List RvO) (hlen:ms.length<=maxLen)
 (h1:IsB w g1 96 #[D0,D1]) (h2:IsB w g2 168 #[.string p,.int .i64 k])
 (HL:∀ W,Below w.heap.size w W->Calls Tryz.prog 142 #[.agg #[D0,D1],vF (p,k)] W (fun e W'=>∃ A c,e= .returned (.slice A ms.length c)/\RowV W' 111 12 A ms.length (ms.flatMap RvO.enc)/\Below W.heap.size W W')):
 SeqStopsK Fence.wide (n+1) Tryz.prog 141 #[vPtr g1,vPtr g2] (fun x:Nat×RvO=> #[.int .i64 (x.1:Int),x.2.1.val]) KpC (fun xs=>xs=backL ms) (fun pre=>pre <+: backL ms) ms.length w:=by
 intro l J Jx W hW hJ hJx hY h0;refine callsIn_of_wp Tryz.func141 rfl trivial ?_ rfl;simp only [Tryz.ntmps141,List.size_toArray,List.length_cons,List.length_nil,Nat.reduceAdd,Nat.reduceSub,Array.replicate_succ,Array.replicate_zero,List.push_toArray,List.append_toArray,List.nil_append,List.cons_append];have i1:=h1.on hW;have i2:=h2.on hW;have c0:W.cell? ⟨g1,0,none⟩=some D0:=i1.cell 0;have c1:W.cell? ⟨g1,1,none⟩=some D1:=i1.cell 1;have d0:W.cell? ⟨g2,0,none⟩=some (.string p):=i2.cell 0;have d1:W.cell? ⟨g2,1,none⟩=some (.int .i64 k):=i2.cell 1;have HLW:=hid (HL W hW);have HY:=hid hY;have HJ:=hid hJ;clear hY hJ hJx HL h1 h2;gi_wp2_with (refine ⟨trivial,?_⟩;gi_at_call 142;(with_reducible refine (callsIn_wide.2 HLW.out).mono ?_);refine halt_ ?_)
 rintro e W1 A c rfl hr hb;have hJ1:=hid (HJ.out [] W W1 none h0 (grown_of hb) (fun r e=>by cases e));have HR:=hid hr;clear hr c0 c1 d0 d1 i1 i2 HLW h0;obtain ⟨N,hN⟩:∃ N,Hid (ms.length=N):=⟨_,rfl⟩;rw [hN.out] at hlen HY HR |-; gi_wp2
 gi_loopw [11] (fun s11 wr=>∃ j:Nat,s11= .int .i64 (j:Int)/\j<=N/\J ((backL ms).take j) wr/\RowV wr 111 12 A N (ms.flatMap RvO.enc)) (fun s11 _=>N-(intOf s11).toNat)
 case atStart=>exact ⟨0,rfl,Nat.zero_le _,hJ1.out,HR.out⟩
 obtain ⟨j,rfl,hjN,hJs,hrs⟩:=hrel;have HJs:=hid hJs;have HRs:=hid hrs;clear hJs hrs HR hJ1;by_cases hlt:j<N
 · have hjm:j<ms.length:=by rw [hN.out];exact hlt
   obtain ⟨q,hq⟩:∃ q,N-1-j=q:=⟨_,rfl⟩;have hqm:q<ms.length:=by rw [hN.out];omega
   have hb0:=backL_at ms hjm;simp only [hN.out,hq] at hb0;obtain ⟨r,hr⟩:∃ r,ms[q]'hqm=r:=⟨_,rfl⟩;rw [hr] at hb0;obtain ⟨g,hA,hg,hc⟩:=rvs_at (ms:=ms) (w:=wr) (A:=A) (by rw [hN.out];exact HRs.out) hqm;rw [hr] at hc;subst hA;have b0:wr.cell? ⟨g,q*12,none⟩=some (.string r.1.p):=hc 0 (by omega);have b1:wr.cell? ⟨g,q*12+1,none⟩=some (.int .i64 r.1.n):=hc 1 (by omega);have b2:wr.cell? ⟨g,q*12+2,none⟩=some (.int .i64 r.1.c):=hc 2 (by omega);have b3:wr.cell? ⟨g,q*12+3,none⟩=some (.int .i64 r.1.a):=hc 3 (by omega);have b4:wr.cell? ⟨g,q*12+4,none⟩=some (.int .i64 r.1.tb):=hc 4 (by omega);have b5:wr.cell? ⟨g,q*12+5,none⟩=some (.bool r.1.f1):=hc 5 (by omega);have b6:wr.cell? ⟨g,q*12+6,none⟩=some (.bool r.1.f2):=hc 6 (by omega);have b7:wr.cell? ⟨g,q*12+7,none⟩=some (.bool r.1.f3):=hc 7 (by omega);have b8:wr.cell? ⟨g,q*12+8,none⟩=some (.int .u64 r.1.sm):=hc 8 (by omega);have b9:wr.cell? ⟨g,q*12+9,none⟩=some (.int .i64 r.1.sz):=hc 9 (by omega);have b10:wr.cell? ⟨g,q*12+10,none⟩=some (.string r.1.fp):=hc 10 (by omega);have b11:wr.cell? ⟨g,q*12+11,none⟩=some (.int .i64 r.1.fn):=hc 11 (by omega);clear hc
   have hlen2:((backL ms).take j).length<N:=by
    rw [List.length_take,backL_len,hN.out];omega
   obtain ⟨fn,tmps,assign,body,hy,hR⟩:=HY.out ((backL ms).take j) (j,r) wr HJs.out hlen2;have hi1:((N:Int)-1-(j:Int))=(q:Int):=by omega
   have hqN:q<N:=by omega
   unfold maxLen at hlen
   have hnx:(backL ms).take j++[(j,r)]=(backL ms).take (j+1):=by
    rw [List.take_add_one,hb0];rfl
   rw [hnx] at hR;have HR2:=hid hR;clear hb0 hlen2 hq hjm hnx hR;gi_wp2
   refine HR2.out.mono ?_;rintro e W2 (⟨rfl,hJ2,hk⟩ | ⟨rfl,hJx2⟩)
   · have HJ2:=hid hJ2;have HK:=hid (hk.rowV HRs.out);clear hJ2 hk b0 b1 b2 b3 b4 b5 b6 b7 b8 b9 b10 b11 hy HR2;gi_wp2
     go_roundw
     case rel=>exact ⟨j+1,by go_num,by omega,HJ2.out,HK.out⟩
     simp [intOf];omega
   have HJ2:=hid hJx2;clear hJx2 b0 b1 b2 b3 b4 b5 b6 b7 b8 b9 b10 b11 hy HR2;gi_wp2
   refine bodyPost_ret (v:=.tuple #[]) (results_none rfl _ _ _) rfl ?_;exact ⟨⟨_,rfl⟩,.inr ⟨_,List.take_prefix _ _,HJ2.out⟩⟩
 have e:(backL ms).take j=backL ms:=by
  rw [List.take_of_length_le (by rw [backL_len,hN.out];omega)]
 have HF:=HJs.out;rw [e] at HF;gi_wp2
 go_end0;exact ⟨⟨_,rfl⟩,.inl ⟨_,rfl,HF⟩⟩
end Go.Proofs.YtmiknfneeipkeaaGreat
namespace Go.Proofs.YtmiknfneeipkeaaGreat
open Go.RowKit Go.MapKept Go.ChangeMaps
attribute [local go_sem] wext_cell
def vsOb (t:TypeId) (sz:Nat) (A:Option Addr) (n:Nat) (xs:List Value):Ob where
 own:=fun _=>False
 rd:=fun i=>0<n/\A=some ⟨i,0,none⟩
 holds:=fun w=>RowV w t sz A n xs
 stable:=fun w w' h hs hk=>h.same (fun i h1 h2=>hk i (.inr ⟨h1,h2⟩))
def dfOb (L:List Nat):Ob where
 own:=fun i=>i∈L
 rd:=fun _=>False
 holds:=fun w=>∀ i∈L,w.heap[i]? =some (.deferred (some []))
 stable:=fun w w' h hs hk i hi=>(hk i (.inl hi)).trans (h i hi)
def marks (L:List Nat):List Deferred:=L.map (fun i=>{ target:=.collected i,args:= #[] })
def stayB (kp bf:Int) (kept:List (ID×Bool)) (x:Nat×RvO):Bool:=decide (bf<=x.2.1.c)||(decide ((x.1:Int)<kp)||inS kept x.2.1.id)
abbrev Sel:=List (ID×Bool)×List (Fi×Bool)
def selStep (kp bf:Int) (kept:List (ID×Bool)) (s:Sel) (x:Nat×RvO):Sel:=
 if x.2.1.a=3 then s else if stayB kp bf kept x then (setL s.1 x.2.1.id true,s.2) else (s.1,setL s.2 x.2.1.fi true)
def selLine (kp bf:Int) (kept:List (ID×Bool)) (s:Sel) (ms:List RvO):Sel:=(backL ms).foldl (selStep kp bf kept) s
def selAll (kp bf:Int) (kept:List (ID×Bool)) (mem:Fi->List RvO) (fs:List Fi):Sel:=fs.foldl (fun s f=>selLine kp bf kept s (mem f)) ([],[])
def keptOf (ks:List ID):List (ID×Bool):=ks.foldl (fun L i=>setL L i true) []
def selIs (s:Sel) (r:Rv):Bool:=inS s.2 r.fi&& !inS s.1 r.id
def selOf (s:Sel) (rs:List Rv):List Rv:=rs.filter (selIs s)
def encF (f:Fi):List Value:=[.string f.1,.int .i64 f.2]
theorem encF_len (f:Fi):(encF f).length=2:=rfl
theorem keptOf_in (ks:List ID) (i:ID):inS (keptOf ks) i=decide (i∈ks):=by
 have key:∀ (ks:List ID) (L:List (ID×Bool)),inS (ks.foldl (fun L i=>setL L i true) L) i=(decide (i∈ks)||inS L i):=by
  intro ks;induction ks with
  | nil=>intro L;simp
  | cons k ks ih=>
   intro L;rw [List.foldl_cons,ih,inS_set];by_cases e:k=i
   · subst e;simp
   have:i≠k:=fun h=>e h.symm;simp [e,this]
 rw [keptOf,key];simp [inS_nil]
theorem selOf_no {s:Sel} {rs:List Rv} {j:Nat} {r:Rv} (h:rs[j]? =some r) (hn:selIs s r=false):selOf s (rs.take (j+1))=selOf s (rs.take j):=by
 unfold selOf;rw [List.take_add_one,h,List.filter_append];simp [hn]
theorem selOf_yes {s:Sel} {rs:List Rv} {j:Nat} {r:Rv} (h:rs[j]? =some r) (hn:selIs s r=true):selOf s (rs.take (j+1))=selOf s (rs.take j)++[r]:=by
 unfold selOf;rw [List.take_add_one,h,List.filter_append];simp [hn]
section
variable {b:Nat} {w0 w:World} {l:List Ob}
theorem SW.growB {B:Nat} {w':World} (h:SW b w0 l w) (hl:∀ o∈l,∀ i,(o.own i∨o.rd i)->i<B) (hb:b<=B) {row:Option Nat} (hg:w.grownBy w' row) (hr:∀ r,row=some r->B<=r):SW b w0 l w':=by
 have hk:∀ o∈l,∀ i,(o.own i∨o.rd i)->w'.heap[i]? =w.heap[i]? :=fun o ho i hi=>by
  have h1:=hl o ho i hi
  have h2:i<w.heap.size:=by
   rcases hi with hi | hi
   · exact (h.1.own o ho i hi).2
   exact h.1.rd o ho i hi
  exact hg.block i h2 (fun e=>by have:=hr i e.symm;omega)
 refine ⟨⟨Nat.le_trans h.1.base hg.size,fun y hy=>y.stable _ _ (h.1.holds y hy) ⟨hg.os,hg.tape,hg.output,hg.size⟩ (fun i hi=>hk y hy i hi),fun y hy i hi=>⟨(h.1.own y hy i hi).1,Nat.lt_of_lt_of_le (h.1.own y hy i hi).2 hg.size⟩,fun y hy i hi=>Nat.lt_of_lt_of_le (h.1.rd y hy i hi) hg.size,h.1.apart⟩,h.2.trans ⟨hg.os,hg.tape,hg.output,hg.size,fun k hk=>?_⟩⟩;by_cases e:k<w.heap.size
 · exact hg.block k e (fun e=>by have:=hr k e.symm;omega)
 have:=h.1.base;omega
theorem SW.ownFrom {β:Type} {B:Nat} {L:β->List Ob} (hl:∀ s,∀ o∈L s,∀ i,(o.own i∨o.rd i)->i<B) (hb:b<=B):OwnFrom B (fun s W=>SW b w0 (L s) W):=
 fun s _ _ _ hs hg hr=>hs.growB (hl s) hb hg (fun r e=>(hr r e).1)
theorem SW.inside (h:SW b w0 l w):∀ o∈l,∀ i,(o.own i∨o.rd i)->i<w.heap.size:=fun o ho i hi=>by
 rcases hi with hi | hi
 · exact (h.1.own o ho i hi).2
 exact h.1.rd o ho i hi
theorem SW.unmark {w':World} {L:List Nat} (h:SW b w0 (dfOb L::l) w) (hk:∀ k,k ∉ L->w'.heap[k]? =w.heap[k]?) (hs:w'.heap.size=w.heap.size) (h1:w'.os=w.os) (h2:w'.tape=w.tape) (h3:w'.output=w.output):SW b w0 l w':=by
 have ha:=List.pairwise_cons.1 h.1.apart
 have hn:∀ o∈l,∀ i,(o.own i∨o.rd i)->i ∉ L:=fun o ho i hi hL=>by
  rcases hi with hi | hi
  · exact ((ha.1 o ho).1 i hL).1 hi
  exact ((ha.1 o ho).1 i hL).2 hi
 refine ⟨⟨by rw [hs];exact h.1.base,fun y hy=>y.stable _ _ (h.1.holds y (List.mem_cons_of_mem _ hy)) ⟨h1,h2,h3,by rw [hs];exact Nat.le_refl _⟩ (fun i hi=>hk i (hn y hy i hi)),fun y hy i hi=>by rw [hs];exact h.1.own y (List.mem_cons_of_mem _ hy) i hi,fun y hy i hi=>by rw [hs];exact h.1.rd y (List.mem_cons_of_mem _ hy) i hi,ha.2⟩,h.2.trans ⟨h1,h2,h3,by rw [hs];exact Nat.le_refl _,fun k hkb=>hk k (fun hL=>?_)⟩⟩;have:=(h.1.own (dfOb L) (List.mem_cons_self ..) k hL).1;omega
theorem leaves_marks {P:Program} {F:Fence} {n:Nat} {fn:Func} {tmps:Array Value} {R:Ending->World->Prop}:∀ (L:List Nat) (w:World),L.Nodup->(∀ i∈L,w.heap[i]? =some (.deferred (some [])))->
 (∀ w',(∀ k,k ∉ L->w'.heap[k]? =w.heap[k]?)->w'.heap.size=w.heap.size->w'.os=w.os->w'.tape=w.tape->w'.output=w.output->LeavesIn F n P fn tmps R [] .returning w')->LeavesInM F n P fn tmps R (marks L) .returning w
 | [],w,_,_,h=>h w (fun _ _=>rfl) rfl rfl rfl rfl
 | i::L,w,hn,hd,h=>by
  have hi:=hd i (by simp);have hlt:=(Array.getElem?_eq_some_iff.1 hi).1;refine ⟨by simp,.inl ⟨i,_,rfl,run_takeDeferred hi,?_⟩⟩;refine leaves_marks L _ (List.nodup_cons.1 hn).2 (fun j hj=>?_) (fun w' hk hs h1 h2 h3=>h w' (fun k hkn=>?_) (by rw [hs];simp) h1 h2 h3)
  · rw [World.putObj_heap_other (fun e=>(List.nodup_cons.1 hn).1 (by rw [<- e];exact hj))];exact hd j (List.mem_cons_of_mem _ hj)
  rw [hk k (fun h=>hkn (List.mem_cons_of_mem _ h)),World.putObj_heap_other (fun e=>hkn (by rw [e];simp))]
end
theorem fileOf_all (r:Rv) (w:World):Calls Tryz.prog 104 #[r.val] w (fun e w'=>e= .returned (vF r.fi)/\Below w.heap.size w w'):=by
 go_enter Tryz.func104,Tryz.ntmps104;go_wp2_with fail
 refine bodyPost_ret (v:=vF r.fi) ?_ rfl ⟨rfl,((Below.refl _ _).alloc (Nat.le_refl _) _).alloc (by simp) _⟩;simp [results,Tryz.results104,go_sem,Rv.fi]
theorem backwards_any (w:World) (D0 D1:Value) (p:ByteArray) (k:Int):Calls Tryz.prog 103 #[.agg #[D0,D1],vF (p,k)] w (fun e w'=>e= .returned (.func (.func 141) #[] #[vPtr w.heap.size,vPtr (w.heap.size+1)])/\w'=(w.alloc (.cells #[D0,D1] 96)).alloc (.cells #[.string p,.int .i64 k] 168)):=by
 go_enter Tryz.func103,Tryz.ntmps103;go_wp2_with fail
 go_ret;exact ⟨rfl,rfl⟩
end Go.Proofs.YtmiknfneeipkeaaGreat
