/- Contracts of the walk, part 9. -/
import Derived.Lib.Hide
import Derived.Handy
import Derived.RegionTactic
import Derived.ChangeAlike
import Derived.IntWalk
import Derived.Test.YtmiknfneeipkeaaGreatS08
import Derived.Test.YtmiknfneeipkeaaGreatS04
import Derived.Test.YtmiknfneeipkeaaGreatS03
import Derived.Test.YtmiknfneeipkeaaGreatS05
import Derived.Test.YtmiknfneeipkeaaGreatS02
open Go.Lib (hid)
namespace Go.Proofs.YtmiknfneeipkeaaGreat
open Go.RowKit Go.MapKept Go.ChangeMaps
attribute [local go_sem] wext_cell
theorem q93 (w:World) (a:Option Addr) (n c n' c':Nat):(binOp .eql 93 (.slice a n c) (.slice none n' c')).run Tryz.prog w= .ok (.bool a.isNone) w:=Lib.run_eql_slice_nil w _ _ a n c n' c' Tryz.underlying93
theorem info111:(Tryz.prog.info? 111).map (fun i=>(i.zero,i.size,i.bytes))=some (some zR,12,96):=by kernel_rfl
theorem encR_one (L:List Int):∀ u∈L.flatMap encR,u.oneCell'=true:=by
 intro u hu;obtain ⟨x,_,hx⟩:=List.mem_flatMap.1 hu;simp only [encR,List.mem_cons,List.not_mem_nil,or_false] at hx;rcases hx with rfl | rfl | rfl | rfl | rfl | rfl | rfl | rfl | rfl | rfl | rfl | rfl<;>rfl
section
variable {b:Nat} {w0 w:World} {l:List Ob} {A:Option Addr} {m cm:Nat}
theorem Grow_none (w:World):Calls Tryz.prog 137 #[.slice none 0 0,.int .i64 0] w (fun e w'=>e= .returned (.slice none 0 0)/\w=w'):=by
 go_enter Tryz.func137,Tryz.ntmps137;go_wp2_with fail
 go_ret;exact ⟨rfl,rfl⟩
theorem insort_none (w:World) (f:Value):Calls Tryz.prog 180 #[.slice none 0 0,.int .i64 0,.int .i64 0,f] w (fun e w'=>e= .returned (.tuple #[])/\w=w'):=by
 go_enter Tryz.func180,Tryz.ntmps180;go_wp2_with fail
 go_loopw [8] (fun s8 wr=>s8= .int .i64 1/\w=wr) (fun _ _=>0)
 case atStart=>exact ⟨rfl,rfl⟩
 obtain ⟨rfl,rfl⟩:=hrel;go_wp2_with fail
 refine bodyPost_end (v:=.tuple #[]) (results_none rfl _ _ _) rfl ?_;exact ⟨rfl,rfl⟩
theorem stable_none (w:World) (f:Value):Calls Tryz.prog 138 #[.slice none 0 0,.int .i64 0,f] w (fun e w'=>e= .returned (.tuple #[])/\w=w'):=by
 go_enter Tryz.func138,Tryz.ntmps138;go_wp2_with fail
 go_loopw [7,8] (fun s7 s8 wr=>s7= .int .i64 0/\s8= .int .i64 20/\w=wr) (fun _ _ _=>0)
 case atStart=>exact ⟨rfl,rfl,rfl⟩
 obtain ⟨rfl,rfl,rfl⟩:=hrel;go_wp2_with (go_at_call 180;(with_reducible refine (insort_none _ _).mono ?_);refine halt_ ?_)
 rintro e w3 ⟨rfl,rfl⟩;go_wp2_with fail
 go_loopw [6] (fun s6 wr=>s6= .int .i64 20/\w=wr) (fun _ _=>0)
 case atStart=>exact ⟨rfl,rfl⟩
 obtain ⟨rfl,rfl⟩:=hrel;go_wp2_with fail
 refine bodyPost_end (v:=.tuple #[]) (results_none rfl _ _ _) rfl ?_;exact ⟨rfl,rfl⟩
theorem sort_none (w:World) (f:Value):Calls Tryz.prog 100 #[.slice none 0 0,f] w (fun e w'=>e= .returned (.tuple #[])/\w=w'):=by
 go_enter Tryz.func100,Tryz.ntmps100;go_wp2_with (go_at_call 138;(with_reducible refine (stable_none _ _).mono ?_);refine halt_ ?_)
 rintro e w3 ⟨rfl,rfl⟩;go_wp2_with fail
 refine bodyPost_end (v:=.tuple #[]) (results_none rfl _ _ _) rfl ?_;exact ⟨rfl,rfl⟩
theorem SW.emptyRow (h:SW b w0 l w) (e:TypeId) (size:Nat):SW b w0 (rowOb e size (.slice (some ⟨w.heap.size,0,none⟩) 0 0) 0 []::l) (w.alloc (.cells #[] e)):=by
 have ho:(w.alloc (.cells #[] e)).ownsRow 0 e size (.slice (some ⟨w.heap.size,0,none⟩) 0 0) 0 []:=⟨by simp,.inr ⟨w.heap.size,0, #[],rfl,Nat.zero_le _,IsB.new _ _ _,Nat.le_refl _,by decide,by simp,by simp⟩⟩;have:=h.1.add (o':=rowOb e size (.slice (some ⟨w.heap.size,0,none⟩) 0 0) 0 []) (w':=w.alloc (.cells #[] e)) (bel1q _ _) ho (fun i hi=>by have e:some w.heap.size=some i:=hi;injection e with e;simp [<- e]) (fun i hi=>hi.elim) (fun i hi=>hi.elim);exact ⟨this.1,h.2.trans this.2⟩
theorem wpList_rowM {ops:Array Oper} {o:Oper} {rest:List Oper} {a:Act} {Q:Exit->Act->World->Prop} {t e:TypeId} {i:TypeInfo} {z:Value} {size bytes:Nat} (hS:SW b w0 l w) (k:Nat) {v:Value} {n:Nat} {xs:List Value} (hk:l[k]? =some (rowOb e size v n xs))
 (hgd:o.guard=none) (s x:Operand) (ho:o.op= .call { callee:=.builtin .append,args:= #[s,x],argTypes:= #[t,t] })
 (ht:Tryz.prog.underlying t=some (.slice e)) (hi:Tryz.prog.info? e=some i) (hz:i.zero=some z) (hsize:i.size=size) (hby:i.bytes=bytes) (hzs:z.cells.size=size) (hsz:0<size)
 (hs:a.eval s=v) (ad:Addr) (m c:Nat) (news:List Value) (hx:a.eval x= .slice (some ad) m c) (hl:news.length=m*size) (hnews:∀ j u,news[j]? =some u->w.cell? (ad.add j)=some u) (h1:∀ u∈news,u.oneCell'=true) (hm:0<m)
 (h63:n+m<=maxLen) (hbytes:(n+m)*bytes<=140737488355328)
 (h:∀ v' w',SW b w0 (l.set k (rowOb e size v' (n+m) (xs++news))) w'->wpList Tryz.prog ops Q rest (a.put o.dst v') w'):
 wpList Tryz.prog ops Q (o::rest) a w:=by
 have:=step_append_row (ops:=ops) (Q:=Q) (E:=False) (K:=wpList Tryz.prog ops Q rest) hgd s x t ho e i z size bytes ht hi hz hsize hby hzs hsz v n xs hs (hS.get k hk) ad m c news hx hl hnews h1 hm h63 hbytes (fun v' w' h2 hg hv=>h v' w' (hS.row k hk h2 hg hv));have hw:Region.wanted o (yielded ops a.tmps)=true:=by simp [Region.wanted,hgd]
 rw [if_pos hw] at this;unfold wpList
 first
  | (rw [if_pos hw];exact .inl this)
  | (simp only [hw,if_true];exact .inl this)
  | (simp only [hw,if_true];exact this)
theorem Concat_none {g:Nat} (h:SW b w0 l w) (hm:cellOb g 94 #[.slice none 0 0,.slice none 0 0]∈l):Calls Tryz.prog 98 #[.slice (some ⟨g,0,none⟩) 2 2] w (fun e w'=>e= .returned (.slice none 0 0)/\w=w'):=by
 have hb:IsB w g 94 #[.slice none 0 0,.slice none 0 0]:=h.1.holds (cellOb g 94 #[.slice none 0 0,.slice none 0 0]) hm;have c0:w.cell? ⟨g,0,none⟩=some (.slice none 0 0):=hb.cell 0;have c1:w.cell? ⟨g,1,none⟩=some (.slice none 0 0):=hb.cell 1;clear h hm hb;go_enter Tryz.func98,Tryz.ntmps98;go_wp2_with fail
 go_loopw [3,11] (fun s3 s11 wr=>s3= .int .i64 0/\(s11= .int .i64 0∨s11= .int .i64 1∨s11= .int .i64 2)/\w=wr) (fun _ s11 _=>2-(intOf s11).toNat)
 case atStart=>exact ⟨rfl,.inl rfl,rfl⟩
 obtain ⟨rfl,h11,rfl⟩:=hrel;rcases h11 with rfl | rfl | rfl
 · go_wp2_with fail
   go_roundw
   case rel=>exact ⟨by go_num,.inr (.inl (by go_num)),trivial⟩
   simp [intOf]
 · go_wp2_with fail
   go_roundw
   case rel=>exact ⟨by go_num,.inr (.inr (by go_num)),trivial⟩
   simp [intOf]
 go_wp2_with (go_at_call 137;(with_reducible refine (Grow_none _).mono ?_);refine halt_ ?_)
 rintro e w3 ⟨rfl,rfl⟩;go_wp2_with fail
 go_loopw [6,27] (fun s6 s27 wr=>s6= .slice none 0 0/\(s27= .int .i64 0∨s27= .int .i64 1∨s27= .int .i64 2)/\w=wr) (fun _ s27 _=>2-(intOf s27).toNat)
 case atStart=>exact ⟨rfl,.inl rfl,rfl⟩
 obtain ⟨rfl,h11,rfl⟩:=hrel;rcases h11 with rfl | rfl | rfl
 · go_wp2_with fail
   go_roundw
   case rel=>exact ⟨rfl,.inr (.inl (by go_num)),trivial⟩
   simp [intOf]
 · go_wp2_with fail
   go_roundw
   case rel=>exact ⟨rfl,.inr (.inr (by go_num)),trivial⟩
   simp [intOf]
 go_wp2_with fail
 go_ret;exact ⟨rfl,rfl⟩
set_option maxRecDepth 100000 in
set_option maxHeartbeats 2000000 in
theorem Clone_any (h:SW b w0 l w) (hv:rvOb A m∈l) (h0:m=0->A=none/\cm=0) (hm:m<=100):Calls Tryz.prog 97 #[.slice A m cm] w (fun e w'=>∃ A' c',e= .returned (.slice A' m c')/\SW b w0 (rowOb 111 12 (.slice A' m c') m ((revs m).flatMap encR)::l) w'):=by
 by_cases hz:m=0
 · obtain ⟨rfl,rfl⟩:=h0 hz;subst hz;have q:=q93;have S0:=hid h;clear h hv h0;go_enter Tryz.func97,Tryz.ntmps97;go_wp2_with fail
   go_ret;exact ⟨none,0,rfl,S0.out.newRow 111 12⟩
 have HV:Hid (RowV w 111 12 A m ((revs m).flatMap encR)):=h.1.holds (rvOb A m) hv;obtain ⟨g,hA,hg,hc⟩:=HV.out.at (by omega);subst hA;obtain ⟨i0,hi,hz0,hz1,hz2⟩:=info_parts info111;have S0:=hid h
 have HN:Hid (∀ j u,((revs m).flatMap encR)[j]? =some u->(w.alloc (.cells #[] 111)).cell? ((⟨g,0,none⟩:Addr).add j)=some u):=fun j u hu=>by
  have hj:j<m*12:=by
   have:=(List.getElem?_eq_some_iff.1 hu).1;rwa [HV.out.1] at this
  rw [lit_add,Nat.zero_add,(bel1q w (.cells #[] 111)).cell (p:=⟨g,j,none⟩) hg,hc j hj];exact hu
 have q:=q93;have HFl:=hid HV.out.1;clear h hv hc;go_enter Tryz.func97,Tryz.ntmps97;have S1:=hid (S0.out.emptyRow 111 12);go_wp2_with (at_builtin;refine wpList_rowM S1.out 0 rfl rfl _ _ rfl Tryz.underlying93 hi hz0 hz1 hz2 rfl (by decide) rfl ⟨g,0,none⟩ m cm ((revs m).flatMap encR) rfl HFl.out HN.out (encR_one _) (by omega) (by unfold maxLen;omega) (by omega) ?_)
 intro v1 w1 hs1;obtain ⟨A1,c1,rfl⟩:=own_slice (hs1.get 0 rfl:w1.ownsRow 0 111 12 v1 _ _);have S2:=hid hs1;clear hs1 S1 S0;go_wp2_with fail
 go_ret;exact ⟨A1,c1,rfl,S2.out⟩
abbrev stC (kb:Nat):Array Value:= #[.func (.func 132) #[vPtr kb] #[],.func (.func 133) #[vPtr kb] #[],.func (.func 134) #[vPtr kb] #[],.func (.func 135) #[vPtr kb] #[],.func (.func 136) #[vPtr kb] #[]]
theorem steps_any (w:World) (kb:Nat):Calls Tryz.prog 96 #[vPtr kb] w (fun e w'=>e= .returned (.slice (some ⟨w.heap.size,0,none⟩) 5 5)/\w'=w.alloc (.cells (stC kb) 156)):=by
 go_enter Tryz.func96,Tryz.ntmps96;go_wp2_with fail
 go_ret;exact ⟨rfl,rfl⟩
section
variable {R E:Value} {kb ml me mi:Nat} {n a s bs:Int}
theorem oneEdit_m (h:SW b w0 l w) (hk:cellOb kb 209 (ckC R n E ml me mi)∈l) (hl:mpOb okS kS vRw ml (lastL m)∈l) (ha:actI ((m:Int)+1)=a) (hb:(m:Int)=bs):Calls Tryz.prog 177 #[vPtr kb,vEg a s bs] w (fun e w'=>e= .returned (.int .i64 0)/\Below w.heap.size w w'):=by
 subst ha hb;by_cases h0:m=0
 · subst h0;exact oneEdit_first h hk hl rfl
 have e:actI ((m:Int)+1)=2:=by rw [actI,if_neg (by omega)]
 rw [e];have h3:actI (m:Int)≠3:=by unfold actI;split<;>decide
 have h5:actI (m:Int)≠5:=by unfold actI;split<;>decide
 exact oneEdit_next h hk hl (by rw [lastL_asc,if_neg h0]) h3 h5
theorem revision_m (h:SW b w0 l w) (hk:cellOb kb 209 (ckC R n E ml me mi)∈l) (hl:mpOb okS kS vRw ml (lastL m)∈l) (hm:m<=100):Calls Tryz.prog 99 #[vPtr kb,vEg a s bs] w (fun e w'=>e= .returned (vRh ((m:Int)+1) n a s)/\Below w.heap.size w w'):=by
 by_cases h0:m=0
 · subst h0;exact rev_first h hk (fun W hW=>look_R (h.1.holds (mpOb okS kS vRw ml (lastL 0)) hl) false W hW)
 exact rev_next h hk (k:=m) (d:=10*m) (e:=actI m) (fun W hW=>by
  have:=look_R (h.1.holds (mpOb okS kS vRw ml (lastL m)) hl) false W hW;rw [lastL_asc,if_neg h0] at this;exact this) (by omega) (by omega)
end
end
end Go.Proofs.YtmiknfneeipkeaaGreat
namespace Go.Proofs.YtmiknfneeipkeaaGreat
open Go.RowKit Go.MapKept Go.ChangeMaps Go.Shelf Go.Sort
attribute [local go_sem] wext_cell
abbrev id0:ID:=(0,0)
def RowI (w:World) (g:Nat) (l:List ID):Prop:=∃ cur,IsB w g 36 cur/\l.length*2<=cur.size/\∀ j,j<l.length->cur[j*2]? =some (.int .u64 (l.getD j id0).1)/\cur[j*2+1]? =some (.int .i64 (l.getD j id0).2)
theorem RowI.on {w w':World} {g:Nat} {l:List ID} (h:RowI w g l) (hb:Below w.heap.size w w'):RowI w' g l:=by
 obtain ⟨cur,h1,h2⟩:=h;exact ⟨cur,h1.on hb,h2⟩
theorem RowI.cells {w:World} {g:Nat} {l:List ID} (h:RowI w g l) {j:Nat} (hj:j<l.length) {x:ID} (hx:l.getD j id0=x):w.cell? ⟨g,j*2,none⟩=some (.int .u64 x.1)/\w.cell? ⟨g,j*2+1,none⟩=some (.int .i64 x.2)/\w.frozen? ⟨g,j*2,none⟩=false/\w.frozen? ⟨g,j*2+1,none⟩=false:=by
 obtain ⟨cur,h1,h2,h3⟩:=h;subst hx;exact ⟨(h1.cell _).trans (h3 j hj).1,(h1.cell _).trans (h3 j hj).2,h1.frozen _,h1.frozen _⟩
theorem RowI.put {w:World} {g:Nat} {l:List ID} (h:RowI w g l) (k:Nat) (hk:k<l.length) (x:ID):RowI ((w.setCell ⟨g,k*2,none⟩ (.int .u64 x.1)).setCell ⟨g,k*2+1,none⟩ (.int .i64 x.2)) g (l.set k x):=by
 obtain ⟨cur,h1,h2,h3⟩:=h;refine ⟨_,(h1.set_ (k*2) (.int .u64 x.1)).set_ (k*2+1) (.int .i64 x.2),by simp;omega,fun j hj=>?_⟩;simp only [List.length_set] at hj;obtain ⟨c0,c1⟩:=h3 j hj;by_cases e:k=j
 · subst e;have e1:(l.set k x).getD k id0=x:=by rw [List.getD_eq_getElem?_getD,List.getElem?_set_self hk];rfl
   rw [e1];refine ⟨?_,?_⟩
   · rw [Array.getElem?_setIfInBounds_ne (by omega),Array.getElem?_setIfInBounds_self_of_lt (by omega)]
   rw [Array.getElem?_setIfInBounds_self_of_lt (by simp;omega)]
 have e1:(l.set k x).getD j id0=l.getD j id0:=by rw [List.getD_eq_getElem?_getD,List.getElem?_set_ne e,List.getD_eq_getElem?_getD]
 rw [e1];refine ⟨?_,?_⟩
 · rw [Array.getElem?_setIfInBounds_ne (by omega),Array.getElem?_setIfInBounds_ne (by omega)];exact c0
 rw [Array.getElem?_setIfInBounds_ne (by omega),Array.getElem?_setIfInBounds_ne (by omega)];exact c1
def riOb (A:Option Addr) (ys:List ID):Ob where
 own:=fun _=>False
 rd:=fun i=>A=some ⟨i,0,none⟩
 holds:=fun w=>(A=none->ys=[])/\∀ ad,A=some ad->∃ g,ad=⟨g,0,none⟩/\RowI w g ys/\g<w.heap.size
 stable:=fun w w' h hs hk=>by
  refine ⟨h.1,fun ad e=>?_⟩;obtain ⟨g,rfl,⟨cur,hi,hr⟩,hlt⟩:=h.2 ad e;exact ⟨g,rfl,⟨cur,(hk g (.inr e)).trans hi,hr⟩,Nat.lt_of_lt_of_le hlt hs.2.2.2⟩
theorem own_rowI {w:World} {base g n cap:Nat} {xs:List ID} (h:w.ownsRow base 36 2 (.slice (some ⟨g,0,none⟩) n cap) n (xs.flatMap encID)):n=xs.length/\RowI w g xs/\g<w.heap.size/\base<=g:=by
 have hl:=h.1;rw [flat_len encID_len] at hl;have hn:n=xs.length:=by omega
 have hlt:=h.lt g rfl;refine ⟨hn,?_,hlt.2,hlt.1⟩;rcases h.2 with ⟨hv,_⟩ | ⟨g',cap',cur,hv,_,hh,hc1,hcs,hcs2,htk⟩
 · cases hv
 injection hv with h1 h2 h3;injection h1 with h1;injection h1 with h1;subst h1;refine ⟨cur,hh,?_,fun j hj=>?_⟩
 · show xs.length*2<=cur.size;have:=congrArg List.length htk;rw [List.length_take,flat_len encID_len] at this;simp at this;omega
 have e0:=flat_at encID_len id0 xs j 0 hj (by omega);have e1:=flat_at encID_len id0 xs j 1 hj (by omega);rw [<- htk,List.getElem?_take_of_lt (by omega)] at e0 e1;exact ⟨by simpa [encID] using e0,by simpa [encID] using e1⟩
theorem two_new (W:World) (x y:Value) (t:TypeId) (H:Nat) (hH:W.heap.size=H):∀ j u,[x,y][j]? =some u->(W.alloc (.cells #[x,y] t)).cell? ((⟨H,0,none⟩:Addr).add j)=some u:=by
 intro j u hu;rw [lit_add,Nat.zero_add,new_cell W t #[x,y] H hH j];simpa using hu
section
variable {b:Nat} {w0 w w':World} {l t:List Ob} {o o':Ob}
theorem SW.rowRi {A:Option Addr} {cap:Nat} {F:List ID} (h:SW b w0 (rowOb 36 2 (.slice A F.length cap) F.length (F.flatMap encID)::t) w):SW b w0 (riOb A F::t) w:=by
 have hh:w.ownsRow 0 36 2 (.slice A F.length cap) F.length (F.flatMap encID):=h.get 0 (o:=rowOb 36 2 (.slice A F.length cap) F.length (F.flatMap encID)) rfl;refine h.asRead (o':=riOb A F) ?_ (fun i hi=>hi) (fun i hi=>?_)
 · by_cases hF:F.length=0
   · have hF':F=[]:=List.eq_nil_of_length_eq_zero hF;subst hF';refine ⟨fun _=>rfl,fun ad e=>?_⟩;rcases hh.2 with ⟨hv,_⟩ | ⟨g,cap',cur,hv,_⟩
     · injection hv with hv;rw [e] at hv;cases hv
     subst e;injection hv with h1;injection h1 with h1;subst h1;obtain ⟨_,h2,h3,_⟩:=own_rowI hh;exact ⟨g,rfl,h2,h3⟩
   obtain ⟨g,c',e⟩:=own_some hh hF;injection e with e1 e2 e3;subst e1;obtain ⟨_,h2,h3,_⟩:=own_rowI hh;exact ⟨(fun e=>by cases e),fun ad e=>by injection e with e;exact ⟨g,e.symm,h2,h3⟩⟩
 have hi:A=some ⟨i,0,none⟩:=hi;show (Value.slice A F.length cap).ownBlock=some i;rw [hi];rfl
theorem SW.start {w:World} {o:Ob} (h:o.holds w) (ho:∀ i,¬ o.own i) (hr:∀ i,o.rd i->i<w.heap.size):SW w.heap.size w [o] w:=
 (SW.refl (Sep.nil w (Nat.le_refl _))).also h ho hr (fun _ _ y hy=>by cases hy)
theorem SW.fuse {b:Nat} {w0 w:World} {pre t:List Ob} {o':Ob} (h:SW b w0 (pre++t) w) (hh:o'.holds w) (ho:∀ i,¬ o'.own i) (hr:∀ i,o'.rd i->∃ o∈pre,o.own i∨o.rd i):SW b w0 (o'::t) w:=by
 obtain ⟨_,hpt,hap⟩:=List.pairwise_append.1 h.1.apart;refine ⟨⟨h.1.base,fun y hy=>?_,fun y hy i hi=>?_,fun y hy i hi=>?_,List.pairwise_cons.2 ⟨fun y hy=>⟨fun i hi=>absurd hi (ho i),fun i hi hr'=>?_⟩,hpt⟩⟩,h.2⟩
 · rcases List.mem_cons.1 hy with rfl | hy
   · exact hh
   exact h.1.holds y (List.mem_append_right _ hy)
 · rcases List.mem_cons.1 hy with rfl | hy
   · exact absurd hi (ho i)
   exact h.1.own y (List.mem_append_right _ hy) i hi
 · rcases List.mem_cons.1 hy with rfl | hy
   · obtain ⟨o,hm,h1 | h1⟩:=hr i hi
     · exact (h.1.own o (List.mem_append_left _ hm) i h1).2
     exact h.1.rd o (List.mem_append_left _ hm) i h1
   exact h.1.rd y (List.mem_append_right _ hy) i hi
 obtain ⟨o,hm,h1 | h1⟩:=hr i hr'
 · exact ((hap o hm y hy).1 i h1).1 hi
 exact (hap o hm y hy).2 i hi h1
theorem rdID_of {w:World} {A:Option Addr} {ids:List ID} (h:(riOb A ids).holds w):RdID w w.heap.size A ids:=by
 intro hp;cases A with
 | none=>
  have:=h.1 rfl;rw [this] at hp;simp at hp
 | some ad=>
  obtain ⟨g,rfl,hr,hlt⟩:=h.2 ad rfl;refine ⟨g,0,rfl,hlt,by omega,fun j hj i v hv=>?_⟩;obtain ⟨a0,a1,_,_⟩:=hr.cells hj rfl;match i,hv with
  | 0,hv=>
   simp [encID] at hv;subst hv;simpa using a0
  | 1,hv=>
   simp [encID] at hv;subst hv;simpa using a1
  | i+2,hv=>simp [encID] at hv
theorem encID_all (ids:List ID):∀ u∈ids.flatMap encID,u.oneCell'=true:=fun u hu=>by
 obtain ⟨i,_,hi⟩:=List.mem_flatMap.1 hu;exact encID_one i u hi
end
def bufOb (d:BD) (bs:List UInt8):Ob where
 own:=fun i=>blk d=some i
 rd:=fun _=>False
 holds:=fun w=>RB w d bs
 stable:=fun w w' h hs hk=>by
  have hc:Ch w w' (fun i=>¬ blk d=some i) []:=⟨hs.1,hs.2.1,hs.2.2.1,hs.2.2.2,fun i _ hn _=>hk i (.inl (Classical.not_not.1 hn)),by simp⟩;exact h.ch hc (fun g hg hn=>hn hg) (by simp)
def rsOb (A:Option Addr) (bs:List UInt8):Ob where
 own:=fun _=>False
 rd:=fun i=>0<bs.length/\∃ o,A=some ⟨i,o,none⟩
 holds:=fun w=>RS w A bs
 stable:=fun w w' h hs hk=>by
  refine ⟨h.1,fun ad e hp=>?_⟩;obtain ⟨g,o,rfl,hc⟩:=h.2 ad e hp;refine ⟨g,o,rfl,fun j hj=>?_⟩;have h2:=hk g (.inr ⟨by omega,o,e⟩);rw [<- hc j hj];simp [World.cell?, h2]
theorem AppB.fr {w w':World} {d d':BD} {bs bs':List UInt8} (h:AppB w d bs' d' w') (hr:RB w d bs):Fr w w' (bufOb d bs).own (bufOb d' bs').own:=by
 obtain ⟨_,⟨e1,_,_,hc⟩ | ⟨H,e1,e2,hb⟩⟩:=h
 · refine ⟨hc.os,hc.tape,hc.output,hc.size,fun i hi hn=>hc.block i hi (fun h=>h) (fun p hp he=>hn ?_),fun i hi=> .inl ?_⟩
   · obtain ⟨A,n,c⟩:=d;cases A with
     | none=>simp [room] at hp
     | some ad=>
      obtain ⟨g,cur,rfl,_⟩:=hr.2.2.2 ad rfl;simp [room] at hp;obtain ⟨_,rfl⟩:=hp;show blk _=some i;rw [<- he];rfl
   show blk d=some i;rw [<- e1];exact hi
 exact Fr.new hb (fun i hi=> .inr (by
  have h1:blk d'=some i:=hi;rw [e1] at h1;injection h1 with h1;omega))
theorem Sep.app {b:Nat} {w w':World} {l:List Ob} (h:Sep b w l) (k:Nat) {d d':BD} {bs bs':List UInt8} (hk:l[k]? =some (bufOb d bs)) (ha:AppB w d bs' d' w'):Sep b w' (l.set k (bufOb d' bs'))/\Below b w w':=by
 have hr:RB w d bs:=h.get hk;refine h.stepAt k hk (ha.fr hr) (fun i hi=>hi.elim) ha.1 (fun i hi=>?_);rcases hi with hi | hi
 · exact ha.1.lt hi
 exact hi.elim
section
variable {w w':World} {t:TypeId} {sz n:Nat} {A:Option Addr} {xs:List Value}
theorem RowV.of_own {c:Nat} (h:w.ownsRow 0 t sz (.slice A n c) n xs):RowV w t sz A n xs/\n<=c:=by
 refine ⟨⟨h.1,?_⟩,?_⟩
 · rcases h.2 with ⟨hv,h2⟩ | ⟨g,cap,cur,hv,_,hh,hc1,hcs,hcs2,htk⟩
   · exact .inl h2
   injection hv with e1 e2 e3;exact .inr ⟨g,cur,e1,hh,htk⟩
 rcases h.2 with ⟨hv,h2⟩ | ⟨g,cap,cur,hv,_,hh,hc1,hcs,hcs2,htk⟩
 · omega
 injection hv with e1 e2 e3;omega
end
structure BS where
 d:BD
 bs:List UInt8
def bs0:BS:=⟨⟨none,0,0⟩,[]⟩
def encB (e:BS):List Value:=[.slice e.d.A e.d.len e.d.cap]
theorem encB_len (e:BS):(encB e).length=1:=rfl
def blOb (A:Option Addr) (T:List BS):Ob where
 own:=fun _=>False
 rd:=fun i=>(0<T.length/\A=some ⟨i,0,none⟩)∨∃ e∈T,blk e.d=some i
 holds:=fun w=>RowV w 40 1 A T.length (T.flatMap encB)/\∀ e∈T,RB w e.d e.bs
 stable:=fun w w' h hs hk=>by
  refine ⟨h.1.same (fun i hn e=>hk i (.inr (.inl ⟨hn,e⟩))),fun e he=>?_⟩;have hc:Ch w w' (fun i=>¬ blk e.d=some i) []:=⟨hs.1,hs.2.1,hs.2.2.1,hs.2.2.2,fun i _ hn _=>hk i (.inr (.inr ⟨e,he,Classical.not_not.1 hn⟩)),by simp⟩;exact (h.2 e he).ch hc (fun g hg hn=>hn hg) (by simp)
theorem blOb_at {w:World} {A:Option Addr} {T:List BS} (h:(blOb A T).holds w) {j:Nat} (hj:j<T.length) {e:BS} (he:T.getD j bs0=e):∃ g,A=some ⟨g,0,none⟩/\g<w.heap.size/\w.cell? ⟨g,j,none⟩=some (.slice e.d.A e.d.len e.d.cap)/\RB w e.d e.bs:=by
 obtain ⟨g,e1,hlt,hc⟩:=h.1.at (by omega);refine ⟨g,e1,hlt,?_,h.2 e ?_⟩
 · have:=flat_at encB_len bs0 T j 0 hj (by omega);rw [he] at this;rw [hc j (by omega)];simpa [encB] using this
 rw [<- he,List.getD_eq_getElem?_getD,List.getElem?_eq_getElem hj];exact List.getElem_mem hj
theorem SW.rowBl {b:Nat} {w0 w:World} {A:Option Addr} {c:Nat} {T:List BS} {t:List Ob} (h:SW b w0 (rowOb 40 1 (.slice A T.length c) T.length (T.flatMap encB)::t) w) (hb:∀ e∈T,RB w e.d e.bs):RowV w 40 1 A T.length (T.flatMap encB):=
 (RowV.of_own (h.get 0 (o:=rowOb 40 1 (.slice A T.length c) T.length (T.flatMap encB)) rfl)).1
theorem info40:(Tryz.prog.info? 40).map (fun i=>(i.zero,i.size,i.bytes))=some (some (.slice none 0 0),1,24):=by kernel_rfl
def bufsOb (T:List BS):Ob where
 own:=fun _=>False
 rd:=fun i=>∃ e∈T,blk e.d=some i
 holds:=fun w=>∀ e∈T,RB w e.d e.bs
 stable:=fun w w' h hs hk e he=>by
  have hc:Ch w w' (fun i=>¬ blk e.d=some i) []:=⟨hs.1,hs.2.1,hs.2.2.1,hs.2.2.2,fun i _ hn _=>hk i (.inr ⟨e,he,Classical.not_not.1 hn⟩),by simp⟩;exact (h e he).ch hc (fun g hg hn=>hn hg) (by simp)
section
variable {b:Nat} {w0 w w':World} {l t:List Ob} {o o':Ob}
theorem SW.fuseB {d:BD} {bs:List UInt8} {T:List BS} (h:SW b w0 (bufOb d bs::bufsOb T::l) w):SW b w0 (bufsOb (T++[(⟨d,bs⟩:BS)])::l) w:=
 SW.fuse (pre:=[bufOb d bs,bufsOb T]) h (fun e he=>by
  rcases List.mem_append.1 he with he | he
  · exact (h.get 1 (o:=bufsOb T) rfl) e he
  · rw [List.mem_singleton.1 he];exact h.get 0 (o:=bufOb d bs) rfl) (fun _ h=>h) (fun i hi=>by
  obtain ⟨e,he,hb⟩:=hi;rcases List.mem_append.1 he with he | he
  · exact ⟨bufsOb T,by simp,.inr ⟨e,he,hb⟩⟩
  rw [List.mem_singleton.1 he] at hb;exact ⟨bufOb d bs,by simp,.inl hb⟩)
theorem SW.noBufs (h:SW b w0 l w):SW b w0 (bufsOb []::l) w:=SW.fuse (pre:=[]) h (fun e he=>by cases he) (fun _ h=>h) (fun i hi=>by
 obtain ⟨e,he,_⟩:=hi;cases he)
theorem SW.fuseL {A:Option Addr} {c:Nat} {T:List BS} (h:SW b w0 (rowOb 40 1 (.slice A T.length c) T.length (T.flatMap encB)::bufsOb T::l) w):SW b w0 (blOb A T::l) w:=by
 have hb:∀ e∈T,RB w e.d e.bs:=h.get 1 (o:=bufsOb T) rfl;refine SW.fuse (pre:=[rowOb 40 1 (.slice A T.length c) T.length (T.flatMap encB),bufsOb T]) h ⟨h.rowBl hb,hb⟩ (fun _ h=>h) (fun i hi=>?_);rcases hi with ⟨hp,e⟩ | ⟨e,he,hb⟩
 · refine ⟨_,List.mem_cons_self .., .inl ?_⟩;show (Value.slice A T.length c).ownBlock=some i;rw [e];rfl
 exact ⟨bufsOb T,by simp,.inr ⟨e,he,hb⟩⟩
end
end Go.Proofs.YtmiknfneeipkeaaGreat
namespace Go.Proofs.YtmiknfneeipkeaaGreat
open Go.RowKit Go.MapKept Go.ChangeMaps Go.Shelf Go.Sort
attribute [local go_sem] wext_cell
def joinP (a b:ID):ID:=((((a.1.toNat*powP b.2.toNat+b.1.toNat) % pP:Nat):Int),a.2+b.2)
theorem validB_bd {i:ID} (h:validB i=true):0<=i.2/\i.2<=1048576/\i.1<2305843009213693951:=by
 simp only [validB,Bool.and_eq_true,decide_eq_true_eq] at h;omega
set_option maxHeartbeats 4000000 in
theorem Join_any (a1 a2 b1 b2:Int) (ha:validB (a1,a2)=true) (hb:validB (b1,b2)=true) (ha0:0<=a1) (hb0:0<=b1) (hs:a2+b2<=1048576) (w:World):
 Calls Tryz.prog 75 #[.agg #[.int .u64 a1,.int .i64 a2],.agg #[.int .u64 b1,.int .i64 b2]] w (fun e w'=>e= .returned (.tuple #[.agg #[.int .u64 (joinP (a1,a2) (b1,b2)).1,.int .i64 (joinP (a1,a2) (b1,b2)).2],.int .i64 0])/\Below w.heap.size w w'):=by
 obtain ⟨n1,rfl⟩:∃ n:Nat,a1=(n:Int):=⟨a1.toNat,by omega⟩;obtain ⟨m1,rfl⟩:∃ n:Nat,b1=(n:Int):=⟨b1.toNat,by omega⟩;have h1:=validB_bd ha;have h2:=validB_bd hb;simp only at h1 h2;obtain ⟨n2,rfl⟩:∃ n:Nat,a2=(n:Int):=⟨a2.toNat,by omega⟩;obtain ⟨m2,rfl⟩:∃ n:Nat,b2=(n:Int):=⟨b2.toNat,by omega⟩;have HV1:=hid (fun W=>Valid_any (n1:Int) (n2:Int) W);have HV2:=hid (fun W=>Valid_any (m1:Int) (m2:Int) W);rw [ha] at HV1;rw [hb] at HV2;have HPW:=hid (fun W=>Power_any m2 (by omega) W);have HMU:=hid (fun W=>fmul_any n1 (powP m2) W (by omega) (powP_lt _));have hmt:n1*powP m2 % pP<pP:=Nat.mod_lt _ pP_pos;have HAD:=hid (fun W=>fadd_any (n1*powP m2 % pP) m1 W hmt (by omega));rw [Nat.mod_add_mod] at HAD;have HR:Hid (joinP ((n1:Int),(n2:Int)) ((m1:Int),(m2:Int))=((((n1*powP m2+m1) % pP:Nat):Int),(n2:Int)+(m2:Int))):=rfl;rw [HR.out];obtain ⟨pw,HPE⟩:∃ x,Hid (powP m2=x):=⟨_,rfl⟩;rw [HPE.out] at HPW HMU HAD |-; obtain ⟨mu,HME⟩:∃ x,Hid (n1*pw % pP=x):=⟨_,rfl⟩;rw [HME.out] at HMU HAD;obtain ⟨sm,HSE⟩:∃ x,Hid ((n1*pw+m1) % pP=x):=⟨_,rfl⟩;rw [HSE.out] at HAD |-; clear hmt ha hb ha0 hb0 HR
 have S0:=hid ((((SW.refl (Sep.nil w (Nat.le_refl _))).newCell 36 #[.int .u64 (n1:Int),.int .i64 (n2:Int)]).newCellAt 36 #[.int .u64 (m1:Int),.int .i64 (m2:Int)] (H:=w.heap.size+1) (by simp)).newCellAt 36 #[.int .u64 0,.int .i64 0] (H:=w.heap.size+1+1) (by simp));go_enter Tryz.func75,Tryz.ntmps75;go_wp2_with (go_at_call 112;(with_reducible refine (HV1.out _).mono ?_);refine halt_ ?_)
 rintro e w1 ⟨rfl,hb1⟩;have S1:=hid (S0.out.on hb1);clear hb1 S0;have c0:=(S1.out.cell 2 rfl).cell 0;have c1:=(S1.out.cell 2 rfl).cell 1;have d0:=(S1.out.cell 1 rfl).cell 0;have d1:=(S1.out.cell 1 rfl).cell 1;go_wp2_with (go_at_call 112;(with_reducible refine (HV2.out _).mono ?_);refine halt_ ?_)
 rintro e w2 ⟨rfl,hb2⟩;have S2:=hid (S1.out.on hb2);clear hb2 S1 c0 c1 d0 d1;have c0:=(S2.out.cell 2 rfl).cell 0;have c1:=(S2.out.cell 2 rfl).cell 1;have d0:=(S2.out.cell 1 rfl).cell 0;have d1:=(S2.out.cell 1 rfl).cell 1;have hl0:=(S2.out.cell 2 rfl).lt;have hl1:=(S2.out.cell 1 rfl).lt;go_upto_region 5 with fail
 refine wp_region_ext_tail 15 (by kernel_rfl) (by kernel_rfl) ?_;simp only [List.take_succ_cons,List.take_zero,List.drop_succ_cons,List.drop_zero];repeat (go_big_quiet_step ((first | (go_at_call 121;exact ext_call ((HPW.out _).mono (fun e W h=>⟨h.1,h.2 ▸ Below.refl _ _⟩))) | (go_at_call 120;exact ext_call ((HMU.out _).mono (fun e W h=>⟨h.1,h.2 ▸ Below.refl _ _⟩))) | (go_at_call 119;exact ext_call ((HAD.out _).mono (fun e W h=>⟨h.1,h.2 ▸ Below.refl _ _⟩))))))
 refine wpQuiet_nil ?_;intro w3 hb3;have S3:=hid (S2.out.on hb3);clear hb3 S2 c0 c1 d0 d1;have e0:=(S3.out.cell 0 rfl).cell 0;have e1:=(S3.out.cell 0 rfl).cell 1;have f0:=fun o=>(S3.out.cell 0 rfl).frozen o;go_wp2_with fail
 have S4:Hid (SW w.heap.size w [cellOb (w.heap.size+1+1) 36 #[.int .u64 sm,.int .i64 ((n2:Int)+m2)],cellOb (w.heap.size+1) 36 #[.int .u64 (m1:Int),.int .i64 (m2:Int)],cellOb w.heap.size 36 #[.int .u64 (n1:Int),.int .i64 (n2:Int)]] ((w3.setCell ⟨w.heap.size+1+1,0,none⟩ (.int .u64 sm)).setCell ⟨w.heap.size+1+1,1,none⟩ (.int .i64 ((n2:Int)+m2)))):=(S3.out.setAt 0 rfl 0 (.int .u64 sm)).setAt 0 rfl 1 (.int .i64 ((n2:Int)+m2));clear S3 e0 e1 f0;obtain ⟨w4,HW4⟩:∃ W,Hid ((w3.setCell ⟨w.heap.size+1+1,0,none⟩ (.int .u64 sm)).setCell ⟨w.heap.size+1+1,1,none⟩ (.int .i64 ((n2:Int)+m2))=W):=⟨_,rfl⟩;rw [HW4.out] at S4 |-; have e0:w4.cell? ⟨w.heap.size+1+1,0,none⟩=some (.int .u64 sm):=(S4.out.cell 0 rfl).cell 0;have e1:w4.cell? ⟨w.heap.size+1+1,1,none⟩=some (.int .i64 ((n2:Int)+m2)):=(S4.out.cell 0 rfl).cell 1;have HBB:=hid S4.out.2;clear HW4 S4;(try simp only [Exit.inBlock,Exit.then])
 refine bodyPost_ret (v:=.tuple #[.agg #[.int .u64 sm,.int .i64 ((n2:Int)+m2)],.int .i64 0]) (by simp [results,Tryz.results75,go_sem,e0,e1,Result.andThen]) rfl ?_;exact ⟨rfl,HBB.out⟩
set_option maxHeartbeats 4000000 in
theorem rJoin_any (a1 a2 b1 b2:Int) (ha:validB (a1,a2)=true) (hb:validB (b1,b2)=true) (ha0:0<=a1) (hb0:0<=b1) (hs:a2+b2<=1048576) (w:World):
 Calls Tryz.prog 38 #[.agg #[.int .u64 a1,.int .i64 a2],.agg #[.int .u64 b1,.int .i64 b2]] w (fun e w'=>e= .returned (.tuple #[.agg #[.int .u64 (joinP (a1,a2) (b1,b2)).1,.int .i64 (joinP (a1,a2) (b1,b2)).2],.int .i64 0])/\Below w.heap.size w w'):=by
 obtain ⟨n1,rfl⟩:∃ n:Nat,a1=(n:Int):=⟨a1.toNat,by omega⟩;obtain ⟨m1,rfl⟩:∃ n:Nat,b1=(n:Int):=⟨b1.toNat,by omega⟩;have h1:=validB_bd ha;have h2:=validB_bd hb;simp only at h1 h2;obtain ⟨n2,rfl⟩:∃ n:Nat,a2=(n:Int):=⟨a2.toNat,by omega⟩;obtain ⟨m2,rfl⟩:∃ n:Nat,b2=(n:Int):=⟨b2.toNat,by omega⟩;have HV1:=hid (fun W=>rValid_any (n1:Int) (n2:Int) W);have HV2:=hid (fun W=>rValid_any (m1:Int) (m2:Int) W);rw [ha] at HV1;rw [hb] at HV2;have HPW:=hid (fun W=>rPower_any m2 (by omega) W);have HMU:=hid (fun W=>rmul_any n1 (powP m2) W (by omega) (powP_lt _));have hmt:n1*powP m2 % pP<pP:=Nat.mod_lt _ pP_pos;have HAD:=hid (fun W=>rplus_any (n1*powP m2 % pP) m1 W (Nat.le_of_lt hmt) (by omega));rw [Nat.mod_add_mod] at HAD;have HR:Hid (joinP ((n1:Int),(n2:Int)) ((m1:Int),(m2:Int))=((((n1*powP m2+m1) % pP:Nat):Int),(n2:Int)+(m2:Int))):=rfl;rw [HR.out];obtain ⟨pw,HPE⟩:∃ x,Hid (powP m2=x):=⟨_,rfl⟩;rw [HPE.out] at HPW HMU HAD |-; obtain ⟨mu,HME⟩:∃ x,Hid (n1*pw % pP=x):=⟨_,rfl⟩;rw [HME.out] at HMU HAD;obtain ⟨sm,HSE⟩:∃ x,Hid ((n1*pw+m1) % pP=x):=⟨_,rfl⟩;rw [HSE.out] at HAD |-; clear hmt ha hb ha0 hb0 HR
 have S0:=hid ((((SW.refl (Sep.nil w (Nat.le_refl _))).newCell 36 #[.int .u64 (n1:Int),.int .i64 (n2:Int)]).newCellAt 36 #[.int .u64 (m1:Int),.int .i64 (m2:Int)] (H:=w.heap.size+1) (by simp)).newCellAt 36 #[.int .u64 0,.int .i64 0] (H:=w.heap.size+1+1) (by simp));go_enter Tryz.func38,Tryz.ntmps38;go_wp2_with (go_at_call 78;(with_reducible refine (HV1.out _).mono ?_);refine halt_ ?_)
 rintro e w1 ⟨rfl,hb1⟩;have S1:=hid (S0.out.on hb1);clear hb1 S0;have c0:=(S1.out.cell 2 rfl).cell 0;have c1:=(S1.out.cell 2 rfl).cell 1;have d0:=(S1.out.cell 1 rfl).cell 0;have d1:=(S1.out.cell 1 rfl).cell 1;go_wp2_with (go_at_call 78;(with_reducible refine (HV2.out _).mono ?_);refine halt_ ?_)
 rintro e w2 ⟨rfl,hb2⟩;have S2:=hid (S1.out.on hb2);clear hb2 S1 c0 c1 d0 d1;have c0:=(S2.out.cell 2 rfl).cell 0;have c1:=(S2.out.cell 2 rfl).cell 1;have d0:=(S2.out.cell 1 rfl).cell 0;have d1:=(S2.out.cell 1 rfl).cell 1;have hl0:=(S2.out.cell 2 rfl).lt;have hl1:=(S2.out.cell 1 rfl).lt;go_upto_region 5 with fail
 refine wp_region_ext_tail 15 (by kernel_rfl) (by kernel_rfl) ?_;simp only [List.take_succ_cons,List.take_zero,List.drop_succ_cons,List.drop_zero];repeat (go_big_quiet_step ((first | (go_at_call 81;exact ext_call ((HPW.out _).mono (fun e W h=>⟨h.1,h.2 ▸ Below.refl _ _⟩))) | (go_at_call 80;exact ext_call ((HMU.out _).mono (fun e W h=>⟨h.1,h.2 ▸ Below.refl _ _⟩))) | (go_at_call 79;exact ext_call ((HAD.out _).mono (fun e W h=>⟨h.1,h.2 ▸ Below.refl _ _⟩))))))
 refine wpQuiet_nil ?_;intro w3 hb3;have S3:=hid (S2.out.on hb3);clear hb3 S2 c0 c1 d0 d1;have e0:=(S3.out.cell 0 rfl).cell 0;have e1:=(S3.out.cell 0 rfl).cell 1;have f0:=fun o=>(S3.out.cell 0 rfl).frozen o;go_wp2_with fail
 have S4:Hid (SW w.heap.size w [cellOb (w.heap.size+1+1) 36 #[.int .u64 sm,.int .i64 ((n2:Int)+m2)],cellOb (w.heap.size+1) 36 #[.int .u64 (m1:Int),.int .i64 (m2:Int)],cellOb w.heap.size 36 #[.int .u64 (n1:Int),.int .i64 (n2:Int)]] ((w3.setCell ⟨w.heap.size+1+1,0,none⟩ (.int .u64 sm)).setCell ⟨w.heap.size+1+1,1,none⟩ (.int .i64 ((n2:Int)+m2)))):=(S3.out.setAt 0 rfl 0 (.int .u64 sm)).setAt 0 rfl 1 (.int .i64 ((n2:Int)+m2));clear S3 e0 e1 f0;obtain ⟨w4,HW4⟩:∃ W,Hid ((w3.setCell ⟨w.heap.size+1+1,0,none⟩ (.int .u64 sm)).setCell ⟨w.heap.size+1+1,1,none⟩ (.int .i64 ((n2:Int)+m2))=W):=⟨_,rfl⟩;rw [HW4.out] at S4 |-; have e0:w4.cell? ⟨w.heap.size+1+1,0,none⟩=some (.int .u64 sm):=(S4.out.cell 0 rfl).cell 0;have e1:w4.cell? ⟨w.heap.size+1+1,1,none⟩=some (.int .i64 ((n2:Int)+m2)):=(S4.out.cell 0 rfl).cell 1;have HBB:=hid S4.out.2;clear HW4 S4;(try simp only [Exit.inBlock,Exit.then])
 refine bodyPost_ret (v:=.tuple #[.agg #[.int .u64 sm,.int .i64 ((n2:Int)+m2)],.int .i64 0]) (by simp [results,Tryz.results38,go_sem,e0,e1,Result.andThen]) rfl ?_;exact ⟨rfl,HBB.out⟩
end Go.Proofs.YtmiknfneeipkeaaGreat
namespace Go.Proofs.YtmiknfneeipkeaaGreat
open Go.RowKit Go.MapKept Go.ChangeMaps
attribute [local go_sem] wext_cell
abbrev CT:=ID×Int
def encC (c:CT):List Value:=[.int .u64 c.1.1,.int .i64 c.1.2,.int .i64 c.2]
abbrev ct0:CT:=((0,0),0)
abbrev RdC (w:World) (x:Nat) (A:Option Addr) (t:List CT):Prop:=Rd encC 3 ct0 w x A t
theorem encC_len (c:CT):(encC c).length=3:=rfl
theorem encC_one (c:CT):∀ u∈encC c,u.oneCell'=true:=by
 intro u hu;simp [encC] at hu;rcases hu with rfl | rfl | rfl<;>rfl
abbrev Mp (w:World) (b:Nat) (L:List CT):Prop:=MapIs okID vID vN w b L
theorem zero3 (w:World):(zeroValue 3).run Tryz.prog w= .ok (.int .i64 0) w:=by kernel_rfl
def nAt (L:List CT) (i:ID):Int:=(asc L i).getD 0
theorem Mp.look {w:World} {b:Nat} {L:List CT} (h:Mp w b L) (s z:Int) (ha:okID (s,z)):(Instr.lookup 118 (.map (some b)) (.agg #[.int .u64 s,.int .i64 z]) false).run Tryz.prog w= .ok (.int .i64 (nAt L (s,z))) w:=by
 have:=MapIs.look mkI Tryz.underlying118 (zero3 w) h ha false;rw [show (Value.agg #[.int .u64 s,.int .i64 z])=vID (s,z) from rfl,this];unfold nAt;cases asc L (s,z)<;>simp
def putN (L:List CT) (i:ID) (n:Int):List CT:=setL L i (nAt L i+n)
theorem nAt_putN (L:List CT) (i j:ID) (n:Int):nAt (putN L i n) j=if i=j then nAt L i+n else nAt L j:=by
 unfold putN;conv=>lhs;unfold nAt
 rw [asc_setL];split<;>rfl
theorem Mp.step {W:World} {b:Nat} {L:List CT} (h:Mp W b L) (s z n:Int) (hok:okID (s,z)):
 ∃ (v0:Value) (st:Nat) (w1 w3:World),(Instr.lookup 118 (.map (some b)) (.agg #[.int .u64 s,.int .i64 z]) false).run Tryz.prog W.drew= .ok (.int .i64 (nAt L (s,z))) W.drew/\
  (Instr.mapEntry 118 (.map (some b)) (.agg #[.int .u64 s,.int .i64 z])).run Tryz.prog W.drew= .ok (.tuple #[v0,.int .i64 st]) w1/\
  (Instr.lookup 118 (.map (some b)) (.agg #[.int .u64 s,.int .i64 z]) false).run Tryz.prog w1= .ok (.int .i64 (nAt L (s,z))) w1/\
  (Instr.entryStore 118 (.map (some b)) (.int .i64 st) (.int .i64 (nAt L (s,z)+n))).run Tryz.prog w1= .ok () w3/\Mp w3 b (putN L (s,z) n)/\W.grownBy w3 (some b)/\w3.heap.size=W.heap.size:=by
 have hd:Mp W.drew b L:=h.same rfl;obtain ⟨v0,st,w1,e1,e2,e3,e4,e5⟩:=MapIs.entry mkI Tryz.underlying118 (z:=0) zero3 hd hok;obtain ⟨w3,f1,f2,f3,f4⟩:=e5 w1 (nAt L (s,z)+n) rfl;refine ⟨v0,st,w1,w3,hd.look s z hok,e1,?_,f1,f2,?_,f4.trans e3⟩
 · rw [Mp.look e4 s z hok]
   have:nAt (setL L (s,z) ((asc L (s,z)).getD 0)) (s,z)=nAt L (s,z):=by
    unfold nAt;rw [asc_setL,if_pos rfl];rfl
   rw [this]
 have g1:W.grownBy W.drew (some b):=⟨rfl,rfl,rfl,Nat.le_refl _,fun _ _ _=>rfl⟩;exact g_trans g1 (g_trans e2 f3)
def errM:List Man->Int
 | []=>0
 | m::ms=>if manE m=0 then errM ms else manE m
def addIDs (L:List CT) (l:List ID):List CT:=l.foldl (fun L i=>putN L i 1) L
theorem errM_snoc (ms:List Man) (m:Man) (h:errM ms=0):errM (ms++[m])=manE m:=by
 induction ms with
 | nil=>simp only [List.nil_append,errM];split<;>simp_all
 | cons a ms ih=>
  simp only [List.cons_append,errM] at h |-; split at h
  · rename_i e;rw [if_pos e];exact ih h
  rename_i e;exact absurd h e
theorem errM_more (ms l:List Man) (h:errM ms≠0):errM (ms++l)=errM ms:=by
 induction ms with
 | nil=>exact absurd rfl h
 | cons a ms ih=>
  simp only [List.cons_append,errM] at h |-; split
  · rename_i e;rw [if_pos e] at h;exact ih h
  rfl
theorem errM_at {ms:List Man} {k:Nat} (h:errM (ms.take k)=0) (hk:k<ms.length) (he:manE (ms.getD k man0)≠0):errM ms=manE (ms.getD k man0):=by
 have h1:=errM_snoc (ms.take k) (ms.getD k man0) h;rw [<- take_snoc _ _ _ hk] at h1;have h2:=errM_more (ms.take (k+1)) (ms.drop (k+1)) (by rw [h1];exact he);rw [List.take_append_drop,h1] at h2;exact h2
theorem manE_len {m:Man} (h:manE m=0):m.ids.length<=1024:=by
 unfold manE at h;split at h
 · cases h
 omega
theorem manE_all {m:Man} (h:manE m=0):m.ids.all chunkB=true:=by
 unfold manE at h;split at h
 · cases h
 split at h
 · cases h
 rename_i h2
 simpa using h2
end Go.Proofs.YtmiknfneeipkeaaGreat
