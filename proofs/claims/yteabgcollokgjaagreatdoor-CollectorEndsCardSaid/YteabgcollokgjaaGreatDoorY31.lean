/- Q -/
import Derived.Test.YteabgcollokgjaaGreatDoorY30
import Derived.Deep.RegionWith
set_option linter.unusedSimpArgs false
set_option linter.unusedVariables false
set_option maxRecDepth 100000
set_option maxHeartbeats 32000000
open Go.Lib (hid)
namespace Go.Proofs.YteabgcollokgjaaGreatDoor
section
open Go.RowKit Go.MapKept Go.ChangeMaps Go.Shelf Go.Sort
theorem set_same {α:Type}:∀ (L:List α) (i:Nat) (v:α),L[i]? =some v->L.set i v=L
 | [],_,_,h=>by simp at h
 | x::L,0,v,h=>by
  have h:x=v:=by simpa using h
  rw [List.set_cons_zero,h]
 | x::L,i+1,v,h=>by rw [List.set_cons_succ,set_same L i v (by simpa using h)]
abbrev CR.put (c:CR) (f:Nat) (s:Ses):CR:={ c with se:=c.se.set f s }
abbrev CR.ss (c:CR) (f:Nat):Ses:=c.se.getD f ses0
theorem co_cells (c:CR) (f:Nat) (s:Ses) (j:Nat) (u:Value) (hs:(c.se.set f s).flatMap Ses.cs=(c.se.flatMap Ses.cs).set (f*3+j) u):(c.put f s).cells=c.cells.setIfInBounds (2+f*3+j) u:=by
 show (Value.pointer (some ⟨c.ps,0,none⟩):: .slice c.A c.cand.length c.cap::(c.se.set f s).flatMap Ses.cs).toArray=(Value.pointer (some ⟨c.ps,0,none⟩):: .slice c.A c.cand.length c.cap::c.se.flatMap Ses.cs).toArray.setIfInBounds (2+f*3+j) u;rw [hs,List.setIfInBounds_toArray,show 2+f*3+j=(f*3+j)+1+1 by omega,List.set_cons_succ,List.set_cons_succ]
theorem ses_flat (se:List Ses) (f:Nat) (hf:f<se.length):(se.flatMap Ses.cs)[f*3]? =some (.int .i64 (se.getD f ses0).num)/\(se.flatMap Ses.cs)[f*3+1]? =some (.bool (se.getD f ses0).beg)/\(se.flatMap Ses.cs)[f*3+2]? =some (.map (se.getD f ses0).hm):=
 ⟨(ses_get se f 0 hf (by omega)).trans rfl,(ses_get se f 1 hf (by omega)).trans rfl,(ses_get se f 2 hf (by omega)).trans rfl⟩
theorem flat_num (se:List Ses) (f:Nat) (hf:f<se.length) (n:Int):(se.set f { se.getD f ses0 with num:=n }).flatMap Ses.cs=(se.flatMap Ses.cs).set (f*3+0) (.int .i64 n):=by
 obtain ⟨h0,h1,h2⟩:=ses_flat se f hf;rw [ses_set se f _ hf,Nat.add_zero,set_same ((se.flatMap Ses.cs).set (f*3) (.int .i64 n)) (f*3+1) _ (by rw [List.getElem?_set_ne (by omega)];exact h1),set_same ((se.flatMap Ses.cs).set (f*3) (.int .i64 n)) (f*3+2) _ (by rw [List.getElem?_set_ne (by omega)];exact h2)];rfl
theorem flat_beg (se:List Ses) (f:Nat) (hf:f<se.length) (b:Bool):(se.set f { se.getD f ses0 with beg:=b }).flatMap Ses.cs=(se.flatMap Ses.cs).set (f*3+1) (.bool b):=by
 obtain ⟨h0,h1,h2⟩:=ses_flat se f hf;rw [ses_set se f _ hf,set_same (se.flatMap Ses.cs) (f*3) _ h0,set_same ((se.flatMap Ses.cs).set (f*3+1) (.bool b)) (f*3+2) _ (by rw [List.getElem?_set_ne (by omega)];exact h2)]
theorem flat_hm (se:List Ses) (f:Nat) (hf:f<se.length) (m:Option Nat) (H:HL):(se.set f { se.getD f ses0 with hm:=m,H:=H }).flatMap Ses.cs=(se.flatMap Ses.cs).set (f*3+2) (.map m):=by
 obtain ⟨h0,h1,h2⟩:=ses_flat se f hf;rw [ses_set se f _ hf,set_same (se.flatMap Ses.cs) (f*3) _ h0,set_same (se.flatMap Ses.cs) (f*3+1) _ h1]
theorem flat_H (se:List Ses) (f:Nat) (hf:f<se.length) (H:HL):(se.set f { se.getD f ses0 with H:=H }).flatMap Ses.cs=se.flatMap Ses.cs:=by
 obtain ⟨h0,h1,h2⟩:=ses_flat se f hf;rw [ses_set se f _ hf,set_same (se.flatMap Ses.cs) (f*3) _ h0,set_same (se.flatMap Ses.cs) (f*3+1) _ h1,set_same (se.flatMap Ses.cs) (f*3+2) _ h2]
theorem ses_mem2 {se:List Ses} {f:Nat} {s x:Ses} (h:x∈se.set f s):x=s∨∃ i,i≠f/\i<se.length/\x=se.getD i ses0:=by
 obtain ⟨i,hi,rfl⟩:=List.getElem_of_mem h;rw [List.length_set] at hi;by_cases e:f=i
 · subst e;exact .inl (by rw [List.getElem_set_self])
 exact .inr ⟨i,fun h=>e h.symm,hi,by rw [List.getElem_set_ne e,List.getD_eq_getElem?_getD,List.getElem?_eq_getElem hi];rfl⟩
theorem ses_uniq {m:Nat}:∀ (se:List Ses) (i j:Nat),(se.filterMap Ses.hm).Nodup->i<j->j<se.length->(se.getD i ses0).hm=some m->(se.getD j ses0).hm=some m->False
 | [],_,_,_,_,h,_,_=>by simp at h
 | x::se,0,j+1,hn,_,hj,h1,h2=>by
  have h1:x.hm=some m:=h1;rw [List.filterMap_cons_some h1] at hn;have hj':j<se.length:=by simpa using hj
  exact (List.nodup_cons.1 hn).1 (List.mem_filterMap.2 ⟨_,ses_at hj',by simpa using h2⟩)
 | x::se,i+1,j+1,hn,hij,hj,h1,h2=>by
  refine ses_uniq se i j ?_ (by omega) (by simpa using hj) (by simpa using h1) (by simpa using h2);rw [List.filterMap_cons] at hn;cases hx:x.hm with
  | none=>rw [hx] at hn;exact hn
  | some k=>rw [hx] at hn;exact (List.nodup_cons.1 hn).2
 | _::_,_,0,_,h,_,_,_=>by omega
section
variable {b:Nat} {w0 w w':World} {l:List Ob} {c:CR}
theorem SW.coLen (h:SW b w0 (coOb c::l) w):c.se.length=16:=(h.get 0 (o:=coOb c) rfl).2.2.len
theorem SW.coOk (h:SW b w0 (coOb c::l) w):SesOk w c.se:=(h.get 0 (o:=coOb c) rfl).2.2
theorem SW.coNum (h:SW b w0 (coOb c::l) w) {f:Nat} (hf:f<16) (n:Int):SW b w0 (coOb (c.put f { c.ss f with num:=n })::l) (w.setCell ⟨c.cp,2+f*3,none⟩ (.int .i64 n)):=by
 have hl:=h.coLen;have ho:=h.coOk;have hm:=ses_at (se:=c.se) (f:=f) (by omega);refine h.coSet (2+f*3) (.int .i64 n) (co_cells c f _ 0 _ (flat_num c.se f (by omega) n)) rfl (by simp [hl]) (fun s hs m hm'=>?_) (fun s hs hm'=>?_) ?_ rfl (fun hr=>hr)
 · rcases ses_mem hs with rfl | hs
   · exact ⟨_,hm,hm',rfl⟩
   exact ⟨s,hs,hm',rfl⟩
 · rcases ses_mem hs with rfl | hs
   · exact ho.nomap (c.ss f) hm hm'
   exact ho.nomap s hs hm'
 exact (ses_eq c.se f { c.ss f with num:=n } rfl (by omega)) ▸ ho.uniq
theorem SW.coBeg (h:SW b w0 (coOb c::l) w) {f:Nat} (hf:f<16) (v:Bool):SW b w0 (coOb (c.put f { c.ss f with beg:=v })::l) (w.setCell ⟨c.cp,2+f*3+1,none⟩ (.bool v)):=by
 have hl:=h.coLen;have ho:=h.coOk;have hm:=ses_at (se:=c.se) (f:=f) (by omega);refine h.coSet (2+f*3+1) (.bool v) (co_cells c f _ 1 _ (flat_beg c.se f (by omega) v)) rfl (by simp [hl]) (fun s hs m hm'=>?_) (fun s hs hm'=>?_) ?_ rfl (fun hr=>hr)
 · rcases ses_mem hs with rfl | hs
   · exact ⟨_,hm,hm',rfl⟩
   exact ⟨s,hs,hm',rfl⟩
 · rcases ses_mem hs with rfl | hs
   · exact ho.nomap (c.ss f) hm hm'
   exact ho.nomap s hs hm'
 exact (ses_eq c.se f { c.ss f with beg:=v } rfl (by omega)) ▸ ho.uniq
theorem SW.coNil (h:SW b w0 (coOb c::l) w) {f:Nat} (hf:f<16):SW b w0 (coOb (c.put f { c.ss f with hm:=none,H:=[] })::l) (w.setCell ⟨c.cp,2+f*3+2,none⟩ (.map none)):=by
 have hl:=h.coLen;have ho:=h.coOk;refine h.coSet (2+f*3+2) (.map none) (co_cells c f _ 2 _ (flat_hm c.se f (by omega) none [])) rfl (by simp [hl]) (fun s hs m hm'=>?_) (fun s hs hm'=>?_) ((ses_sub c.se f _ rfl).nodup ho.uniq) rfl (fun hr=>hr)
 · rcases ses_mem hs with rfl | hs
   · cases hm'
   exact ⟨s,hs,hm',rfl⟩
 rcases ses_mem hs with rfl | hs
 · rfl
 exact ho.nomap s hs hm'
theorem SW.coMap {m:Nat} (h:SW b w0 (mpOb okID vID vU m ([]:HL)::coOb c::l) w) {f:Nat} (hf:f<16):SW b w0 (coOb (c.put f { c.ss f with hm:=some m,H:=[] })::l) (w.setCell ⟨c.cp,2+f*3+2,none⟩ (.map (some m))):=by
 have hh:=h.get 1 (o:=coOb c) rfl;have hmp:MapIs okID vID vU w m ([]:HL):=h.get 0 (o:=mpOb okID vID vU m ([]:HL)) rfl;have ho:SesOk w c.se:=hh.2.2;have hl:=ho.len;have hg:w.grownBy (w.setCell ⟨c.cp,2+f*3+2,none⟩ (.map (some m))) (some c.cp):=g_set (p:=⟨c.cp,2+f*3+2,none⟩) (g_refl _ _) (.inl rfl) _;obtain ⟨ha,hp⟩:=List.pairwise_cons.1 h.1.apart;have hap:=ha (coOb c) (List.mem_cons_self ..)
 have hnew:m ∉ c.se.filterMap Ses.hm:=fun hi=>by
  obtain ⟨s,hs,e⟩:=List.mem_filterMap.1 hi;exact (hap.1 m rfl).1 (.inr (.inr ⟨s,hs,e⟩))
 have hsz:(w.setCell ⟨c.cp,2+f*3+2,none⟩ (.map (some m))).heap.size=w.heap.size:=by simp [World.setCell]
 have hhold:(coOb (c.put f { c.ss f with hm:=some m,H:=[] })).holds (w.setCell ⟨c.cp,2+f*3+2,none⟩ (.map (some m))):=by
  refine ⟨?_,?_,by simp [hl],fun s hs k hk=>?_,fun s hs hk=>?_,ses_new c.se f _ m rfl hnew ho.uniq⟩
  · have:=hh.1.set_ (2+f*3+2) (.map (some m));rw [co_cells c f _ 2 _ (flat_hm c.se f (by omega) (some m) [])];exact this
  · obtain ⟨r1,r2,r3⟩:=hh.2.1;refine ⟨r1,r2,fun ad e=>?_⟩;obtain ⟨g,rfl,⟨cur,hi,hrr⟩,hlt⟩:=r3 ad e;refine ⟨g,rfl,⟨cur,hi.grown hg (fun e=>?_),hrr⟩,by rw [hsz];exact hlt⟩;injection e with e;exact is_ne hi (e ▸ hh.1) (by decide)
  · rcases ses_mem hs with rfl | hs
    · injection hk with hk;subst hk;exact hmp.kept hg (fun e=>map_is hmp (by injection e with e;rw [e];exact hh.1))
    exact (ho.map s hs k hk).kept hg (fun e=>map_is (ho.map s hs k hk) (by injection e with e;rw [e];exact hh.1))
  rcases ses_mem hs with rfl | hs
  · rfl
  exact ho.nomap s hs hk
 have hb:Below b w (w.setCell ⟨c.cp,2+f*3+2,none⟩ (.map (some m))):=⟨hg.os,hg.tape,hg.output,hg.size,fun i hi=>hg.block i (by have:=h.1.base;omega) (fun e=>by
  injection e with e;have:=(h.1.own (coOb c) (by simp) c.cp (.inl rfl)).1;omega)⟩
 refine ⟨⟨Nat.le_trans h.1.base hg.size,fun y hy=>?_,fun y hy i hi=>?_,fun y hy i hi=>?_,List.pairwise_cons.2 ⟨fun y hy=>?_,(List.pairwise_cons.1 hp).2⟩⟩,h.2.trans hb⟩
 · rcases List.mem_cons.1 hy with rfl | hy
   · exact hhold
   have h1:=(List.pairwise_cons.1 hp).1 y hy
   exact y.stable w _ (h.1.holds y (by simp [hy])) ⟨hg.os,hg.tape,hg.output,hg.size⟩ (fun i hi=>hg.block i (by
    rcases hi with hi | hi
    · exact (h.1.own y (by simp [hy]) i hi).2
    · exact h.1.rd y (by simp [hy]) i hi) (fun e=>by
    injection e with e;subst e;rcases hi with hi | hi
    · exact (h1.1 _ (.inl rfl)).1 hi
    exact (h1.1 _ (.inl rfl)).2 hi))
 · rw [hsz];rcases List.mem_cons.1 hy with rfl | hy
   · rcases hi with hi | hi | ⟨s,hs,hk⟩
     · exact h.1.own (coOb c) (by simp) i (.inl hi)
     · exact h.1.own (coOb c) (by simp) i (.inr (.inl hi))
     rcases ses_mem hs with rfl | hs
     · injection hk with hk;subst hk;exact h.1.own (mpOb okID vID vU m ([]:HL)) (by simp) m rfl
     exact h.1.own (coOb c) (by simp) i (.inr (.inr ⟨s,hs,hk⟩))
   exact h.1.own y (by simp [hy]) i hi
 · rw [hsz];rcases List.mem_cons.1 hy with rfl | hy
   · exact hi.elim
   exact h.1.rd y (by simp [hy]) i hi
 have h1:=(List.pairwise_cons.1 hp).1 y hy;have h2:=ha y (List.mem_cons_of_mem _ hy);refine ⟨fun i hi=>?_,fun i hi hr=>hr.elim⟩;rcases hi with hi | hi | ⟨s,hs,hk⟩
 · exact h1.1 i (.inl hi)
 · exact h1.1 i (.inr (.inl hi))
 rcases ses_mem hs with rfl | hs
 · injection hk with hk;subst hk;exact h2.1 m rfl
 exact h1.1 i (.inr (.inr ⟨s,hs,hk⟩))
theorem SW.coUpd (h:SW b w0 (coOb c::l) w) {f m:Nat} (hf:f<16) (hm:(c.ss f).hm=some m) {H':HL} (hM:MapIs okID vID vU w' m H') (hg:w.grownBy w' (some m)):SW b w0 (coOb (c.put f { c.ss f with H:=H' })::l) w':=by
 have hh:=h.get 0 (o:=coOb c) rfl;have ho:SesOk w c.se:=hh.2.2;have hl:=ho.len;have hat:=ses_at (se:=c.se) (f:=f) (by omega);have hmp:=ho.map _ hat m hm;have hmo:(coOb c).own m:=.inr (.inr ⟨_,hat,hm⟩)
 have hnew:(coOb (c.put f { c.ss f with H:=H' })).holds w':=by
  refine ⟨?_,?_,by simp [hl],fun s hs k hk=>?_,fun s hs hk=>?_,(ses_eq c.se f { c.ss f with H:=H' } rfl (by omega)) ▸ ho.uniq⟩
  · have:=hh.1.grown hg (fun e=>map_is hmp (by injection e with e;rw [<- e];exact hh.1))
    have e:(c.put f { c.ss f with H:=H' }).cells=c.cells:=by
     show (Value.pointer (some ⟨c.ps,0,none⟩):: .slice c.A c.cand.length c.cap::(c.se.set f { c.ss f with H:=H' }).flatMap Ses.cs).toArray=_;rw [flat_H c.se f (by omega)]
    rw [e];exact this
  · obtain ⟨r1,r2,r3⟩:=hh.2.1;refine ⟨r1,r2,fun ad e=>?_⟩;obtain ⟨g,rfl,⟨cur,hi,hrr⟩,hlt⟩:=r3 ad e;refine ⟨g,rfl,⟨cur,hi.grown hg (fun e=>map_is hmp (by injection e with e;rw [<- e];exact hi)),hrr⟩,Nat.lt_of_lt_of_le hlt hg.size⟩
  · have hs2:=ses_mem2 hs;by_cases hns:s={ c.ss f with H:=H' }
    · subst hns;have hk:(c.ss f).hm=some k:=hk;rw [hm] at hk;injection hk with hk;subst hk;exact hM
    have hs:s∈c.se:=by
     rcases ses_mem hs with e | hs
     · exact absurd e hns
     exact hs
    exact (ho.map s hs k hk).kept hg (fun e2=>by
     injection e2 with e2;subst e2;rcases hs2 with e3 | ⟨i,hi1,hi2,rfl⟩
     · exact hns e3
     rcases Nat.lt_or_gt_of_ne hi1 with hlt | hlt
     · exact ses_uniq c.se i f ho.uniq hlt (by omega) hk hm
     exact ses_uniq c.se f i ho.uniq hlt hi2 hm hk)
  rcases ses_mem hs with rfl | hs
  · have hk:(c.ss f).hm=none:=hk;rw [hm] at hk;cases hk
  exact ho.nomap s hs hk
 have:=h.1.step (o:=coOb c) (o':=coOb (c.put f { c.ss f with H:=H' })) (Fr.grown hg hmo (fun i hi=> .inl (by
  rcases hi with hi | hi | ⟨s,hs,hk⟩
  · exact .inl hi
  · exact .inr (.inl hi)
  · rcases ses_mem hs with rfl | hs
    · exact .inr (.inr ⟨_,hat,hk⟩)
    exact .inr (.inr ⟨s,hs,hk⟩)))) (fun i hi=>hi.elim) hnew (fun i hi=>by
  rcases hi with hi | hi
  · exact coOb_lt hnew hi
  exact hi.elim)
 exact ⟨this.1,h.2.trans this.2⟩
end
section
variable {b:Nat} {w0 w:World} {l:List Ob} {c:CR}
theorem Keep_any (h:SW b w0 (coOb c::l) w) (A:Option Addr) (cap:Nat) (ids:List ID) (hA:riOb A ids∈l) (hi:∀ i∈ids,okID i) (hc:∀ i∈c.cand,okID i) (hl:ids.length<=100000) (hl2:c.cand.length<=100000):
 Calls Tryz.prog 75 #[vPtr c.cp,.slice A ids.length cap] w (fun e w'=>e= .returned (.tuple #[])/\SW b w0 (coOb { c with cand:=lessL (setI ids) c.cand }::l) w'):=by
 have H:=hid h;have HS:=hid (fun cc=>set_any h A cc ids (List.mem_cons_of_mem _ hA) hi hl);have HC:=hid hc;have HL:=hid hl2;clear h hA hi hc hl hl2;go_enter Tryz.func75,Tryz.ntmps75;go_wp2_with (go_at_call 113;(with_reducible refine (HS.out _).mono ?_);rintro e w1 ⟨rfl,s1⟩;have S1:Hid (SW b w0 (coOb c::mpOb okID vID vU w.heap.size (setI ids)::l) w1):=SW.front (pre:=[_,_]) s1 [1,0] (n:=2) rfl (by decide);clear s1)
 go_wp2_with (go_at_call 112;(with_reducible refine (drop_any S1.out HC.out HL.out).mono ?_);rintro e w2 ⟨rfl,s2⟩;have S2:Hid (SW b w0 (coOb { c with cand:=lessL (setI ids) c.cand }::l) w2):=(SW.front (pre:=[_,_]) s2 [1,0] (n:=2) rfl (by decide)).tail;clear s2)
 go_end0;exact ⟨rfl,S2.out⟩
end
section
variable {b:Nat} {w0 w:World} {l:List Ob} {c:CR}
abbrev pNum (N:Int):Ses->Bool:=fun s=>s.beg&&(s.num==N)
abbrev CR.ended (c:CR) (f:Nat):CR:=(c.put f { c.ss f with beg:=false }).put f { (c.put f { c.ss f with beg:=false }).ss f with hm:=none,H:=[] }
theorem End_none (h:SW b w0 (coOb c::l) w) (N:Int) (ho:fiO (pNum N) c.se=none):
 Calls Tryz.prog 67 #[vPtr c.cp,.int .i64 N] w (fun e w'=>e= .returned (.int .i64 401)/\SW b w0 (coOb c::l) w'):=by
 have H:=hid h;have HF:=hid (find_any (h.get 0 (o:=coOb c) rfl) N);have hv:fiV (pNum N) c.se= -1:=by unfold fiV;rw [ho]
 rw [hv] at HF;clear h ho hv;go_enter Tryz.func67,Tryz.ntmps67;go_wp2_with (go_at_call 119;(with_reducible refine HF.out.mono ?_);rintro e w1 ⟨rfl,hb1⟩;have S1:=hid (H.out.on hb1);clear hb1)
 go_ret;exact ⟨rfl,S1.out⟩
theorem End_some (h:SW b w0 (coOb c::l) w) (N:Int) (f:Nat) (ho:fiO (pNum N) c.se=some f):
 Calls Tryz.prog 67 #[vPtr c.cp,.int .i64 N] w (fun e w'=>e= .returned (.int .i64 0)/\SW b w0 (coOb (c.ended f)::l) w'):=by
 have H:=hid h;have HF:=hid (find_any (h.get 0 (o:=coOb c) rfl) N);have hv:fiV (pNum N) c.se=(f:Int):=by unfold fiV;rw [ho]
 have hf:f<16:=by rw [<- h.coLen];exact (fiO_lt ho).1
 rw [hv] at HF;clear h ho hv;go_enter Tryz.func67,Tryz.ntmps67;go_wp2_with (go_at_call 119;(with_reducible refine HF.out.mono ?_);rintro e w1 ⟨rfl,hb1⟩;have S1:=hid (H.out.on hb1);clear hb1)
 have hh:=S1.out.get 0 (o:=coOb c) rfl;obtain ⟨a0,a1,a2⟩:=CR.ses hh hf;have z1:w1.frozen? ⟨c.cp,2+f*3+1,none⟩=false:=hh.1.frozen _;have z2:w1.frozen? ⟨c.cp,2+f*3+2,none⟩=false:=hh.1.frozen _;clear hh;go_region
 go_wp2_with fail
 go_ret;exact ⟨rfl,((S1.out.coBeg hf false).coNil hf).drew⟩
end
section
variable {b:Nat} {w0 w:World} {l:List Ob} {c:CR}
abbrev pFree:Ses->Bool:=fun s=> !s.beg
abbrev CR.bg (c:CR) (f:Nat) (N:Int):CR:=(c.put f { c.ss f with num:=N }).put f { (c.put f { c.ss f with num:=N }).ss f with beg:=true }
abbrev CR.begun (c:CR) (f:Nat) (N:Int) (m:Nat):CR:=(c.bg f N).put f { (c.bg f N).ss f with hm:=some m,H:=[] }
theorem Begin_neg (h:SW b w0 (coOb c::l) w) (N:Int) (hN:N<0):
 Calls Tryz.prog 71 #[vPtr c.cp,.int .i64 N] w (fun e w'=>e= .returned (.int .i64 401)/\SW b w0 (coOb c::l) w'):=by
 have H:=hid h;have HF:=hid (index123 (h.get 0 (o:=coOb c) rfl));have hN':decide (N<0)=true:=decide_eq_true hN;clear h;go_enter Tryz.func71,Tryz.ntmps71;go_wp2_with (go_at_call 122;(with_reducible refine HF.out.mono ?_);rintro e w1 ⟨rfl,hb1⟩;have S1:=hid (H.out.on hb1);clear hb1)
 go_ret;exact ⟨rfl,S1.out⟩
theorem Begin_full (h:SW b w0 (coOb c::l) w) (N:Int) (hN:0<=N) (ho:fiO pFree c.se=none):
 Calls Tryz.prog 71 #[vPtr c.cp,.int .i64 N] w (fun e w'=>e= .returned (.int .i64 401)/\SW b w0 (coOb c::l) w'):=by
 have H:=hid h;have HF:=hid (index123 (h.get 0 (o:=coOb c) rfl));have hv:fiV pFree c.se= -1:=by unfold fiV;rw [ho]
 rw [hv] at HF;have hN':decide (N<0)=false:=decide_eq_false (by omega);clear h ho hv;go_enter Tryz.func71,Tryz.ntmps71;go_wp2_with (go_at_call 122;(with_reducible refine HF.out.mono ?_);rintro e w1 ⟨rfl,hb1⟩;have S1:=hid (H.out.on hb1);clear hb1)
 go_ret;exact ⟨rfl,S1.out⟩
theorem Begin_twice (h:SW b w0 (coOb c::l) w) (N:Int) (hN:0<=N) (f g:Nat) (ho:fiO pFree c.se=some f) (hg:fiO (pNum N) c.se=some g):
 Calls Tryz.prog 71 #[vPtr c.cp,.int .i64 N] w (fun e w'=>e= .returned (.int .i64 401)/\SW b w0 (coOb c::l) w'):=by
 have H:=hid h;have HF:=hid (index123 (h.get 0 (o:=coOb c) rfl));have hv:fiV pFree c.se=(f:Int):=by unfold fiV;rw [ho]
 have hf:f<16:=by rw [<- h.coLen];exact (fiO_lt ho).1
 have hg16:g<16:=by rw [<- h.coLen];exact (fiO_lt hg).1
 rw [hv] at HF;have HG:=hid (fun (w1:World) (s1:SW b w0 (coOb c::l) w1)=>find_any (s1.get 0 (o:=coOb c) rfl) N);have hv2:fiV (pNum N) c.se=(g:Int):=by unfold fiV;rw [hg]
 rw [hv2] at HG;have hN':decide (N<0)=false:=decide_eq_false (by omega);have hd2:decide (((f:Nat):Int)<0)=false:=decide_eq_false (by omega);have hd3:decide (((g:Nat):Int)>=0)=true:=decide_eq_true (by omega);clear h ho hv hg hv2;go_enter Tryz.func71,Tryz.ntmps71;go_wp2_with (go_at_call 122;(with_reducible refine HF.out.mono ?_);rintro e w1 ⟨rfl,hb1⟩;have S1:=hid (H.out.on hb1);clear hb1)
 go_wp2_with (go_at_call 119;(with_reducible refine (HG.out _ S1.out).mono ?_);rintro e w2 ⟨rfl,hb2⟩;have S2:=hid (S1.out.on hb2);clear hb2)
 go_ret;exact ⟨rfl,S2.out⟩
theorem Begin_new (h:SW b w0 (coOb c::l) w) (N:Int) (hN:0<=N) (f:Nat) (ho:fiO pFree c.se=some f) (hg:fiO (pNum N) c.se=none):
 Calls Tryz.prog 71 #[vPtr c.cp,.int .i64 N] w (fun e w'=>e= .returned (.int .i64 0)/\∃ m,SW b w0 (coOb (c.begun f N m)::l) w'):=by
 have H:=hid h;have HF:=hid (index123 (h.get 0 (o:=coOb c) rfl));have hv:fiV pFree c.se=(f:Int):=by unfold fiV;rw [ho]
 have hf:f<16:=by rw [<- h.coLen];exact (fiO_lt ho).1
 rw [hv] at HF;have HG:=hid (fun (w1:World) (s1:SW b w0 (coOb c::l) w1)=>find_any (s1.get 0 (o:=coOb c) rfl) N);have hv2:fiV (pNum N) c.se= -1:=by unfold fiV;rw [hg]
 rw [hv2] at HG;have hN':decide (N<0)=false:=decide_eq_false (by omega);have hd2:decide (((f:Nat):Int)<0)=false:=decide_eq_false (by omega);clear h ho hv hg hv2;go_enter Tryz.func71,Tryz.ntmps71;go_wp2_with (go_at_call 122;(with_reducible refine HF.out.mono ?_);rintro e w1 ⟨rfl,hb1⟩;have S1:=hid (H.out.on hb1);clear hb1)
 go_wp2_with (go_at_call 119;(with_reducible refine (HG.out _ S1.out).mono ?_);rintro e w2 ⟨rfl,hb2⟩;have S2:=hid (S1.out.on hb2);clear hb2)
 have hh:=S2.out.get 0 (o:=coOb c) rfl;obtain ⟨a0,a1,a2⟩:=CR.ses hh hf;have z0:w2.frozen? ⟨c.cp,2+f*3,none⟩=false:=hh.1.frozen _;have z1:w2.frozen? ⟨c.cp,2+f*3+1,none⟩=false:=hh.1.frozen _;clear hh;go_region
 have S3:Hid (SW b w0 (coOb (c.bg f N)::l) _):=hid (((S2.out.coNum hf N).coBeg hf true).drew);clear a0 a1 a2 z0 z1;generalize World.drew _=W at S3 |-; have S4:Hid (SW b w0 (mpOb okID vID vU W.heap.size ([]:HL)::coOb (c.bg f N)::l) (W.alloc (.map #[] 0))):=S3.out.addMp;have hh:=S4.out.get 1 (o:=coOb (c.bg f N)) rfl;obtain ⟨v,a2⟩:∃ v,(W.alloc (.map #[] 0)).cell? ⟨c.cp,2+f*3+2,none⟩=some v:=⟨_,(CR.ses hh hf).2.2⟩;have z2:(W.alloc (.map #[] 0)).frozen? ⟨c.cp,2+f*3+2,none⟩=false:=hh.1.frozen _;clear hh;have hmk:(Instr.makeMap 178 none).run Tryz.prog W= .ok (.map (some W.heap.size)) (W.alloc (.map #[] 0)):=rfl;go_wp2_with fail
 go_ret;exact ⟨rfl,_,S4.out.coMap hf⟩
end
section
variable {b:Nat} {w0 w:World} {l:List Ob} {c:CR}
theorem Left_any (h:SW b w0 (coOb c::l) w):Calls Tryz.prog 63 #[vPtr c.cp] w (fun e w'=>e= .returned (.int .i64 (c.cand.length:Int))/\SW b w0 (coOb c::l) w'):=by
 have H:=hid h;have k1:=CR.cell1 (h.get 0 (o:=coOb c) rfl);clear h;go_enter Tryz.func63,Tryz.ntmps63;go_wp2_with fail
 go_ret;exact ⟨rfl,H.out⟩
abbrev HasC (b:Nat) (w0:World) (c:CR) (l:List Ob) (i:ID) (v:Bool):Prop:=∀ w',SW b w0 (coOb c::l) w'->Calls Tryz.prog 46 #[vPtr c.ps,.agg #[.int .u64 i.1,.int .i64 i.2]] w' (fun e w''=>e= .returned (.bool v)/\Below w'.heap.size w' w'')
theorem Touch_none (h:SW b w0 (coOb c::l) w) (N:Int) (ho:fiO (pNum N) c.se=none) (i:ID):
 Calls Tryz.prog 73 #[vPtr c.cp,.int .i64 N,.agg #[.int .u64 i.1,.int .i64 i.2]] w (fun e w'=>e= .returned (.tuple #[.bool false,.int .i64 401])/\SW b w0 (coOb c::l) w'):=by
 have H:=hid (h.newCell 31 #[.int .u64 i.1,.int .i64 i.2]);have HF:=hid (find_any (H.out.get 1 (o:=coOb c) rfl) N);have hv:fiV (pNum N) c.se= -1:=by unfold fiV;rw [ho]
 rw [hv] at HF;clear h ho hv;go_enter Tryz.func73,Tryz.ntmps73;go_wp2_with (go_at_call 119;(with_reducible refine HF.out.mono ?_);rintro e w1 ⟨rfl,hb1⟩;have S1:=hid (H.out.on hb1);clear hb1)
 go_ret2;exact ⟨rfl,S1.out.tail⟩
theorem Touch_lost (h:SW b w0 (coOb c::l) w) (N:Int) (f:Nat) (ho:fiO (pNum N) c.se=some f) (i:ID) (HH:HasC b w0 c l i false):
 Calls Tryz.prog 73 #[vPtr c.cp,.int .i64 N,.agg #[.int .u64 i.1,.int .i64 i.2]] w (fun e w'=>e= .returned (.tuple #[.bool false,.int .i64 0])/\SW b w0 (coOb c::l) w'):=by
 have H:=hid (h.newCell 31 #[.int .u64 i.1,.int .i64 i.2]);have HF:=hid (find_any (H.out.get 1 (o:=coOb c) rfl) N);have hv:fiV (pNum N) c.se=(f:Int):=by unfold fiV;rw [ho]
 have hf:f<16:=by rw [<- h.coLen];exact (fiO_lt ho).1
 rw [hv] at HF;have HH:=hid HH;clear h ho hv;go_enter Tryz.func73,Tryz.ntmps73;go_wp2_with (go_at_call 119;(with_reducible refine HF.out.mono ?_);rintro e w1 ⟨rfl,hb1⟩;have S1:=hid (H.out.on hb1);clear hb1)
 have k0:=CR.cell0 (S1.out.get 1 (o:=coOb c) rfl);have d0:=(S1.out.cell 0 rfl).cell 0;have d1:=(S1.out.cell 0 rfl).cell 1;go_region_with (go_at_call 46;(with_reducible refine (HH.out _ S1.out.drew.tail).mono ?_);rintro e w2 ⟨rfl,hb2⟩;have S2:=hid (S1.out.drew.on hb2);clear hb2)
 all_goals (go_wp2_with fail;go_ret2;exact ⟨rfl,S2.out.tail⟩)
end
section
variable {b:Nat} {w0 w:World} {l:List Ob} {c:CR}
theorem Touch_held (h:SW b w0 (coOb c::l) w) (N:Int) (f:Nat) (ho:fiO (pNum N) c.se=some f) (m:Nat) (hm:(c.ss f).hm=some m) (i:ID) (hi:okID i) (HH:HasC b w0 c l i true):
 Calls Tryz.prog 73 #[vPtr c.cp,.int .i64 N,.agg #[.int .u64 i.1,.int .i64 i.2]] w (fun e w'=>e= .returned (.tuple #[.bool true,.int .i64 0])/\SW b w0 (coOb (c.put f { c.ss f with H:=setL (c.ss f).H i () })::l) w'):=by
 have H:=hid (h.newCell 31 #[.int .u64 i.1,.int .i64 i.2]);have HF:=hid (find_any (H.out.get 1 (o:=coOb c) rfl) N);have hv:fiV (pNum N) c.se=(f:Int):=by unfold fiV;rw [ho]
 have hf:f<16:=by rw [<- h.coLen];exact (fiO_lt ho).1
 rw [hv] at HF;have HH:=hid HH;have HM:=hid hm;have HI:=hid hi;clear h ho hv hm hi;go_enter Tryz.func73,Tryz.ntmps73;go_wp2_with (go_at_call 119;(with_reducible refine HF.out.mono ?_);rintro e w1 ⟨rfl,hb1⟩;have S1:=hid (H.out.on hb1);clear hb1)
 have k0:=CR.cell0 (S1.out.get 1 (o:=coOb c) rfl);have d0:=(S1.out.cell 0 rfl).cell 0;have d1:=(S1.out.cell 0 rfl).cell 1;go_region_with (go_at_call 46;(with_reducible refine (HH.out _ S1.out.drew.tail).mono ?_);rintro e w2 ⟨rfl,hb2⟩;have S2:=hid (S1.out.drew.on hb2);clear hb2)
 all_goals
  have S3:=hid S2.out.drew;have hh:=S3.out.get 1 (o:=coOb c) rfl;obtain ⟨a0,a1,a2⟩:=CR.ses hh hf;rw [HM.out] at a2;have c0:=(S3.out.cell 0 rfl).cell 0;have c1:=(S3.out.cell 0 rfl).cell 1;obtain ⟨w4,hu,hm4,hg4,hz4⟩:=MapIs.update mkI Tryz.underlying178 (hh.2.2.map _ (ses_at (se:=c.se) (f:=f) (by rw [hh.2.2.len];exact hf)) m HM.out) HI.out ();have hu':(Instr.mapUpdate 178 (.map (some m)) (.agg #[.int .u64 i.1,.int .i64 i.2]) (.agg #[])).run Tryz.prog w2.drew= .ok () w4:=hu;have S4:=hid (S3.out.tail.coUpd hf HM.out hm4 hg4);clear hu hm4 hg4 hh;have hfi:((f:Nat):Int)<16:=by omega
  go_upto_region 6 with fail
  go_region
 all_goals (go_wp2_with fail;go_ret2;exact ⟨rfl,S4.out⟩)
end
section
variable {b:Nat} {w0 w:World} {l l':List Ob} {c:CR}
abbrev PutC (b:Nat) (w0:World) (c:CR) (l:List Ob) (Φ:List Ob->Prop) (V:Value) (i:ID) (code:Int):Prop:=∀ (o:Ob) (w':World),SW b w0 (o::coOb c::l) w'->Calls Tryz.prog 23 #[vPtr c.ps,V] w' (fun e w''=>e= .returned (.tuple #[.agg #[.int .u64 i.1,.int .i64 i.2],.int .i64 code])/\∃ l',Φ l'/\SW b w0 (o::coOb c::l') w'')
theorem CPut_none (h:SW b w0 (coOb c::l) w) (N:Int) (ho:fiO (pNum N) c.se=none) (V:Value):
 Calls Tryz.prog 72 #[vPtr c.cp,.int .i64 N,V] w (fun e w'=>e= .returned (.tuple #[.agg #[.int .u64 0,.int .i64 0],.int .i64 401])/\SW b w0 (coOb c::l) w'):=by
 have H:=hid (h.newCell 31 #[.int .u64 0,.int .i64 0]);have HF:=hid (find_any (H.out.get 1 (o:=coOb c) rfl) N);have hv:fiV (pNum N) c.se= -1:=by unfold fiV;rw [ho]
 rw [hv] at HF;clear h ho hv;go_enter Tryz.func72,Tryz.ntmps72;go_wp2_with (go_at_call 119;(with_reducible refine HF.out.mono ?_);rintro e w1 ⟨rfl,hb1⟩;have S1:=hid (H.out.on hb1);clear hb1;have d0:=(S1.out.cell 0 rfl).cell 0;have d1:=(S1.out.cell 0 rfl).cell 1;have f0:=(S1.out.cell 0 rfl).frozen 0;have f1:=(S1.out.cell 0 rfl).frozen 1)
 have S2:=hid ((S1.out.setAt 0 rfl 0 (.int .u64 0)).setAt 0 rfl 1 (.int .i64 0));have e0:=(S2.out.cell 0 rfl).cell 0;have e1:=(S2.out.cell 0 rfl).cell 1;generalize ((w1.setCell ⟨w.heap.size,0,none⟩ (.int .u64 0)).setCell ⟨w.heap.size,1,none⟩ (.int .i64 0))=W at S2 e0 e1 |-; refine bodyPost_ret (v:=.tuple #[.agg #[.int .u64 0,.int .i64 0],.int .i64 401]) ?_ rfl ⟨rfl,S2.out.tail⟩;simp [results,Tryz.results72,go_sem,e0,e1]
end
section
variable {b:Nat} {w0 w:World} {l:List Ob} {Φ:List Ob->Prop} {c:CR}
theorem CPut_err (h:SW b w0 (coOb c::l) w) (N:Int) (f:Nat) (ho:fiO (pNum N) c.se=some f) (V:Value) (i:ID) (code:Int) (hc:code≠0) (HP:PutC b w0 c l Φ V i code):
 Calls Tryz.prog 72 #[vPtr c.cp,.int .i64 N,V] w (fun e w'=>e= .returned (.tuple #[.agg #[.int .u64 0,.int .i64 0],.int .i64 code])/\∃ l',Φ l'/\SW b w0 (coOb c::l') w'):=by
 have H:=hid (h.newCell 31 #[.int .u64 0,.int .i64 0]);have HF:=hid (find_any (H.out.get 1 (o:=coOb c) rfl) N);have hv:fiV (pNum N) c.se=(f:Int):=by unfold fiV;rw [ho]
 have hf:f<16:=by rw [<- h.coLen];exact (fiO_lt ho).1
 rw [hv] at HF;have HP:=hid HP;have hcd:decide (code=0)=false:=decide_eq_false hc;clear h ho hv;go_enter Tryz.func72,Tryz.ntmps72;go_wp2_with (go_at_call 119;(with_reducible refine HF.out.mono ?_);rintro e w1 ⟨rfl,hb1⟩;have S1:=hid (H.out.on hb1);clear hb1;have k0:=CR.cell0 (S1.out.get 1 (o:=coOb c) rfl))
 go_wp2_with (go_at_call 23;(with_reducible refine (HP.out _ _ S1.out).mono ?_);rintro e w2 ⟨rfl,l',hl',s2⟩;have HL:=hid hl';clear hl';have S3:=hid (s2.newCell 31 #[.int .u64 i.1,.int .i64 i.2]);clear s2;have d0:=(S3.out.cell 1 rfl).cell 0;have d1:=(S3.out.cell 1 rfl).cell 1;have f0:=(S3.out.cell 1 rfl).frozen 0;have f1:=(S3.out.cell 1 rfl).frozen 1)
 have S4:=hid ((S3.out.setAt 1 rfl 0 (.int .u64 0)).setAt 1 rfl 1 (.int .i64 0));have e0:=(S4.out.cell 1 rfl).cell 0;have e1:=(S4.out.cell 1 rfl).cell 1;generalize (((w2.alloc (.cells #[.int .u64 i.1,.int .i64 i.2] 31)).setCell ⟨w.heap.size,0,none⟩ (.int .u64 0)).setCell ⟨w.heap.size,1,none⟩ (.int .i64 0))=W at S4 e0 e1 |-; refine bodyPost_ret (v:=.tuple #[.agg #[.int .u64 0,.int .i64 0],.int .i64 code]) ?_ rfl ⟨rfl,l',HL.out,S4.out.tail.tail⟩;simp [results,Tryz.results72,go_sem,e0,e1]
end
section
variable {b:Nat} {w0 w:World} {l:List Ob} {Φ:List Ob->Prop} {c:CR}
theorem CPut_ok (h:SW b w0 (coOb c::l) w) (N:Int) (f:Nat) (ho:fiO (pNum N) c.se=some f) (m:Nat) (hm:(c.ss f).hm=some m) (V:Value) (i:ID) (hi:okID i) (HP:PutC b w0 c l Φ V i 0):
 Calls Tryz.prog 72 #[vPtr c.cp,.int .i64 N,V] w (fun e w'=>e= .returned (.tuple #[.agg #[.int .u64 i.1,.int .i64 i.2],.int .i64 0])/\∃ l',Φ l'/\SW b w0 (coOb (c.put f { c.ss f with H:=setL (c.ss f).H i () })::l') w'):=by
 have H:=hid (h.newCell 31 #[.int .u64 0,.int .i64 0]);have HF:=hid (find_any (H.out.get 1 (o:=coOb c) rfl) N);have hv:fiV (pNum N) c.se=(f:Int):=by unfold fiV;rw [ho]
 have hf:f<16:=by rw [<- h.coLen];exact (fiO_lt ho).1
 rw [hv] at HF;have HP:=hid HP;have HM:=hid hm;have HI:=hid hi;clear h ho hv hm hi;go_enter Tryz.func72,Tryz.ntmps72;go_wp2_with (go_at_call 119;(with_reducible refine HF.out.mono ?_);rintro e w1 ⟨rfl,hb1⟩;have S1:=hid (H.out.on hb1);clear hb1;have k0:=CR.cell0 (S1.out.get 1 (o:=coOb c) rfl))
 go_wp2_with (go_at_call 23;(with_reducible refine (HP.out _ _ S1.out).mono ?_);rintro e w2 ⟨rfl,l',hl',s2⟩;have HL:=hid hl';clear hl';have S2:=hid (s2.newCell 31 #[.int .u64 i.1,.int .i64 i.2]);clear s2)
 generalize w2.alloc (.cells #[.int .u64 i.1,.int .i64 i.2] 31)=w3 at S2 |-; have S3:=hid S2.out.drew;have hh:=S3.out.get 2 (o:=coOb c) rfl;obtain ⟨a0,a1,a2⟩:=CR.ses hh hf;rw [HM.out] at a2;have c0:=(S3.out.cell 0 rfl).cell 0;have c1:=(S3.out.cell 0 rfl).cell 1;obtain ⟨w4,hu,hm4,hg4,hz4⟩:=MapIs.update mkI Tryz.underlying178 (hh.2.2.map _ (ses_at (se:=c.se) (f:=f) (by rw [hh.2.2.len];exact hf)) m HM.out) HI.out ();have hu':(Instr.mapUpdate 178 (.map (some m)) (.agg #[.int .u64 i.1,.int .i64 i.2]) (.agg #[])).run Tryz.prog w3.drew= .ok () w4:=hu;have S4:=hid ((SW.front (pre:=[_,_,_]) S3.out [2,0,1] (n:=3) rfl (by decide)).coUpd hf HM.out hm4 hg4);clear hu hm4 hg4 hh;have hfi:((f:Nat):Int)<16:=by omega
 go_region
 have g0:=(S4.out.cell 1 rfl).cell 0;have g1:=(S4.out.cell 1 rfl).cell 1;have d0:=(S4.out.cell 2 rfl).cell 0;have d1:=(S4.out.cell 2 rfl).cell 1;have f0:=(S4.out.cell 2 rfl).frozen 0;have f1:=(S4.out.cell 2 rfl).frozen 1;go_wp2_with fail
 have S5:=hid ((S4.out.setAt 2 rfl 0 (.int .u64 i.1)).setAt 2 rfl 1 (.int .i64 i.2));have e0:=(S5.out.cell 2 rfl).cell 0;have e1:=(S5.out.cell 2 rfl).cell 1;generalize ((w4.setCell ⟨w.heap.size,0,none⟩ (.int .u64 i.1)).setCell ⟨w.heap.size,1,none⟩ (.int .i64 i.2))=W at S5 e0 e1 |-; refine bodyPost_ret (v:=.tuple #[.agg #[.int .u64 i.1,.int .i64 i.2],.int .i64 0]) ?_ rfl ⟨rfl,l',HL.out,(SW.front (pre:=[_,_,_]) S5.out [1,2,0] (n:=3) rfl (by decide)).tail.tail⟩;simp [results,Tryz.results72,go_sem,e0,e1]
end
section
variable {b:Nat} {w0 w:World} {l l':List Ob} {c:CR}
theorem run_load181 (h:(coOb c).holds w):(Instr.loadAt 181 (.pointer (some ⟨c.cp,2,none⟩))).run Tryz.prog w= .ok (.agg (c.se.flatMap Ses.cs).toArray) w:=by
 have hl:(c.se.flatMap Ses.cs).length=48:=by rw [ses_len,h.2.2.len]
 have hc:=run_loadCells_list (P:=Tryz.prog) w ⟨c.cp,2,none⟩ (c.se.flatMap Ses.cs) (fun j v hj=>by
  have:=h.1.cell (2+j);rw [Addr.add_lit];rw [this];show (Value.pointer (some ⟨c.ps,0,none⟩)::Value.slice c.A c.cand.length c.cap::c.se.flatMap Ses.cs).toArray[2+j]? =some v;rw [List.getElem?_toArray,show 2+j=j+1+1 by omega,List.getElem?_cons_succ,List.getElem?_cons_succ];exact hj)
 rw [hl] at hc;simp [Instr.loadAt,Instr.sureAddr,loadVar,isAgg,run_underlying Tryz.underlying181,Tryz.sizeOf181,hc]
theorem ses_extract (se:List Ses) (k:Nat) (hk:k<se.length):(se.flatMap Ses.cs).toArray.extract (k*3) (k*3+3)= #[.int .i64 (se.getD k ses0).num,.bool (se.getD k ses0).beg,.map (se.getD k ses0).hm]:=by
 have hl:=ses_len se;apply Array.ext_getElem?
 intro j;by_cases hj:j<3
 · rw [Array.getElem?_extract,if_pos (by simp only [List.size_toArray];omega),List.getElem?_toArray,ses_get se k j hk hj];match j,hj with
   | 0,_=>rfl
   | 1,_=>rfl
   | 2,_=>rfl
 rw [Array.getElem?_eq_none (by simp only [Array.size_extract,List.size_toArray];omega),Array.getElem?_eq_none (by simp;omega)]
theorem run_index181 (se:List Ses) (hl:se.length=16) (k:Nat) (hk:k<16) (w:World):(Instr.index 181 (.agg (se.flatMap Ses.cs).toArray) (.int .i64 (k:Int))).run Tryz.prog w= .ok (.agg #[.int .i64 (se.getD k ses0).num,.bool (se.getD k ses0).beg,.map (se.getD k ses0).hm]) w:=by
 have h1:(0:Int)<=(k:Int)/\(k:Int)<16:=⟨by omega,by omega⟩;have e:=ses_extract se k (by omega);generalize (se.flatMap Ses.cs).toArray=cs at e |-; rw [<- e];simp [Instr.index,asIntOf,part,isAgg,run_underlying Tryz.underlying181,run_underlying Tryz.underlying180,Tryz.sizeOf180,h1,hk]
theorem wpList_load181 {w:World} {ops:Array Oper} {rest:List Oper} {o:Oper} {a:Act} {Q:Exit->Act->World->Prop} (hg:o.guard=none) (x:Operand) (hop:o.op=Op.load 181 x) (hx:a.eval x= .pointer (some ⟨c.cp,2,none⟩)) (hh:(coOb c).holds w)
 (h:wpList Tryz.prog ops Q rest (a.put o.dst (.agg (c.se.flatMap Ses.cs).toArray)) w):wpList Tryz.prog ops Q (o::rest) a w:=by
 refine wpList_plain hg fun K hK'=>?_;have hrun:=run_load181 hh;unfold Oper.wp;simp [execOp,hop,hx,hrun,Result.andThen];exact hK' _ _ h
end
section
variable {b:Nat} {w0 w:World} {l l':List Ob} {c:CR}
theorem look_hm {s:Ses} (hs:s∈c.se) (h:(coOb c).holds w) {i:ID} (hi:okID i):(Instr.lookup 178 (.map s.hm) (.agg #[.int .u64 i.1,.int .i64 i.2]) true).run Tryz.prog w= .ok (.tuple #[.agg #[],.bool (asc s.H i).isSome]) w:=by
 cases e:s.hm with
 | none=>
  have:s.H=[]:=h.2.2.nomap s hs e;rw [this];have z:(zeroValue 170).run Tryz.prog w= .ok (.agg #[]) w:=by kernel_rfl
  have hf:(Instr.findKey 31 (.agg #[.int .u64 i.1,.int .i64 i.2]) []).run Tryz.prog w= .ok none w:=run_findKey Tryz.underlying31 rfl;have hck:(Instr.checkKey true 10000 31 (.agg #[.int .u64 i.1,.int .i64 i.2])).run Tryz.prog w= .ok () w:=mkI.K.check w _ (keyOf31 i hi);simp [Instr.lookup,run_underlying Tryz.underlying178,hf,hck,z,asc,Result.andThen]
 | some m=>exact look_u (h.2.2.map s hs m e) hi
abbrev heldC (c:CR) (i:ID):Bool:=c.se.any fun s=>(asc s.H i).isSome
theorem held_any (h:SW b w0 (coOb c::l) w) (i:ID) (hi:okID i):
 Calls Tryz.prog 111 #[vPtr c.cp,.agg #[.int .u64 i.1,.int .i64 i.2]] w (fun e w'=>e= .returned (.bool (heldC c i))/\SW b w0 (coOb c::l) w'):=by
 have H:=hid (h.newCell 31 #[.int .u64 i.1,.int .i64 i.2]);have HI:=hid hi;have hlen:=h.coLen;have HH:=hid (H.out.get 1 (o:=coOb c) rfl);clear h hi;go_enter Tryz.func111,Tryz.ntmps111;go_wp2_with (refine wpList_load181 rfl (.tmp 11) rfl rfl HH.out ?_)
 clear HH;generalize w.alloc (.cells #[.int .u64 i.1,.int .i64 i.2] 31)=wa at H |-; go_loopw [13] (fun s13 wr=>∃ k:Nat,k<=16/\s13= .int .i64 (k:Int)/\(∀ j,j<k->(asc (c.se.getD j ses0).H i).isSome=false)/\SW b w0 (cellOb w.heap.size 31 #[.int .u64 i.1,.int .i64 i.2]::coOb c::l) wr) (fun s13 _=>16-(intOf s13).toNat)
 case atStart=>exact ⟨0,by omega,rfl,fun j hj=>by omega,H.out⟩
 obtain ⟨k,hk,rfl,hb,hs⟩:=hrel;have HB:=hid hb;have S1:=hid hs;clear hb hs H;by_cases hlt:k<16
 · have hix:=run_index181 c.se hlen k hlt wr;have hmem:=ses_at (se:=c.se) (f:=k) (by omega);obtain ⟨s,hsk⟩:∃ s,c.se.getD k ses0=s:=⟨_,rfl⟩;rw [hsk] at hix hmem;have HSK:=hid hsk;have S2:=hid (S1.out.newCell 180 #[.int .i64 s.num,.bool s.beg,.map s.hm]);have hlk:=look_hm hmem (S2.out.get 2 (o:=coOb c) rfl) HI.out;have a2:=(S2.out.cell 0 rfl).cell 2;have d0:=(S2.out.cell 1 rfl).cell 0;have d1:=(S2.out.cell 1 rfl).cell 1;have HMEM:=hid hmem;clear hsk hmem;obtain ⟨v,hv⟩:∃ v,(asc s.H i).isSome=v:=⟨_,rfl⟩;rw [hv] at hlk;have HV:=hid hv;clear hv;cases v with
   | true=>
    go_wp2_with fail
    go_ret;refine ⟨?_,?_⟩
    · have e:heldC c i=true:=List.any_eq_true.2 ⟨s,HMEM.out,HV.out⟩;rw [e];rfl
    exact (S2.out.alloc _).tail.tail
   | false=>
    go_wp2_with fail
    go_roundw
    case rel=>
     refine ⟨k+1,by omega,by go_num,fun j hj=>?_,(S2.out.alloc _).tail⟩;by_cases e:j=k
     · subst e;rw [HSK.out];exact HV.out
     exact HB.out j (by omega)
    simp [intOf];omega
 obtain rfl:k=16:=by omega
 go_wp2_with fail
 go_ret;refine ⟨?_,S1.out.tail⟩
 have e:heldC c i=false:=by
  rw [Bool.eq_false_iff];intro h;obtain ⟨s,hs,hp⟩:=List.any_eq_true.1 h;obtain ⟨j,hj,rfl⟩:=List.getElem_of_mem hs;have:=HB.out j (by omega);rw [List.getD_eq_getElem?_getD,List.getElem?_eq_getElem hj] at this;have hp:(asc c.se[j].H i).isSome=true:=hp;have this:(asc c.se[j].H i).isSome=false:=this;rw [hp] at this;cases this
 rw [e];rfl
end
end
end Go.Proofs.YteabgcollokgjaaGreatDoor
