/- Q -/
import Derived.Test.YteabgcollokgjaaGreatDoorQP17
set_option linter.unusedSimpArgs false
set_option linter.unusedVariables false
set_option maxRecDepth 100000
set_option maxHeartbeats 32000000
open Go.Lib (hid)
open List renaming getElem?_map → zA
namespace Go.Proofs.YteabgcollokgjaaGreatDoor
section
open Go.RowKit Go.MapKept Go.ChangeMaps Go.Shelf Go.Sort
theorem lv_cell {b:Nat} {w0 w:World} {t:List Ob} {lg cap pc:Nat} {k:Nat} (h:SW b w0 t w) (hk:t[k]? =some (rowOb 214 1 (.slice (some ⟨lg,0,none⟩) 1 cap) 1 [vPtr pc])):w.cell? ⟨lg,0,none⟩=some (vPtr pc):=by
 obtain ⟨lg2,cap2,e1,e2,_⟩:=own_one (h.get k hk);injection e1 with e1 _ e3;injection e1 with e1;injection e1 with e1;rw [e1];exact e2
theorem write_any {b:Nat} {w0 w:World} {q:WFS} {x:SR} {l:List Ob} (h:SW b w0 (q.obs x l) w) (lg cap:Nat) (hlv:q.lv= .slice (some ⟨lg,0,none⟩) 1 cap) (hlen:q.len≠0) (hcl:∀ f,x.F=some f->f.clean=true) (hnm:x.nm.size<=1000)
 (hids:∀ i∈q.ids,∃ d bs,asc x.C i=some (.pend d bs)/\i.2=(bs.length:Int)/\bs.length<=8192/\okID i/\0<=i.1/\i.1<18446744073709551616) (hn:0<q.ids.length) (hsum:flen x.F+frSum q.ids<=1048576) (hL:x.s.ops.length<=1000000):
 Calls Tryz.prog 136 #[vPtr x.ps,.slice (some ⟨lg,0,none⟩) 1 cap,.map (some q.mv)] w (WFPost b w0 q x l):=by
 have HWF:=hid (writeFile_any h hcl hnm hids hn hsum hL);have hq:(q.len==0)=false:=by simpa using hlen
 have h2:SW b w0 (cellOb q.pc 216 q.cs::chOb q.mv q.M::rowOb 31 2 q.av q.ids.length (q.ids.flatMap encID)::rowOb 214 1 (.slice (some ⟨lg,0,none⟩) 1 cap) 1 [vPtr q.pc]::ebOb (.slice q.SA q.sn q.sc) q.ys::x.obs l) w:=by
  rw [<- hlv];exact h
 have cl:w.cell? ⟨lg,0,none⟩=some (vPtr q.pc):=lv_cell (k:=3) h2 rfl;have c4:w.cell? ⟨q.pc,4,none⟩=some (.int .i64 q.len):=(h2.cell 0 rfl).cell 4;clear h h2 hcl hids hlv hlen;go_enter Tryz.func136,Tryz.ntmps136;go_wp2_with fail
 refine wp_loop_rounds 2 ?_;rw [rounds_succ];go_wp2_with fail
 rw [rounds_succ];go_wp2_with fail
 refine wp_loop_rounds 2 ?_;rw [rounds_succ];go_wp2_with (go_at_call 181;(with_reducible refine HWF.out.mono ?_);refine halt_ ?_)
 rintro e w1 ⟨n,r',hcn,rfl,hs⟩;obtain ⟨E,HE⟩:∃ E,Hid (reqE x.s n (wfOp x.F x.nm (wfold (flen x.F) x.C q.M q.ids).2)=E):=⟨_,rfl⟩;rw [HE.out];have HCN:=hid hcn;have HS:=hid hs;clear hcn hs HWF;by_cases h0:E=0
 · have h0':(E !=0)=false:=by simpa using h0
   have H0:=hid h0;clear h0;go_wp2_with fail
   rw [rounds_succ];go_wp2_with fail
   go_ret;exact ⟨n,r',HCN.out,by rw [HE.out,H0.out];rfl,HS.out⟩
 have h0':(E !=0)=true:=by simpa using h0
 have H0:=hid h0;clear h0;go_wp2_with fail
 go_ret;exact ⟨n,r',HCN.out,by rw [HE.out];rfl,HS.out⟩
def itOb (mv r:Nat) (M done:Chs) (cnt:Nat):Ob where
 own:=fun i=>i=mv∨i=r
 rd:=fun _=>False
 holds:=fun w=>RIs okID vID vPl w mv r M done cnt
 stable:=fun w w' h hs hk=>by
  obtain ⟨es,clock,since,seen,c0,is,h1,h2,h3,h4,h5,h6⟩:=h;exact ⟨es,clock,since,seen,c0,is,(hk mv (.inl (.inl rfl))).trans h1,h2,h3,h4,(hk r (.inl (.inr rfl))).trans h5,h6⟩
section
variable {b:Nat} {w0 w w':World} {l:List Ob}
theorem SW.range (h:SW b w0 l w) (k:Nat) {mv:Nat} {M:Chs} (hk:l[k]? =some (chOb mv M)) (hr:RIs okID vID vPl w' mv w.heap.size M [] M.length) (hg:w.grownBy w' none):SW b w0 (l.set k (itOb mv w.heap.size M [] M.length)) w':=by
 have:=h.1.stepAt k hk (w':=w') (o':=itOb mv w.heap.size M [] M.length) ⟨hg.os,hg.tape,hg.output,hg.size,fun i hi _=>hg.block i hi (by simp),fun i hi=>by
  rcases hi with hi | hi
  · exact .inl hi
  · exact .inr (by omega)⟩ (fun i hi=>hi.elim) hr (fun i hi=>by
  rcases hi with (hi | hi) | hi
  · rw [hi];exact hr.map.lt
  · rw [hi];exact hr.lt
  exact hi.elim)
 exact ⟨this.1,h.2.trans this.2⟩
theorem SW.next (h:SW b w0 l w) (k:Nat) {mv r:Nat} {M done done':Chs} {cnt cnt':Nat} (hk:l[k]? =some (itOb mv r M done cnt)) (hr:RIs okID vID vPl w' mv r M done' cnt') (hg:w.grownBy w' (some r)):SW b w0 (l.set k (itOb mv r M done' cnt')) w':=by
 have:=h.1.stepAt k hk (w':=w') (o':=itOb mv r M done' cnt') (Fr.grown hg (Or.inr rfl) (fun i hi=> .inl hi)) (fun i hi=>hi.elim) hr (fun i hi=>by
  rcases hi with (hi | hi) | hi
  · rw [hi];exact hr.map.lt
  · rw [hi];exact hr.lt
  exact hi.elim)
 exact ⟨this.1,h.2.trans this.2⟩
theorem SW.note (h:SW b w0 l w) (k:Nat) {cm:Nat} {C:Chs} (hk:l[k]? =some (chOb cm C)) {i:ID} {o:Nat} (hm:MapIs okID vID vPl w' cm (setL C i (.at o))) (hg:w.grownBy w' (some cm)):SW b w0 (l.set k (chOb cm (setL C i (.at o)))) w':=
 ⟨(h.1.note k hk hm hg).1,h.2.trans (h.1.note k hk hm hg).2⟩
end
theorem SW.newMap {b:Nat} {w0 w:World} {l:List Ob} (h:SW b w0 l w):SW b w0 (chOb w.heap.size []::l) (w.alloc (.map #[] 0)):=by
 have:=h.1.add (o':=chOb w.heap.size []) (w':=w.alloc (.map #[] 0)) (bel1q _ _) ⟨MapIs.made w,fun _ _ _ hm=>by cases hm⟩ (fun i hi=>by have e:i=w.heap.size:=hi;simp [e]) (fun i hi=>by obtain ⟨_,_,_,hm,_⟩:=hi;cases hm) (fun i hi=>by obtain ⟨_,_,_,hm,_⟩:=hi;cases hm);exact ⟨this.1,h.2.trans this.2⟩
theorem reqS_ops (s:St) (n:Nat) (o:POp):(reqS s n o).ops.length<=s.ops.length+1:=by
 unfold reqS;split
 · split
   · simp [St.cut]
   simp [St.did]
 omega
theorem RIs.keysN {α β:Type} {ok:α->Prop} {kv:α->Value} {vv:β->Value} {w:World} {b r:Nat} {L done:List (α×β)} {cnt:Nat} (h:RIs ok kv vv w b r L done cnt):(done.map (·.1)).Nodup:=by
 have hn:=h.map.nodup;obtain ⟨es,clock,since,seen,c0,is,_,_,_,_,_,_,_,_,_,hnd,_,hd⟩:=h
 have hlen:is.length=done.length:=by
  have:=congrArg List.length hd;simpa using this
 have hget:∀ j,(hj:j<done.length)->L[is[j]'(by omega)]? =some done[j]:=by
  intro j hj;have h1:(is.map (fun i=>L[i]?))[j]? =(done.map some)[j]? :=by rw [hd]
  rw [zA,zA,List.getElem?_eq_getElem (by omega),List.getElem?_eq_getElem hj] at h1;simpa using h1
 refine List.pairwise_iff_getElem.2 ?_;intro i j hi hj hij e;simp only [List.length_map] at hi hj;simp only [List.getElem_map] at e;have h1:=hget i hi;have h2:=hget j hj;have l1:=(List.getElem?_eq_some_iff.1 h1).1;have l2:=(List.getElem?_eq_some_iff.1 h2).1;have e3:is[i]'(by omega)=is[j]'(by omega):=nodup_idx hn (by simpa using l1) (by simpa using l2) (by rw [zA,zA,h1,h2];simp [e]);exact absurd e3 (List.pairwise_iff_getElem.1 hnd i j (by omega) (by omega) hij)
theorem wfold_mlen (base:Nat) (C:Chs) (ids:List ID):(wfold base C [] ids).1.length<=ids.length:=by
 have:∀ (ids:List ID) (p:Chs×List UInt8),(ids.foldl (wstep base C) p).1.length<=p.1.length+ids.length:=by
  intro ids;induction ids with
  | nil=>intro p;simp
  | cons j ids ih=>
   intro p;rw [List.foldl_cons];have h1:=ih (wstep base C p j);have h2:(wstep base C p j).1.length<=p.1.length+1:=setL_length _ _ _;simp only [List.length_cons];omega
 have:=this ids ([],[]);simpa [wfold] using this
theorem SW.fileLen {b:Nat} {w0 w:World} {l:List Ob} (h:SW b w0 l w) (k:Nat) {fm:Nat} {f:FR} (hk:l[k]? =some (flOb fm (some f))) (n:Nat):SW b w0 (l.set k (flOb fm (some { f with len:=n }))) (w.setCell ⟨f.fb,0,none⟩ (.int .i64 (n:Int))):=by
 have hh:=h.get k (o:=flOb fm (some f)) hk;obtain ⟨h1,h2,h3⟩:=hh.2 f rfl;have hg:w.grownBy (w.setCell ⟨f.fb,0,none⟩ (.int .i64 (n:Int))) (some f.fb):=g_set (p:=⟨f.fb,0,none⟩) (g_refl _ _) (.inl rfl) _;have hlt:=h1.lt;have hm1:MapIs okN vN vPtr (w.setCell ⟨f.fb,0,none⟩ (.int .i64 (n:Int))) fm (fL (some f)):=hh.1.kept hg (fun e=>map_is hh.1 (by injection e with e;rw [e];exact h1));have hm2:MapIs okID vID vBl (w.setCell ⟨f.fb,0,none⟩ (.int .i64 (n:Int))) f.sb f.T:=h2.kept hg (fun e=>map_is h2 (by injection e with e;rw [e];exact h1));have hi:IsB (w.setCell ⟨f.fb,0,none⟩ (.int .i64 (n:Int))) f.fb 145 ({ f with len:=n }:FR).cells:=h1.set_ 0 _
 have:=h.1.stepAt k hk (w':=w.setCell ⟨f.fb,0,none⟩ (.int .i64 (n:Int))) (o':=flOb fm (some { f with len:=n })) (Fr.grown hg (Or.inr ⟨f,rfl,.inl rfl⟩) (fun i hi=> .inl (by
  rcases hi with hi | ⟨f',e,hi⟩
  · exact .inl hi
  · injection e with e;subst e;exact .inr ⟨f,rfl,hi⟩))) (fun i hi=>hi.elim) ⟨hm1,fun f' e=>by
  injection e with e;subst e;exact ⟨hi,hm2,h3⟩⟩ (fun i hi'=>by
  rcases hi' with (hi' | ⟨f',e,hi'⟩) | hi'
  · rw [hi'];exact hm1.lt
  · injection e with e;subst e;rcases hi' with hi' | hi'
    · rw [hi'];exact hi.lt
    rw [hi'];exact hm2.lt
  exact hi'.elim)
 exact ⟨this.1,h.2.trans this.2⟩
theorem SW.newFile {b:Nat} {w0 w w2:World} {l:List Ob} (h:SW b w0 l w) (k:Nat) {fm:Nat} (hk:l[k]? =some (flOb fm none)) (hm:MapIs okN vN vPtr w2 fm [(1,w.heap.size+1)]) (hg:((w.alloc (.map #[] 0)).alloc (.cells #[.int .i64 0,.bool true,.map (some w.heap.size)] 145)).grownBy w2 (some fm)):SW b w0 (l.set k (flOb fm (some ⟨w.heap.size+1,w.heap.size,0,true,[]⟩))) w2:=by
 have hh:=h.get k (o:=flOb fm none) hk;have hfl:=hh.1.lt;have hb:Below w.heap.size w ((w.alloc (.map #[] 0)).alloc (.cells #[.int .i64 0,.bool true,.map (some w.heap.size)] 145)):=(bel1q _ _).alloc (by simp) _
 have hi0:IsB ((w.alloc (.map #[] 0)).alloc (.cells #[.int .i64 0,.bool true,.map (some w.heap.size)] 145)) (w.heap.size+1) 145 #[.int .i64 0,.bool true,.map (some w.heap.size)]:=by
  have:=IsB.new (w.alloc (.map #[] 0)) 145 #[.int .i64 0,.bool true,.map (some w.heap.size)];simpa using this
 have hi:IsB w2 (w.heap.size+1) 145 #[.int .i64 0,.bool true,.map (some w.heap.size)]:=hi0.grown hg (by simp;omega);have hm0:MapIs okID vID vBl ((w.alloc (.map #[] 0)).alloc (.cells #[.int .i64 0,.bool true,.map (some w.heap.size)] 145)) w.heap.size []:=(MapIs.made w).alloc _;have hm2:MapIs okID vID vBl w2 w.heap.size []:=hm0.kept hg (by simp;omega)
 have:=h.1.stepAt k hk (w':=w2) (o':=flOb fm (some ⟨w.heap.size+1,w.heap.size,0,true,[]⟩)) ⟨hg.os.trans hb.os,hg.tape.trans hb.tape,hg.output.trans hb.output,Nat.le_trans hb.size hg.size,fun i hi hn=>(hg.block i (Nat.lt_of_lt_of_le hi hb.size) (fun e=>hn (.inl (by injection e)))).trans (hb.block i hi),fun i hi=>by
  rcases hi with hi | ⟨f',e,hi⟩
  · exact .inl (.inl hi)
  · injection e with e;subst e;simp only at hi;exact .inr (by omega)⟩ (fun i hi=>hi.elim) ⟨hm,fun f' e=>by
  injection e with e;subst e;exact ⟨hi,hm2,by simp;omega⟩⟩ (fun i hi'=>by
  rcases hi' with (hi' | ⟨f',e,hi'⟩) | hi'
  · rw [hi'];exact hm.lt
  · injection e with e;subst e;rcases hi' with hi' | hi'
    · rw [hi'];exact hi.lt
    rw [hi'];exact hm2.lt
  exact hi'.elim)
 exact ⟨this.1,h.2.trans this.2⟩
def updAll (C done:Chs):Chs:=done.foldl (fun C c=>setL C c.1 c.2) C
theorem updAll_snoc (C done:Chs) (c:ID×Pl):updAll C (done++[c])=setL (updAll C done) c.1 c.2:=by
 unfold updAll;rw [List.foldl_append];rfl
theorem updAll_asc (C:Chs):∀ (done:Chs),(done.map (·.1)).Nodup->∀ i,asc (updAll C done) i=match asc done i with | some pl=>some pl | none=>asc C i:=by
 intro done;induction done generalizing C with
 | nil=>intro _ i;rfl
 | cons c done ih=>
  intro hn i;rw [List.map_cons,List.nodup_cons] at hn;show asc (updAll (setL C c.1 c.2) done) i=_;rw [ih _ hn.2 i,asc_setL];by_cases hi:c.1=i
  · have h0:asc done i=none:=asc_none (fun d hd e=>hn.1 (by rw [hi, <- e];exact List.mem_map.2 ⟨d,hd,rfl⟩));rw [h0];simp [asc,hi]
  simp [asc,hi]
theorem asc_permC {L K:Chs} (hp:L.Perm K) (hn:(L.map (·.1)).Nodup) (i:ID):asc L i=asc K i:=by
 have hk:(K.map (·.1)).Nodup:=(hp.map _).nodup_iff.1 hn;cases h:asc L i with
 | some v=>exact (asc_mem hk (hp.mem_iff.1 (mem_of_asc h))).symm
 | none=>
  cases h2:asc K i with
  | none=>rfl
  | some v=>
   have:=asc_mem hn (hp.mem_iff.2 (mem_of_asc h2));rw [h] at this;cases this
theorem wfold_keys (base:Nat) (C:Chs) (ids:List ID):(∀ c∈(wfold base C [] ids).1,∃ o,c.2=Pl.at o)/\∀ i,i∈((wfold base C [] ids).1.map (·.1))↔i∈ids:=by
 have:∀ (ids:List ID) (p:Chs×List UInt8),(∀ c∈p.1,∃ o,c.2=Pl.at o)->(∀ c∈(ids.foldl (wstep base C) p).1,∃ o,c.2=Pl.at o)/\∀ i,i∈((ids.foldl (wstep base C) p).1.map (·.1))↔i∈p.1.map (·.1)∨i∈ids:=by
  intro ids;induction ids with
  | nil=>intro p hp;exact ⟨hp,by simp⟩
  | cons j ids ih=>
   intro p hp;rw [List.foldl_cons]
   have h1:∀ c∈(wstep base C p j).1,∃ o,c.2=Pl.at o:=by
    intro c hc;unfold wstep at hc
    have:∀ (L:Chs) (v:Pl),(∀ c∈L,∃ o,c.2=Pl.at o)->(∃ o,v=Pl.at o)->∀ c∈setL L j v,∃ o,c.2=Pl.at o:=by
     intro L v hL hv;induction L with
     | nil=>intro c hc;simp [setL] at hc;subst hc;exact hv
     | cons d L ih2=>
      intro c hc;unfold setL at hc;split at hc
      · rcases List.mem_cons.1 hc with rfl | hc
        · exact hv
        exact hL c (by simp [hc])
      rcases List.mem_cons.1 hc with rfl | hc
      · exact hL _ (by simp)
      exact ih2 (fun c hc=>hL c (by simp [hc])) c hc
    exact this p.1 _ hp ⟨_,rfl⟩ c hc
   obtain ⟨a1,a2⟩:=ih _ h1;refine ⟨a1,fun i=>(a2 i).trans ?_⟩;have hk:=setL_keys p.1 j (Pl.at (base+p.2.length)) i;have e:(wstep base C p j).1=setL p.1 j (Pl.at (base+p.2.length)):=rfl;rw [e,hk];simp only [List.mem_cons];constructor
   · rintro ((h | h) | h)
     · exact .inr (.inl h)
     · exact .inl h
     exact .inr (.inr h)
   rintro (h | h | h)
   · exact .inl (.inr h)
   · exact .inl (.inl h)
   exact .inr h
 obtain ⟨h1,h2⟩:=this ids ([],[]) (by simp);exact ⟨h1,fun i=>by have:=h2 i;simpa [wfold] using this⟩
end
section
open Go.RowKit
def okW (n:Int):Bool:=(decide (97<=n)&&decide (n<=122))||(decide (48<=n)&&decide (n<=57))||n==45
def okN_ (l:List UInt8):Bool:=l.all (fun c=>okW ((c.toNat:Nat):Int))
def nameV (s:ByteArray):Bool:=decide (1<=s.size)&&decide (s.size<=40)&&okN_ s.data.toList
theorem okN_snoc (l:List UInt8) (c:UInt8):okN_ (l++[c])=(okN_ l&&okW ((c.toNat:Nat):Int)):=by simp [okN_]
theorem okN_false {s:ByteArray} {k:Nat} (h:k<s.size) (hc:okW (((s[k]).toNat:Nat):Int)=false):okN_ s.data.toList=false:=by
 unfold okN_;rw [List.all_eq_false]
 exact ⟨s[k],by
  have:s[k]=s.data.toList[k]'(by simpa using h):=rfl;rw [this];exact List.getElem_mem _,by rw [hc];simp⟩
theorem validStore_any (s:ByteArray) (w:World) (hs:s.size<=maxLen):Calls Tryz.prog 81 #[.string s] w fun e w'=>e= .returned (.bool (nameV s))/\w=w':=by
 unfold maxLen at hs;by_cases h1:s.size<1
 · have HN:Hid (nameV s=false):=by simp [Hid,nameV];omega
   go_enter Tryz.func81,Tryz.ntmps81;go_wp2_with fail
   go_ret;exact rbool HN.out rfl
 by_cases h2:40<s.size
 · have HN:Hid (nameV s=false):=by simp [Hid,nameV];omega
   go_enter Tryz.func81,Tryz.ntmps81;go_wp2_with fail
   go_ret;exact rbool HN.out rfl
 go_enter Tryz.func81,Tryz.ntmps81;go_wp2_with fail
 go_loop [15] (fun i=>∃ k:Nat,k<=s.size/\i= .int .i64 k/\Hid (okN_ (s.data.toList.take k)=true)) (fun i=>s.size-(intOf i).toNat)
 case atStart=>exact ⟨0,Nat.zero_le _,rfl,rfl⟩
 obtain ⟨k,hk,rfl,Hk⟩:=hrel;by_cases hlt:k<s.size
 · have HB:Hid (okW ((s[k]).toNat:Int)=false->nameV s=false):=fun h=>by simp [nameV,okN_false hlt h]
   have HG:Hid (okW ((s[k]).toNat:Int)=true->okN_ (s.data.toList.take (k+1))=true):=fun h=>by rw [take_byte s k hlt,okN_snoc,Hk.out,h];rfl
   by_cases c1:((s[k]).toNat:Int)<97
   · by_cases c2:((s[k]).toNat:Int)<48
     · by_cases c4:((s[k]).toNat:Int)=45
       · have b4:(((s[k]).toNat:Int) !=45)=false:=by simp [c4]
         have HO:=hid (HG.out (by simp [okW,c4]));clear HB HG c4;go_wp2_with fail
         go_round
         case rel=>exact ⟨k+1,by omega,by go_num,HO⟩
         simp [intOf];omega
       have b4:(((s[k]).toNat:Int) !=45)=true:=by rw [bne_iff_ne];exact c4
       have HO:=hid (HB.out (by simp [okW];omega));clear HB HG c4;go_wp2_with fail
       go_ret;exact rbool HO.out rfl
     by_cases c3:57<((s[k]).toNat:Int)
     · have b3:(((s[k]).toNat:Int) !=46)=true:=by rw [bne_iff_ne];omega
       have b4:(((s[k]).toNat:Int) !=45)=true:=by rw [bne_iff_ne];omega
       have HO:=hid (HB.out (by simp [okW];omega));clear HB HG;go_wp2_with fail
       go_ret;exact rbool HO.out rfl
     skip
     have HO:=hid (HG.out (by simp [okW];omega));clear HB HG;go_wp2_with fail
     go_round
     case rel=>exact ⟨k+1,by omega,by go_num,HO⟩
     simp [intOf];omega
   by_cases c2:122<((s[k]).toNat:Int)
   · have c3:57<((s[k]).toNat:Int):=by omega
     have c4:¬ ((s[k]).toNat:Int)<48:=by omega
     have b4:(((s[k]).toNat:Int) !=45)=true:=by rw [bne_iff_ne];omega
     have HO:=hid (HB.out (by simp [okW];omega));clear HB HG;go_wp2_with fail
     go_ret;exact rbool HO.out rfl
   skip
   have HO:=hid (HG.out (by simp [okW];omega));clear HB HG;go_wp2_with fail
   go_round
   case rel=>exact ⟨k+1,by omega,by go_num,HO⟩
   simp [intOf];omega
 obtain rfl:k=s.size:=by omega
 have HN:Hid (nameV s=true):=by
  have:=Hk.out;rw [List.take_of_length_le (by simp)] at this;simp [Hid,nameV,this];omega
 go_wp2_with fail
 go_ret;exact rbool HN.out rfl
end
section
open Go.RowKit Go.MapKept Go.ChangeMaps Go.Shelf Go.Sort
theorem below_of_none {w w':World} (h:w.grownBy w' none):Below w.heap.size w w':=⟨h.os,h.tape,h.output,h.size,fun i hi=>h.block i hi (by simp)⟩
theorem SW.newFl {b:Nat} {w0 w:World} {l:List Ob} (h:SW b w0 l w):SW b w0 (flOb w.heap.size none::l) (w.alloc (.map #[] 0)):=by
 have:=h.1.add (o':=flOb w.heap.size none) (w':=w.alloc (.map #[] 0)) (bel1q _ _) ⟨MapIs.made w,fun _ e=>by cases e⟩ (fun i hi=>by
  rcases hi with hi | ⟨f,e,_⟩
  · simp [hi]
  cases e) (fun i hi=>hi.elim) (fun i hi=>hi.elim)
 exact ⟨this.1,h.2.trans this.2⟩
theorem load_empty {b:Nat} {w:World} {x:SR} {l:List Ob} (h:Sto b w x l) (he:∀ m,x.s.now m=none):Calls Tryz.prog 83 #[vPtr x.ps] w (Gives (.int .i64 0) w):=by
 have HN:=hid (Names_any x.p x.r x.s w h.sdv);have k0:w.cell? ⟨x.ps,0,none⟩=some (vPtr x.p):=h.scell.cell 0;have HE:=hid he;clear h he;go_enter Tryz.func83,Tryz.ntmps83;go_wp2_with (go_at_call 37;(with_reducible refine HN.out.mono ?_);refine halt_ ?_)
 rintro e w1 ⟨A,c,ns,rfl,hls,hrd,hb1⟩
 have hns:ns=[]:=by
  cases ns with
  | nil=>rfl
  | cons m ns=>
   have:=(hls.mem m).1 (by simp);rw [HE.out m] at this;cases this
 subst hns;have HB:=hid hb1;clear hls hrd hb1 HN k0;simp only [List.length_nil];go_wp2_with fail
 refine wp_loop_rounds 1 ?_;rw [rounds_succ];go_wp2_with (go_at_call 133;(with_reducible refine (Tryz.slices_Sort_int_none none 0 _).mono ?_);rintro e w2 ⟨rfl,rfl⟩)
 refine wp_loop_rounds 1 ?_;rw [rounds_succ];go_wp2_with fail
 go_ret;exact ⟨rfl,HB.out⟩
def OpenNo (E:Int) (w:World) (e:Ending) (w':World):Prop:=e= .returned (.tuple #[.pointer none,.int .i64 E])/\w=w'
def openedS (p:Nat) (r:Rp) (s:St) (nm:ByteArray) (H:Nat):SR:=⟨p,H+2,H,H+1,r,s,nm,[],none,0,0,false⟩
def OpenYes (b p:Nat) (r:Rp) (s:St) (nm:ByteArray) (l:List Ob) (w:World) (e:Ending) (w':World):Prop:=
 ∃ H,w.heap.size<=H/\e= .returned (.tuple #[vPtr (H+2),.int .i64 0])/\SW b w ((openedS p r s nm H).obs l) w'
theorem nameV_size {nm:ByteArray} (h:nameV nm=true):nm.size<=40:=by
 unfold nameV at h;simp only [Bool.and_eq_true,decide_eq_true_eq] at h;exact h.1.2
theorem Open_down {b:Nat} {w:World} {p:Nat} {r:Rp} {s:St} {l:List Ob} (h:Sep b w (devOb p r s::l)) (nm:ByteArray) (hn:nameV nm=true) (hd:s.dn=true):Calls Tryz.prog 20 #[vPtr p,.string nm] w (OpenNo 303 w):=by
 have HV:=hid (validStore_any nm w (by have:=nameV_size hn;unfold maxLen;omega));rw [hn] at HV;have HD:=hid (Down_any p r s w h.head);rw [hd] at HD;clear hn h hd;go_enter Tryz.func20,Tryz.ntmps20;go_wp2_with (first | (go_at_call 81;(with_reducible refine HV.out.mono ?_);rintro e w1 ⟨rfl,rfl⟩) | (go_at_call 82;(with_reducible refine HD.out.mono ?_);rintro e w1 ⟨rfl,rfl⟩))
 go_ret2;exact ⟨rfl,rfl⟩
theorem Open_empty {b:Nat} {w:World} {p:Nat} {r:Rp} {s:St} {l:List Ob} (h:Sep b w (devOb p r s::l)) (nm:ByteArray) (hn:nameV nm=true) (hd:s.dn=false) (he:∀ m,s.now m=none):Calls Tryz.prog 20 #[vPtr p,.string nm] w (OpenYes b p r s nm l w):=by
 have HV:=hid (validStore_any nm w (by have:=nameV_size hn;unfold maxLen;omega));rw [hn] at HV;have HD:=hid (Down_any p r s w h.head);rw [hd] at HD;have hm1:(Instr.makeMap 128 none).run Tryz.prog w= .ok (.map (some w.heap.size)) (w.alloc (.map #[] 0)):=by simp [Instr.makeMap,run_underlying Tryz.underlying128]
 have hm2:(Instr.makeMap 129 none).run Tryz.prog (w.alloc (.map #[] 0))= .ok (.map (some (w.heap.size+1))) ((w.alloc (.map #[] 0)).alloc (.map #[] 0)):=by simp [Instr.makeMap,run_underlying Tryz.underlying129]
 have S1:SW b w (flOb (w.heap.size+1) none::chOb w.heap.size []::devOb p r s::l) ((w.alloc (.map #[] 0)).alloc (.map #[] 0)):=by
  have:=((SW.refl h).newMap).newFl;simpa using this
 have S2:Hid (SW b w ((openedS p r s nm w.heap.size).obs l) (((w.alloc (.map #[] 0)).alloc (.map #[] 0)).alloc (.cells #[.pointer (some ⟨p,0,none⟩),.string nm,.map (some w.heap.size),.map (some (w.heap.size+1)),.int .i64 0,.int .i64 0,.bool false] 131))):=
  SW.front (pre:=[_,_,_,_]) (t:=l) (S1.newCellAt 131 #[.pointer (some ⟨p,0,none⟩),.string nm,.map (some w.heap.size),.map (some (w.heap.size+1)),.int .i64 0,.int .i64 0,.bool false] (H:=w.heap.size+2) (by simp)) [3,0,2,1] (n:=4) rfl (by decide)
 have HLO:=hid (load_empty (x:=openedS p r s nm w.heap.size) S2.out.1 he);clear h hn hd he S1;go_enter Tryz.func20,Tryz.ntmps20;go_wp2_with (first | (go_at_call 81;(with_reducible refine HV.out.mono ?_);rintro e w1 ⟨rfl,rfl⟩) | (go_at_call 82;(with_reducible refine HD.out.mono ?_);rintro e w1 ⟨rfl,rfl⟩) | (go_at_call 83;refine halt_ ?_))
 refine HLO.out.mono ?_;rintro e w1 ⟨rfl,hb1⟩;have S3:=hid (S2.out.on hb1);clear hb1 HLO S2 hm1 hm2;have k2:w1.cell? ⟨w.heap.size+1+1,2,none⟩=some (.map (some w.heap.size)):=(S3.out.cell 1 rfl).cell 2;have HM:=hid (S3.out.get 2 (o:=chOb w.heap.size []) rfl).1;go_wp2_with (at_range;(refine wpList_range_is _ rfl _ 128 rfl 31 138 Tryz.underlying128 w.heap.size [] rfl HM.out ?_);intro w4 hrg hg hs;have RI0:=hid hrg;have S4:=hid (S3.out.on (below_of_none hg));clear hrg hg hs)
 refine wp_loop_rounds 1 ?_;rw [rounds_succ];go_wp2_with (at_next;(refine wpList_next_ch _ rfl _ rfl w.heap.size w1.heap.size [] [] 0 rfl RI0.out (fun hp=>?_) (fun i pl w5 cnt1 hc1 hrg1 hlt1 hg1 hs1 hen=>absurd hc1 (by simp))))
 go_ret2;exact ⟨w.heap.size,Nat.le_refl _,rfl,S4.out⟩
section
variable {α β:Type}
def mpOb (ok:α->Prop) (kv:α->Value) (vv:β->Value) (m:Nat) (L:List (α×β)):Ob where
 own:=fun i=>i=m
 rd:=fun _=>False
 holds:=fun w=>MapIs ok kv vv w m L
 stable:=fun w w' h hs hk=>h.same (hk m (.inl rfl))
def itrOb (ok:α->Prop) (kv:α->Value) (vv:β->Value) (m r:Nat) (L done:List (α×β)) (cnt:Nat):Ob where
 own:=fun i=>i=r
 rd:=fun i=>i=m
 holds:=fun w=>RIs ok kv vv w m r L done cnt
 stable:=fun w w' h hs hk=>by
  obtain ⟨es,clock,since,seen,c0,is,h1,h2,h3,h4,h5,h6⟩:=h;exact ⟨es,clock,since,seen,c0,is,(hk m (.inr rfl)).trans h1,h2,h3,h4,(hk r (.inl rfl)).trans h5,h6⟩
variable {ok:α->Prop} {kv:α->Value} {vv:β->Value} {b:Nat} {w0 w w':World} {l:List Ob}
theorem SW.addMp (h:SW b w0 l w):SW b w0 (mpOb ok kv vv w.heap.size []::l) (w.alloc (.map #[] 0)):=by
 have:=h.1.add (o':=mpOb ok kv vv w.heap.size []) (w':=w.alloc (.map #[] 0)) (bel1q _ _) (MapIs.made w) (fun i hi=>by have e:i=w.heap.size:=hi;simp [e]) (fun i hi=>hi.elim) (fun i hi=>hi.elim);exact ⟨this.1,h.2.trans this.2⟩
theorem SW.updMp (h:SW b w0 l w) (k:Nat) {m:Nat} {L L':List (α×β)} (hk:l[k]? =some (mpOb ok kv vv m L)) (hm:MapIs ok kv vv w' m L') (hg:w.grownBy w' (some m)):SW b w0 (l.set k (mpOb ok kv vv m L')) w':=by
 have:=h.1.stepAt k hk (w':=w') (o':=mpOb ok kv vv m L') (Fr.grown hg rfl (fun i hi=> .inl hi)) (fun i hi=>hi.elim) hm (fun i hi=>by
  rcases hi with hi | hi
  · have e:i=m:=hi;rw [e];exact hm.lt
  exact hi.elim)
 exact ⟨this.1,h.2.trans this.2⟩
theorem SW.addIt (h:SW b w0 l w) {m:Nat} {L:List (α×β)} (hr:RIs ok kv vv w' m w.heap.size L [] L.length) (hg:w.grownBy w' none) (hn:∀ y∈l,¬ y.own m):SW b w0 (itrOb ok kv vv m w.heap.size L [] L.length::l) w':=by
 have hb:Below w.heap.size w w':=below_of_none hg;have hlt:=hr.lt;have hml:=hr.map.lt;have:=h.1.add (o':=itrOb ok kv vv m w.heap.size L [] L.length) (w':=w') hb hr (fun i hi=>by have e:i=w.heap.size:=hi;subst e;exact ⟨Nat.le_refl _,hlt⟩) (fun i hi=>by have e:i=m:=hi;subst e;exact hml) (fun i hi _ y hy=>by have e:i=m:=hi;subst e;exact hn y hy);exact ⟨this.1,h.2.trans this.2⟩
theorem SW.nextIt (h:SW b w0 l w) (k:Nat) {m r:Nat} {L done done':List (α×β)} {cnt cnt':Nat} (hk:l[k]? =some (itrOb ok kv vv m r L done cnt)) (hr:RIs ok kv vv w' m r L done' cnt') (hg:w.grownBy w' (some r)):SW b w0 (l.set k (itrOb ok kv vv m r L done' cnt')) w':=by
 have:=h.1.stepAt k hk (w':=w') (o':=itrOb ok kv vv m r L done' cnt') (Fr.grown hg rfl (fun i hi=> .inl hi)) (fun i hi=> .inr (.inl hi)) hr (fun i hi=>by
  rcases hi with hi | hi
  · have e:i=r:=hi;rw [e];exact hr.lt
  have e:i=m:=hi;rw [e];exact hr.map.lt)
 exact ⟨this.1,h.2.trans this.2⟩
end
theorem SW.addNewR {b:Nat} {w0 w w':World} {l:List Ob} {o':Ob} (h:SW b w0 l w) (hb:Below w.heap.size w w') (hh:o'.holds w') (ho:∀ i,¬ o'.own i) (hr:∀ i,o'.rd i->w.heap.size<=i/\i<w'.heap.size):SW b w0 (o'::l) w':=by
 have:=h.1.add (o':=o') hb hh (fun i hi=>absurd hi (ho i)) (fun i hi=>(hr i hi).2) (fun i hi hlt=>absurd (hr i hi).1 (by omega));exact ⟨this.1,h.2.trans this.2⟩
theorem durs_mem {C:Chs} {y:Ent} (h:y∈durs C):(y.1,Pl.at y.2)∈C:=by
 induction C with
 | nil=>cases h
 | cons c C ih=>
  obtain ⟨i,pl⟩:=c;cases pl with
  | pend d bs=>exact List.mem_cons_of_mem _ (ih h)
  | «at» o=>
   rcases List.mem_cons.1 h with rfl | h
   · exact List.mem_cons_self ..
   exact List.mem_cons_of_mem _ (ih h)
theorem SW.nil (w:World):SW w.heap.size w [] w:=⟨Sep.nil w (Nat.le_refl _),Below.refl _ _⟩
def anyAt (C:Chs) (G:List (ID×Bool)):Bool:=G.any (fun g=>((asc C g.1).map (fun p=> !p.isP)).getD false)
def tlG (v:Bool):List (Int×Bool):=if v then [(1,true)] else []
theorem anyAt_snoc (C:Chs) (G:List (ID×Bool)) (g:ID×Bool):anyAt C (G++[g])=(anyAt C G||((asc C g.1).map (fun p=> !p.isP)).getD false):=by
 unfold anyAt;rw [List.any_append];simp
theorem anyAt_perm {C:Chs} {G K:List (ID×Bool)} (h:G.Perm K):anyAt C G=anyAt C K:=by
 unfold anyAt;rw [Bool.eq_iff_iff,List.any_eq_true,List.any_eq_true];constructor
 · rintro ⟨g,hg,h2⟩;exact ⟨g,h.mem_iff.1 hg,h2⟩
 rintro ⟨g,hg,h2⟩;exact ⟨g,h.mem_iff.2 hg,h2⟩
theorem zero4 (W:World):(zeroValue 4).run Tryz.prog W= .ok (.bool false) W:=by kernel_rfl
theorem look_g {w:World} {gm:Nat} {G:List (ID×Bool)} (h:MapIs okID vID vBl w gm G) {i:ID} (hi:okID i):(Instr.lookup 143 (.map (some gm)) (.agg #[.int .u64 i.1,.int .i64 i.2]) false).run Tryz.prog w= .ok (.bool ((asc G i).getD false)) w:=by
 have:=MapIs.look mkI Tryz.underlying143 (zero4 w) h hi false;rw [show (Value.agg #[.int .u64 i.1,.int .i64 i.2])=vID i from rfl,this];cases asc G i<;>rfl
theorem look_t {w:World} {tm:Nat} {v:Bool} (h:MapIs okN vN vBl w tm (tlG v)):(Instr.lookup 217 (.map (some tm)) (.int .i64 1) false).run Tryz.prog w= .ok (.bool v) w:=by
 have:=MapIs.look mkN Tryz.underlying217 (zero4 w) h okN1 false;rw [show (Value.int .i64 1)=vN 1 from rfl,this];cases v<;>rfl
theorem setL_tl (v:Bool):setL (tlG v) 1 true=tlG true:=by
 cases v<;>simp [tlG,setL]
end
end Go.Proofs.YteabgcollokgjaaGreatDoor
