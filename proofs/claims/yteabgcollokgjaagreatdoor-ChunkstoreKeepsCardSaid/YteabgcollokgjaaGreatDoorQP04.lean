/- Q -/
import Derived.Test.YteabgcollokgjaaGreatDoorQP03
import Derived.StillTailTactics
import Derived.Deep.RegionLaw
set_option linter.unusedSimpArgs false
set_option linter.unusedVariables false
set_option maxRecDepth 100000
set_option maxHeartbeats 32000000
open Go.Lib (hid)
open Nat renaming le_trans → zA,zero_add → zB
namespace Go.Proofs.YteabgcollokgjaaGreatDoor
section
open Go.RowKit
section
variable {P:Program}
theorem append_block (w:World) (t ty e:TypeId) (i:TypeInfo) (z:Value) (ht:P.underlying t=some (.slice e)) (hi:P.info? e=some i) (hz:i.zero=some z)
 (v:Value) (n:Nat) (xs:List Value) (hown:w.ownsRow 0 e i.size v n xs) (a:Addr) (m c:Nat) (news:List Value) (hl:news.length=m*i.size) (hnews:∀ j u,news[j]? =some u->w.cell? (a.add j)=some u)
 (h1:∀ u∈news,u.oneCell'=true) (hm:0<m) (h63:n+m<=maxLen) (hbytes:(n+m)*i.bytes<=140737488355328) {v':Value} {w':World}
 (hr:(Builtin.append_ #[t,t] ty #[v,.slice (some a) m c]).run P w= .ok v' w'):v'.ownBlock=v.ownBlock∨v'.ownBlock=some w.heap.size:=by
 unfold maxLen at h63;rcases hown.2 with ⟨rfl,rfl⟩ | ⟨g,cap,cur,rfl,_,hg,hnc,_,hcs,htk⟩
 · rw [run_append_nil w t ty e i z ht hi hz a m c news hl hnews hm (by omega) (by rw [zB] at hbytes;omega)] at hr;injection hr with hv _;subst hv;exact .inr rfl
 by_cases hroom:n+m<=cap
 · have hsz:(n+m)*i.size<=cap*i.size:=Nat.mul_le_mul_right _ hroom;rw [Nat.add_mul] at hsz
   rw [run_append_room_cells w t ty e i ht hi g 0 n cap a m c news hl hnews h1 hroom (fun j hj=>by
    rw [cell_of_row w g _ cur e (0,0) hg,Array.getElem?_eq_getElem (by omega)];rfl) (fun j hj=>by simp [World.frozen?, hg])] at hr
   injection hr with hv _;subst hv;exact .inl rfl
 rw [run_append_grow w t ty e i z ht hi hz ⟨g,0,none⟩ n cap xs hown.1 (fun j u hu=>by
  have hj:j<n*i.size:=by
   have:=(List.getElem?_eq_some_iff.1 hu).1;rw [hown.1] at this;exact this
  rw [show (⟨g,0,none⟩:Addr).add j=⟨g,j,none⟩ by unfold Addr.add;split<;>simp_all,cell_of_row w g _ cur e (0,0) hg, <- Array.getElem?_toList, <- hu, <- htk,List.getElem?_take_of_lt hj]) a m c news hl hnews (by omega) (by omega) (growslice_fits (by omega) hbytes)] at hr
 injection hr with hv _;subst hv;exact .inr rfl
theorem step_append_row {w:World} {ops:Array Oper} {o:Oper} {a:Act} {K:Act->World->Prop} {Q:Exit->Act->World->Prop} {E:Prop} (hgd:o.guard=none) (s x:Operand) (t:TypeId)
 (ho:o.op= .call { callee:=.builtin .append,args:= #[s,x],argTypes:= #[t,t] })
 (e:TypeId) (i:TypeInfo) (z:Value) (size bytes:Nat) (ht:P.underlying t=some (.slice e)) (hi:P.info? e=some i) (hz:i.zero=some z)
 (hsize:i.size=size) (hby:i.bytes=bytes) (hzs:z.cells.size=size) (hsz:0<size)
 (v:Value) (n:Nat) (xs:List Value) (hs:a.eval s=v) (hown:w.ownsRow 0 e size v n xs)
 (ad:Addr) (m c:Nat) (news:List Value) (hx:a.eval x= .slice (some ad) m c) (hl:news.length=m*size) (hnews:∀ j u,news[j]? =some u->w.cell? (ad.add j)=some u) (h1:∀ u∈news,u.oneCell'=true)
 (hm:0<m) (h63:n+m<=maxLen) (hbytes:(n+m)*bytes<=140737488355328)
 (h:∀ v' w',w'.ownsRow 0 e size v' (n+m) (xs++news)->w.grownBy w' v.ownBlock->v'.ownBlock=v.ownBlock∨v'.ownBlock=some w.heap.size->K (a.put o.dst v') w'):
 if Region.wanted o (yielded ops a.tmps)=true then Oper.wp P o a w K Q else E:=by
 have hw:Region.wanted o (yielded ops a.tmps)=true:=by simp [Region.wanted,hgd]
 rw [if_pos hw];subst hsize hby;obtain ⟨v',w',hr,h2,h3,_⟩:=run_append_own (P:=P) w 0 t o.type e i z i.size i.bytes ht hi hz rfl rfl hzs hsz v n xs hown ad m c news hl hnews h1 h63 hbytes (Nat.zero_le _);have h4:=append_block w t o.type e i z ht hi hz v n xs hown ad m c news hl hnews h1 hm h63 hbytes hr;unfold Oper.wp execOp;simp only [ho,resolve,invoke,builtin,Sem.run_bind,Sem.run_pure,Result.andThen_ok,List.map_toArray,List.map_cons,List.map_nil,hs,hx,hr];exact h v' w' h2 h3 h4
end
end
section
open Go.RowKit Go.MapKept Go.ChangeMaps
def St.did (s:St) (o:POp):St:={ s with ops:=s.ops++[o],dn:=burnD s.dn s.f,f:=burnF s.f }
def St.cut (s:St):St:={ s with dn:=true,f:=0 }
def DoPost (p:Nat) (r:Rp) (s:St) (o:POp) (d:BD) (w:World) (e:Ending) (w':World):Prop:=
 (s.f=1/\e= .returned (.int .i64 303)/\Dev w' p r s.cut/\Step w w' p r r)∨(s.f≠1/\e= .returned (.int .i64 0)/\∃ r',Dev w' p r' (s.did o)/\StepX (· =d) w w' p r r')
theorem Ch.ones {w w1 w':World} {p:Nat} {M:Nat->Prop} {G:List (Nat×Nat)} (hb:Below w.heap.size w w1) (hg:w1.grownBy w' (some p)) (hM:M p):Ch w w' M G:=
 Ch.after hb ⟨hg.os,hg.tape,hg.output,hg.size,fun i hi hm _=>hg.block i hi (fun e=>hm (by injection e with e;rw [e];exact hM)),fun q _ hm cur hc=>⟨cur,hc.grown hg (fun e=>hm (by injection e with e;rw [e];exact hM)),rfl,fun _ _=>rfl⟩⟩
theorem call_kd (k:Kd) (args:Array Value) (W:World):Sem.run Tryz.prog (callFunc k.fn args) W= .ok (.enter k.fn args) W:=by
 cases k<;>kernel_rfl
theorem IsB.on_drew {w:World} {g:Nat} {t:TypeId} {cs:Array Value} (h:IsB w g t cs):IsB w.drew g t cs:=h
theorem IsB.ch88 {w w':World} {g b:Nat} {cs:Array Value} {E:Files} (h:IsB w g 239 cs) (hm:FM w b E) (hc:Ch w w' (fun i=>i=b) (rooms E)):IsB w' g 239 cs:=by
 refine (hc.block g h.lt (fun e=>is_map hm.1 (by rw [<- e];exact h)) (fun q hq e=>?_)).trans h;obtain ⟨cur,hcur⟩:=rooms_byte hm hq;rw [e] at hcur;exact absurd (IsB.type hcur h) (by decide)
theorem DevN.keeps {w w':World} {p:Nat} {r:Rp} {s:St} {N:FF} {E':Files} (h:DevN w p r s N) (hc:Ch w w' (fun i=>i=r.nb) (rooms r.EN)) (hs:Succ r.EN E' w.heap.size) {d:BD} {bs:List UInt8} (hr:RB w d bs) (hsf:Safe r.EN d):RB w' d bs/\Safe E' d:=
 ⟨hr.ch hc (fun g hg e=>RB.ne_map h.now.1 hr (by rw [hg,e])) (fun q hq hbq=>hsf q hq hbq),hsf.next hs (fun _ hg=>hr.lt hg)⟩
theorem info239:(Tryz.prog.info? 239).map (fun i=>(i.zero,i.size,i.bytes))=some (some (.agg #[.nilFunc,.string ByteArray.empty,.string ByteArray.empty,.slice none 0 0,.bool false]),5,72):=by kernel_rfl
theorem own_on {w w':World} {e:TypeId} {size n:Nat} {v:Value} {xs:List Value} (h:w.ownsRow 0 e size v n xs) (hb:Below w.heap.size w w'):w'.ownsRow 0 e size v n xs:=own_ch h (Ch.below hb (fun _=>False) []) (fun _ _=>⟨fun h=>h,by simp⟩)
theorem op_one (k:Kd) (nm to:ByteArray) (d:BD) (t:Bool):∀ u∈[vFn k,Value.string nm,.string to,.slice d.A d.len d.cap,.bool t],u.oneCell'=true:=by
 intro u hu;simp at hu;rcases hu with rfl | rfl | rfl | rfl | rfl<;>rfl
theorem bel_drew {B:Nat} {w w':World} (h:Below B w w'):Below B w w'.drew:=⟨h.os,h.tape,h.output,h.size,h.block⟩
theorem new_lit_drew (w:World) (t:TypeId) (cs:List Value) (j:Nat) {u:Value} (hu:cs[j]? =some u):(w.alloc (.cells cs.toArray t)).drew.cell? ((⟨w.heap.size,0,none⟩:Addr).add j)=some u:=by
 rw [lit_add,zB];exact (new_cell w t cs.toArray _ rfl j).trans (by simpa using hu)
theorem Roomy.low {G G':List (Nat×Nat)} {H H':Nat} (h:Roomy G G' H') (hH:H<=H'):Roomy G G' H:=fun q hq=>(h q hq).imp (fun h=>zA hH h) id
theorem Ch.wider {w w':World} {M M':Nat->Prop} {G:List (Nat×Nat)} (h:Ch w w' M G) (hM:∀ i,M i->M' i):Ch w w' M' G:=⟨h.os,h.tape,h.output,h.size,fun i hi hm hg=>h.block i hi (fun hh=>hm (hM i hh)) hg,fun p hp hm=>h.bytes p hp (fun hh=>hm (hM _ hh))⟩
theorem Ch.nog {w w':World} {M:Nat->Prop} {G:List (Nat×Nat)} (h:Ch w w' M []):Ch w w' M G:=h.mono (fun _ h=>h) (by simp) (by simp)
theorem RB.grown_ {w w':World} {row:Option Nat} {d:BD} {bs:List UInt8} (h:RB w d bs) (hg:w.grownBy w' row) (hne:¬ ∃ g,blk d=some g/\some g=row):RB w' d bs:=by
 obtain ⟨h1,h2,h3,h4⟩:=h;refine ⟨h1,h2,h3,fun ad e=>?_⟩;obtain ⟨g,cur,rfl,hb,hs,hcur⟩:=h4 ad e;exact ⟨g,cur,rfl,hb.grown hg (fun e2=>hne ⟨g,by simp [blk,e],e2⟩),hs,hcur⟩
theorem DevN.push {w w1 w2:World} {p:Nat} {r:Rp} {s:St} {N:FF} {o:POp} {d:BD} {A:Option Addr} {c:Nat} (h:DevN w p r s N) (hb:Below w.heap.size w w1)
 (ho:w2.ownsRow 0 239 5 (.slice A (r.L.length+1) c) (r.L.length+1) (r.L.flatMap encO++encO (o,d))) (hg:w1.grownBy w2 r.row.ownBlock)
 (hq:(Value.slice A (r.L.length+1) c).ownBlock=r.row.ownBlock∨(Value.slice A (r.L.length+1) c).ownBlock=some w1.heap.size) (hd:RB w d o.bs) (hs:Safe r.EN d):
 DevN (w2.setCell ⟨p,2,none⟩ (.slice A (r.L.length+1) c)) p { r with A:=A,c:=c,L:=r.L++[(o,d)] } { s with ops:=s.ops++[o] } N/\
 Ch w (w2.setCell ⟨p,2,none⟩ (.slice A (r.L.length+1) c)) (r.own p) []/\
 ∀ i,Rp.own { r with A:=A,c:=c,L:=r.L++[(o,d)] } p i->r.own p i∨w.heap.size<=i:=by
 have D1:=h.on hb
 have hrp:some p≠r.row.ownBlock:=fun e=>by
  obtain ⟨cur,hcur⟩:=row_is D1.pend e;exact absurd (IsB.type hcur D1.cells) (by decide)
 have gset:w2.grownBy (w2.setCell ⟨p,2,none⟩ (.slice A (r.L.length+1) c)) (some p):=g_set (p:=⟨p,2,none⟩) (g_refl _ _) (.inl rfl) _;have C2:IsB w2 p 136 (vD (.map (some r.kb)) (.map (some r.nb)) r.row s.dn s.f):=D1.cells.grown hg hrp
 have hmap:∀ {b:Nat} {E:Files},FM w1 b E->FM (w2.setCell ⟨p,2,none⟩ (.slice A (r.L.length+1) c)) b E:=fun {b E} hf=>by
  have h1:FM w2 b E:=hf.kept (hg.block b hf.1.lt (fun e=>by
   obtain ⟨cur,hcur⟩:=row_is D1.pend e;exact is_map hf.1 hcur)) (fun e he hr=>hr.grown_ hg (fun hh=>by
   obtain ⟨g,hg1,hg2⟩:=hh;obtain ⟨cur,hcur⟩:=row_is D1.pend hg2;exact RB.ne_cell hcur (by decide) hr hg1))
  exact h1.kept (gset.block b h1.1.lt (fun e=>by injection e with e;subst e;exact is_map h1.1 C2)) (fun e he hr=>hr.grown gset (RB.ne_cell C2 (by decide) hr))
 have hrd:∀ {d:BD} {bs:List UInt8},RB w1 d bs->RB (w2.setCell ⟨p,2,none⟩ (.slice A (r.L.length+1) c)) d bs:=fun {d bs} hr=>by
  have h1:RB w2 d bs:=hr.grown_ hg (fun hh=>by
   obtain ⟨g,hg1,hg2⟩:=hh;obtain ⟨cur,hcur⟩:=row_is D1.pend hg2;exact RB.ne_cell hcur (by decide) hr hg1)
  exact h1.grown gset (RB.ne_cell C2 (by decide) h1)
 have hnp:some p≠(Value.slice A (r.L.length+1) c).ownBlock:=fun e=>by
  rcases hq with hq | hq
  · exact hrp (by rw [<- hq];exact e)
  rw [hq] at e;injection e with e;have:=D1.cells.lt;omega
 refine ⟨?_,?_,?_⟩
 · exact {
    cells:=by
     have:=C2.set_ 2 (.slice A (r.L.length+1) c);simpa [Rp.row] using this
    kept:=hmap D1.kept
    now:=hmap D1.now
    two:=h.two
    pend:=by
     have:=own_set (p:=⟨p,2,none⟩) ho hnp (.slice A (r.L.length+1) c);simpa [Rp.row] using this
    ops:=fun x hx=>by
     rcases List.mem_append.1 hx with hx | hx
     · exact ⟨hrd (D1.ops x hx).1,(D1.ops x hx).2⟩
     simp at hx;subst hx;exact ⟨hrd (hd.on hb),hs⟩
    safe:=h.safe
    sK:=h.sK
    sO:=by simp [h.sO]
    sN:=h.sN }
 · refine Ch.then (w1:=w1) (Ch.below hb _ _) (Ch.then (w1:=w2) ?_ ?_)
   · exact ⟨hg.os,hg.tape,hg.output,hg.size,fun i hi hm _=>hg.block i hi (fun e=>hm (.inr (.inr (.inr e)))),by simp⟩
   exact ⟨gset.os,gset.tape,gset.output,gset.size,fun i hi hm _=>gset.block i hi (fun e=>hm (.inl (by injection e))),by simp⟩
 rintro i (rfl | rfl | rfl | e)
 · exact .inl (.inl rfl)
 · exact .inl (.inr (.inl rfl))
 · exact .inl (.inr (.inr (.inl rfl)))
 have e':some i=(Value.slice A (r.L.length+1) c).ownBlock:=by simpa [Rp.row] using e
 rcases hq with hq | hq
 · exact .inl (.inr (.inr (.inr (by rw [<- hq];exact e'))))
 rw [hq] at e';injection e' with e';have:=hb.size;exact .inr (by omega)
theorem Roomy.refl (G:List (Nat×Nat)) (H:Nat):Roomy G G H:=fun q hq=> .inr ⟨q,hq,rfl,Nat.le_refl _⟩
theorem do_any (p:Nat) (r:Rp) (s:St) (o:POp) (d:BD) (w:World) (h:Dev w p r s) (hn:okS o.nm) (ht:okS o.to) (hd:RB w d o.bs) (hs:Safe r.EN d) (h0:0<=s.f) (h1:s.f<=9223372036854775807) (hL:r.L.length<=1000000)
 (hl:((s.now o.nm).getD []).length+o.bs.length<=1099511627776):
 Calls Tryz.prog 234 #[.pointer (some ⟨p,0,none⟩),vOp (vFn o.k) o.nm o.to d o.tears] w (DoPost p r s o d w):=by
 obtain ⟨k,nm,to,bs,tears⟩:=o;have H:=hid h;have HW:Hid (Dev (w.alloc (.cells #[vFn k,.string nm,.string to,.slice d.A d.len d.cap,.bool tears] 239)) p r s):=h.on (bel1 _ _);clear h;by_cases hf:s.f=1
 · have Hf:=hid hf;have hb:decide (s.f=1)=true:=by simpa using hf
   go_enter Tryz.func234,Tryz.ntmps234;go_wp2_with (go_at_call 182;refine (burn_any p _ _ _ s.dn s.f _ HW.out.cells h0 h1).mono ?_;rintro e w1 ⟨he,hc1,hg1,hz1⟩;rw [hb] at he;subst he;have C1:=hid hc1;have G1:=hid hg1;clear hc1 hg1 hz1)
   go_ret;have e1:burnD s.dn s.f=true:=by simp [burnD,Hf.out]
   have e2:burnF s.f=0:=by simp [burnF,Hf.out]
   have hc:=C1.out;rw [e1,e2] at hc;exact .inl ⟨Hf.out,rfl,HW.out.cell G1.out hc,⟨Ch.ones (bel1 _ _) G1.out (.inl rfl),fun i hi=> .inl hi,Roomy.refl _ _,fun _ hd=> .inr (From.old hd)⟩⟩
 have Hf:=hid hf;have hb:decide (s.f=1)=false:=by simpa using hf
 have Hd:=hid hd;have Hs:=hid hs;have Hn:=hid hn;have Ht:=hid ht;have Hl:=hid hl;clear hd hs hn ht hl;have Box:Hid (IsB (w.alloc (.cells #[vFn k,.string nm,.string to,.slice d.A d.len d.cap,.bool tears] 239)) w.heap.size 239 #[vFn k,.string nm,.string to,.slice d.A d.len d.cap,.bool tears]):=IsB.new _ _ _;have hBp:w.heap.size≠p:=IsB.ne_ Box.out HW.out.cells (by decide);go_enter Tryz.func234,Tryz.ntmps234;go_wp2_with (go_at_call 182;refine (burn_any p _ _ _ s.dn s.f _ HW.out.cells h0 h1).mono ?_;rintro e w1 ⟨he,hc1,hg1,hz1⟩;rw [hb] at he;subst he;have D1:=hid (HW.out.cell hg1 hc1);have C1:=hid hc1;have G1:=hid hg1;have B1:=hid (Box.out.grown hg1 (fun e=>hBp (by injection e)));clear hc1 hg1 hz1)
 have k0:w1.cell? ⟨w.heap.size,0,none⟩=some (vFn k):=by rw [B1.out.cell];rfl
 have k1:w1.cell? ⟨w.heap.size,1,none⟩=some (.string nm):=by rw [B1.out.cell];rfl
 have k2:w1.cell? ⟨w.heap.size,2,none⟩=some (.string to):=by rw [B1.out.cell];rfl
 have k3:w1.cell? ⟨w.heap.size,3,none⟩=some (.slice d.A d.len d.cap):=by rw [B1.out.cell];rfl
 have k4:w1.cell? ⟨w.heap.size,4,none⟩=some (.bool tears):=by rw [B1.out.cell];rfl
 have k5:w1.cell? ⟨p,1,none⟩=some (.map (some r.nb)):=by rw [C1.out.cell];rfl
 have k6:w1.cell? ⟨p,2,none⟩=some r.row:=by rw [C1.out.cell];rfl
 go_still_tail 7,(by kernel_rfl)
 have hcf:=call_kd k;go_wp2_with fail
 clear hcf;have DD:Hid (DevN w1.drew p r { s with dn:=burnD s.dn s.f,f:=burnF s.f } s.now):=D1.out.on (Below.refl _ _).drew;have Hd1:Hid (RB w1.drew d bs):=((Hd.out.on (bel1 _ _)).grown G1.out (RB.ne_cell HW.out.cells (by decide) (Hd.out.on (bel1 _ _)))).on (Below.refl _ _).drew;refine (op_any r.nb r.EN (vFn k) ⟨k,nm,to,bs,tears⟩ d w1.drew DD.out.now Hn.out Ht.out Hd1.out (by rw [DD.out.sN];exact Hl.out)).mono ?_;rintro e w2 ⟨rfl,E',hf2,ha2,hs2,hc2⟩;have D2:Hid (DevN w2 p { r with EN:=E' } { s with dn:=burnD s.dn s.f,f:=burnF s.f } (applyF s.now ⟨k,nm,to,bs,tears⟩)):=DD.out.op hc2 hf2 hs2 (fun n=>by rw [ha2 n];congr 1;funext m;exact DD.out.sN m);have B2:Hid (IsB w2 w.heap.size 239 #[vFn k,.string nm,.string to,.slice d.A d.len d.cap,.bool tears]):=IsB.ch88 B1.out.on_drew DD.out.now hc2;have Hd2:Hid (RB w2 d bs/\Safe E' d):=DD.out.keeps hc2 hs2 Hd1.out Hs.out;have C2:=hid hc2;have S2:=hid hs2;clear hf2 ha2 hs2 hc2 k0 k1 k2 k3 k4 k5 k6;have k0:w2.cell? ⟨w.heap.size,0,none⟩=some (vFn k):=by rw [B2.out.cell];rfl
 have k1:w2.cell? ⟨w.heap.size,1,none⟩=some (.string nm):=by rw [B2.out.cell];rfl
 have k2:w2.cell? ⟨w.heap.size,2,none⟩=some (.string to):=by rw [B2.out.cell];rfl
 have k3:w2.cell? ⟨w.heap.size,3,none⟩=some (.slice d.A d.len d.cap):=by rw [B2.out.cell];rfl
 have k4:w2.cell? ⟨w.heap.size,4,none⟩=some (.bool tears):=by rw [B2.out.cell];rfl
 have k6:w2.cell? ⟨p,2,none⟩=some r.row:=by rw [D2.out.cells.cell];rfl
 have k7:w2.frozen? ⟨p,2,none⟩=false:=D2.out.cells.frozen 2;go_wp2_with fail
 obtain ⟨i0,hi,hz0,hz1,hz2⟩:=info_parts info239
 have hrl:∀ i,some i=r.row.ownBlock->i<w.heap.size:=fun i hi=>by
  obtain ⟨cur,hcur⟩:=row_is H.out.pend hi;exact hcur.lt
 have hrp:some p≠r.row.ownBlock:=fun e=>by
  obtain ⟨cur,hcur⟩:=row_is D2.out.pend e;exact absurd (IsB.type hcur D2.out.cells) (by decide)
 have Hrl:=hid hrl;have Hrp:=hid hrp;clear hrl hrp;have hpl:=D2.out.cells.lt;go_region_law (refine step_append_row (by rfl) (.tmp 19) (.tmp 21) 134 (by rfl) 239 i0 _ 5 72 Tryz.underlying134 hi hz0 hz1 hz2 rfl (by omega) r.row r.L.length (r.L.flatMap encO) (by rfl) (own_on D2.out.pend (bel_drew (bel1 _ _))) ⟨w2.heap.size,0,none⟩ 1 1 [vFn k,.string nm,.string to,.slice d.A d.len d.cap,.bool tears] (by rfl) (by rfl) (fun j u hu=>new_lit_drew _ _ _ _ hu) (op_one _ _ _ _ _) (by omega) (by unfold maxLen;omega) (by omega) ?_;intro v3 w3 ho3 hg3 hq3;obtain ⟨A3,c3,rfl⟩:=own_slice ho3;have HO3:=hid ho3;have HG3:=hid hg3;have HQ3:=hid hq3;have C3:Hid (IsB w3 p 136 (vD (.map (some r.kb)) (.map (some r.nb)) r.row (burnD s.dn s.f) (burnF s.f))):=(D2.out.cells.on (bel_drew (bel1 _ _))).grown hg3 Hrp.out;have j6:w3.cell? ⟨p,2,none⟩=some r.row:=(C3.out.cell 2).trans rfl;have j7:w3.frozen? ⟨p,2,none⟩=false:=C3.out.frozen 2;clear ho3 hg3 hq3)
 all_goals (
  go_wp2_with fail
  go_ret;obtain ⟨E1,E2,E3⟩:=D2.out.push (o:=⟨k,nm,to,bs,tears⟩) (d:=d) (bel_drew (bel1 _ _)) HO3.out HG3.out HQ3.out Hd2.out.1 Hd2.out.2;have hch:Ch w w2 (r.own p) (rooms r.EN):=Ch.then (Ch.ones (bel1 _ _) G1.out (.inl rfl)) (Ch.after (Below.refl _ _).drew (Ch.wider C2.out (fun i e=> .inr (.inr (.inl e)))));refine .inr ⟨Hf.out,rfl,{ r with EN:=E',A:=A3,c:=c3,L:=r.L++[(⟨k,nm,to,bs,tears⟩,d)] },?_,⟨Ch.then hch (Ch.nog E2),fun i hi=>?_,?_,fun d' hd'=>?_⟩⟩
  · have:St.now (s.did ⟨k,nm,to,bs,tears⟩)=applyF s.now ⟨k,nm,to,bs,tears⟩:=by simp [St.now,St.did]
    show DevN _ p _ _ _;rw [this];exact E1
  · rcases E3 i hi with h | h
    · exact .inl h
    exact .inr (zA (zA (by have:=(bel1 w (.cells #[vFn k,.string nm,.string to,.slice d.A d.len d.cap,.bool tears] 239)).size;exact this) (zA G1.out.size C2.out.size)) h)
  · refine (S2.out.roomy).low ?_;exact zA (bel1 w (.cells #[vFn k,.string nm,.string to,.slice d.A d.len d.cap,.bool tears] 239)).size G1.out.size
  rcases hd' with h | ⟨e,he,rfl⟩ | ⟨y,hy,rfl⟩
  · exact .inr (From.old (.inl h))
  · exact .inr ((From.en S2.out D2.out.now he).low (zA (bel1 w (.cells #[vFn k,.string nm,.string to,.slice d.A d.len d.cap,.bool tears] 239)).size G1.out.size))
  rcases List.mem_append.1 hy with hy | hy
  · exact .inr (From.old (.inr (.inr ⟨y,hy,rfl⟩)))
  simp at hy;subst hy;exact .inl rfl)
def Cnt (f:FF) (n:Nat):Prop:=∃ L:List ByteArray,L.Nodup/\(∀ m,m∈L↔(f m).isSome=true)/\L.length=n
theorem Cnt.uniq {f:FF} {n m:Nat} (h:Cnt f n) (k:Cnt f m):n=m:=by
 obtain ⟨L,h1,h2,rfl⟩:=h;obtain ⟨M,k1,k2,rfl⟩:=k;exact ((List.perm_ext_iff_of_nodup h1 k1).2 (fun a=>(h2 a).trans (k2 a).symm)).length_eq
theorem Cnt.files {w:World} {b:Nat} {E:Files} {f:FF} (h:FM w b E) (hf:∀ n,asc (plain E) n=f n):Cnt f E.length:=by
 refine ⟨(plain E).map (·.1),plain_nodup h,fun m=>?_,by simp [plain]⟩;rw [<- hf m];constructor
 · intro hm;obtain ⟨c,hc,rfl⟩:=List.mem_map.1 hm;obtain ⟨j,hj⟩:=List.mem_iff_getElem?.1 hc;rw [asc_at (plain_nodup h) hj];rfl
 intro hm;cases ha:asc (plain E) m with
 | none=>rw [ha] at hm;cases hm
 | some v=>exact List.mem_map.2 ⟨_,mem_of_asc ha,rfl⟩
theorem Cnt.put {f:FF} {n:Nat} (h:Cnt f n) (nm:ByteArray) (v:List UInt8):Cnt (f.set nm (some v)) (if (f nm).isSome then n else n+1):=by
 obtain ⟨L,h1,h2,rfl⟩:=h;by_cases hs:(f nm).isSome=true
 · rw [if_pos hs];refine ⟨L,h1,fun m=>?_,rfl⟩;unfold FF.set;by_cases e:nm=m
   · subst e;simp [h2,hs]
   simp [e,h2]
 rw [if_neg hs];refine ⟨nm::L,List.nodup_cons.2 ⟨fun hm=>hs ((h2 nm).1 hm),h1⟩,fun m=>?_,rfl⟩;unfold FF.set;by_cases e:nm=m
 · subst e;simp
 simp only [List.mem_cons,if_neg e,h2];constructor
 · rintro (rfl | h)
   · exact absurd rfl e
   exact h
 exact .inr
theorem Cnt.drop {f:FF} {n:Nat} (h:Cnt f n) (nm:ByteArray):Cnt (f.set nm none) (if (f nm).isSome then n-1 else n):=by
 obtain ⟨L,h1,h2,rfl⟩:=h
 have key:∀ m,m∈L.filter (fun x=>decide (x≠nm))↔((f.set nm none) m).isSome=true:=fun m=>by
  unfold FF.set;rw [List.mem_filter];by_cases e:nm=m
  · subst e;simp
  simp only [if_neg e,h2];constructor
  · exact fun h=>h.1
  exact fun h=>⟨h,by simpa using fun e2=>e e2.symm⟩
 refine ⟨L.filter (fun x=>decide (x≠nm)),h1.filter _,key,?_⟩;by_cases hs:(f nm).isSome=true
 · rw [if_pos hs];have hm:=(h2 nm).2 hs
   have hp:L.Perm (nm::L.filter (fun x=>decide (x≠nm))):=by
    refine (List.perm_ext_iff_of_nodup h1 (List.nodup_cons.2 ⟨by simp,h1.filter _⟩)).2 (fun a=>?_);rw [List.mem_cons,List.mem_filter];by_cases e:a=nm
    · subst e;simp [hm]
    simp [e]
   have:=hp.length_eq;simp only [List.length_cons] at this;omega
 rw [if_neg hs]
 have:L.filter (fun x=>decide (x≠nm))=L:=by
  rw [List.filter_eq_self];intro a ha;simp only [decide_eq_true_eq];rintro rfl;exact hs ((h2 a).1 ha)
 rw [this]
def Small (f:FF):Prop:=(∀ n bs,f n=some bs->bs.length<=4194304)/\∃ c,c<=256/\Cnt f c
structure Ok (s:St):Prop where
 f0:0<=s.f
 f1:s.f<=9223372036854775807
 pre:∀ k,Small ((s.ops.take k).foldl applyF s.K)
 ops:∀ o∈s.ops,okS o.nm/\okS o.to/\o.bs.length<=4194304
theorem Ok.now {s:St} (h:Ok s):Small s.now:=by
 have:=h.pre s.ops.length;rwa [List.take_length] at this
theorem Ok.kept {s:St} (h:Ok s):Small s.K:=by
 have:=h.pre 0;simpa using this
theorem Small.len {f:FF} (h:Small f) (n:ByteArray):((f n).getD []).length<=4194304:=by
 cases hf:f n with
 | none=>simp
 | some bs=>exact h.1 n bs hf
theorem Small.set {f:FF} (h:Small f) (nm:ByteArray) (v:List UInt8) (hv:v.length<=4194304) (hc:(f nm).isSome=true∨∀ c,Cnt f c->c<256):Small (f.set nm (some v)):=by
 obtain ⟨h1,c,hc1,hc2⟩:=h;refine ⟨fun n bs hn=>?_,_,?_,hc2.put nm v⟩
 · unfold FF.set at hn;split at hn
   · injection hn with hn;subst hn;exact hv
   exact h1 n bs hn
 split
 · exact hc1
 rename_i hs
 rcases hc with hc | hc
 · exact absurd hc hs
 have:=hc c hc2;omega
theorem Small.del {f:FF} (h:Small f) (nm:ByteArray):Small (f.set nm none):=by
 obtain ⟨h1,c,hc1,hc2⟩:=h;refine ⟨fun n bs hn=>?_,_,?_,hc2.drop nm⟩
 · unfold FF.set at hn;split at hn
   · cases hn
   exact h1 n bs hn
 split<;>omega
theorem Small.move {f:FF} (h:Small f) (nm to:ByteArray) (hne:nm≠to) (hs:(f nm).isSome=true):Small ((f.set to (some ((f nm).getD []))).set nm none):=by
 have hl:=h.len nm;obtain ⟨h1,c,hc1,hc2⟩:=h;refine ⟨fun n bs hn=>?_,_,?_,(hc2.put to _).drop nm⟩
 · unfold FF.set at hn;split at hn
   · cases hn
   split at hn
   · injection hn with hn;subst hn;exact hl
   exact h1 n bs hn
 have:((f.set to (some ((f nm).getD []))) nm).isSome=true:=by
  unfold FF.set;rw [if_neg (fun e=>hne e.symm)];exact hs
 rw [if_pos this];split<;>omega
def gate (s:St) (n:Nat) (o:POp):Int:=match o.k with
 | .create=>if s.dn then 303 else if nameB o.nm then (if 4194304<o.bs.length∨((s.now o.nm).isSome=false/\256<=n) then 302 else 0) else 300
 | .add=>if s.dn then 303 else if nameB o.nm then (if (s.now o.nm).isSome then (if 4194304<((s.now o.nm).getD []).length+o.bs.length then 302 else 0) else 301) else 300
 | .remove=>if s.dn then 303 else if nameB o.nm then (if (s.now o.nm).isSome then 0 else 301) else 300
 | .rename=>if s.dn then 303 else if nameB o.nm&&nameB o.to then (if (s.now o.nm).isSome then 0 else 301) else 300
def reqE (s:St) (n:Nat) (o:POp):Int:=if gate s n o=0 then (if s.f=1 then 303 else 0) else gate s n o
def reqS (s:St) (n:Nat) (o:POp):St:=if gate s n o=0 then (if s.f=1 then s.cut else s.did o) else s
theorem Ok.did {s:St} (h:Ok s) {n:Nat} {o:POp} (hn:Cnt s.now n) (hg:gate s n o=0) (h1:okS o.nm) (h2:okS o.to) (h3:o.bs.length<=4194304):Ok (s.did o) where
 f0:=by
  have:=h.f0;simp only [St.did,burnF];split<;>omega
 f1:=by
  have:=h.f1;simp only [St.did,burnF];split<;>omega
 pre:=fun k=>by
  simp only [St.did];by_cases hk:k<=s.ops.length
  · rw [List.take_append_of_le_length hk];exact h.pre k
  rw [List.take_of_length_le (by simp;omega),List.foldl_append];have hs:Small s.now:=h.now;show Small (applyF s.now o);obtain ⟨k,nm,to,bs,tears⟩:=o;cases k with
  | create=>
   simp only [gate] at hg;split at hg
   · omega
   split at hg
   · split at hg
     · omega
     rename_i hx
     refine hs.set nm bs h3 ?_;by_cases hsm:(s.now nm).isSome=true
     · exact .inl hsm
     refine .inr (fun c hc=>?_);have:=hc.uniq hn;subst this;have:¬ (256<=c):=fun hh=>hx (.inr ⟨by simpa using hsm,hh⟩);omega
   omega
  | add=>
   simp only [gate] at hg;split at hg
   · omega
   split at hg
   · split at hg
     · split at hg
       · omega
       rename_i hsm hx
       exact hs.set nm _ (by rw [List.length_append];simp only at hx |-; omega) (.inl hsm)
     omega
   omega
  | remove=>exact hs.del nm
  | rename=>
   simp only [gate] at hg;split at hg
   · omega
   split at hg
   · split at hg
     · rename_i hsm
       simp only [applyF];split
       · exact hs
       rename_i hne
       exact hs.move nm to hne hsm
     omega
   omega
 ops:=fun x hx=>by
  rcases List.mem_append.1 hx with hx | hx
  · exact h.ops x hx
  simp at hx;subst hx;exact ⟨h1,h2,h3⟩
theorem Ok.cut {s:St} (h:Ok s):Ok s.cut:=⟨by simp [St.cut],by simp [St.cut],h.pre,h.ops⟩
structure DV (w:World) (p:Nat) (r:Rp) (s:St):Prop where
 dev:Dev w p r s
 ok:Ok s
theorem DV.on {w w':World} {p:Nat} {r:Rp} {s:St} (h:DV w p r s) (hb:Below w.heap.size w w'):DV w' p r s:=⟨h.dev.on hb,h.ok⟩
theorem Step.same {w w':World} {p:Nat} {r:Rp} (hb:Below w.heap.size w w'):Step w w' p r r:=⟨Ch.below hb _ _,fun _ hi=> .inl hi,Roomy.refl _ _,fun _ hd=> .inr (From.old hd)⟩
theorem StepX.after {X:BD->Prop} {w w1 w':World} {p:Nat} {r r':Rp} (hb:Below w.heap.size w w1) (h:StepX X w1 w' p r r') (hX:∀ d,X d->∀ g,blk d=some g->w.heap.size<=g):Step w w' p r r':=
 ⟨Ch.after hb h.ch,fun i hi=>(h.own i hi).imp id (fun hh=>zA hb.size hh),h.rooms.low hb.size,fun d hd=> .inr ((h.reads d hd).elim (fun hx=> .inl (hX d hx)) (fun hf=>hf.low hb.size))⟩
theorem Step.after {w w1 w':World} {p:Nat} {r r':Rp} (hb:Below w.heap.size w w1) (h:Step w1 w' p r r'):Step w w' p r r':=StepX.after hb h (fun _ h=>h.elim)
def ReqPost (p:Nat) (r:Rp) (s:St) (o:POp) (w:World) (e:Ending) (w':World):Prop:=
 ∃ n,Cnt s.now n/\e= .returned (.int .i64 (reqE s n o))/\∃ r',DV w' p r' (reqS s n o)/\Step w w' p r r'
theorem req_of_do {p:Nat} {r:Rp} {s:St} {o:POp} {d:BD} {w w1:World} {n:Nat} (hb:Below w.heap.size w w1) (h:Ok s) (hn:Cnt s.now n) (hg:gate s n o=0) (h1:okS o.nm) (h2:okS o.to) (h3:o.bs.length<=4194304) {e:Ending} {w':World} (hX:∀ g,blk d=some g->w.heap.size<=g) (hd:DoPost p r s o d w1 e w'):
 ∃ v,e= .returned (.int .i64 v)/\ReqPost p r s o w (.returned (.int .i64 v)) w':=by
 rcases hd with ⟨hf,rfl,hd,hs⟩ | ⟨hf,rfl,r',hd,hs⟩
 · exact ⟨_,rfl,n,hn,by simp [reqE,hg,hf],r,⟨by simpa [reqS,hg,hf] using hd,by simpa [reqS,hg,hf] using h.cut⟩,Step.after hb hs⟩
 exact ⟨_,rfl,n,hn,by simp [reqE,hg,hf],r',⟨by simpa [reqS,hg,hf] using hd,by simpa [reqS,hg,hf] using h.did hn hg h1 h2 h3⟩,StepX.after hb hs (fun d' e=>by subst e;exact hX)⟩
theorem req_refused {p:Nat} {r:Rp} {s:St} {o:POp} {w w':World} {n:Nat} {v:Int} (hb:Below w.heap.size w w') (h:DV w p r s) (hn:Cnt s.now n) (hg:gate s n o=v) (hv:v≠0):ReqPost p r s o w (.returned (.int .i64 v)) w':=by
 subst hg;exact ⟨n,hn,by simp [reqE,hv],r,by simpa [reqS,hv] using h.on hb,Step.same hb⟩
theorem DevN.has {w:World} {p:Nat} {r:Rp} {s:St} {N:FF} (h:DevN w p r s N) (nm:ByteArray):(asc r.EN nm).isSome=(N nm).isSome:=by
 rw [<- h.sN nm,asc_plain];cases asc r.EN nm<;>rfl
theorem DevN.cnt {w:World} {p:Nat} {r:Rp} {s:St} {N:FF} (h:DevN w p r s N):Cnt N r.EN.length:=Cnt.files h.now h.sN
theorem oks1 {nm:ByteArray} (h:okS nm):∀ n∈[nm],okS n:=by
 intro n hn;simp at hn;subst hn;exact h
theorem oks2 {nm to:ByteArray} (h:okS nm) (h2:okS to):∀ n∈[nm,to],okS n:=by
 intro n hn;simp at hn;rcases hn with rfl | rfl
 · exact h
 exact h2
theorem okS_e:okS ByteArray.empty:=by simp [okS,maxLen]
theorem nm_cells (w:World) (t:TypeId) (ns:List ByteArray):∀ j,j<ns.length->(w.alloc (.cells (ns.map Value.string).toArray t)).cell? ⟨w.heap.size,0+j,none⟩=some (.string (ns.getD j ByteArray.empty)):=by
 intro j hj;rw [zB,new_cell _ _ _ _ rfl,List.getElem?_toArray,List.getElem?_map,List.getElem?_eq_getElem hj,List.getD_eq_getElem?_getD,List.getElem?_eq_getElem hj];rfl
theorem vd_rb (w:World):RB w ⟨none,0,0⟩ []:=⟨rfl,Nat.le_refl _,fun _=>rfl,(fun ad e=>by cases e)⟩
theorem vd_safe (E:Files):Safe E ⟨none,0,0⟩:=fun p _ hb=>by cases hb
theorem Delete_any (p:Nat) (r:Rp) (s:St) (nm:ByteArray) (w:World) (h:DV w p r s) (hn:okS nm) (hL:s.ops.length<=1000000):
 Calls Tryz.prog 180 #[.pointer (some ⟨p,0,none⟩),.string nm] w (ReqPost p r s ⟨.remove,nm,ByteArray.empty,[],false⟩ w):=by
 have HD:Hid (DV (w.alloc (.cells #[.string nm] 9)) p r s):=h.on (bel1 _ _);have H:=hid h;have Hn:=hid hn;have HC:Hid (Cnt s.now r.EN.length):=h.dev.cnt;have HH:Hid ((asc r.EN nm).isSome=(s.now nm).isSome):=h.dev.has nm;have hL2:r.L.length<=1000000:=by rw [<- h.dev.sO] at hL;simpa using hL
 clear h hn hL;by_cases hz:checkP s.dn (s.now nm).isSome [nm]=0
 · have HG:Hid (gate s r.EN.length ⟨.remove,nm,ByteArray.empty,[],false⟩=0):=by
    simp only [checkP] at hz;simp only [Hid,gate];simpa using hz
   have hz':checkP s.dn (asc r.EN nm).isSome [nm]=0:=by rw [HH.out];exact hz
   have Hz:=hid hz';clear hz hz';go_enter Tryz.func180,Tryz.ntmps180;go_wp2_with fail
   refine (check_any p _ _ s.dn s.f r.nb r.EN nm w.heap.size 0 1 [nm] _ HD.out.dev.cells HD.out.dev.now Hn.out (oks1 Hn.out) (by simp) (nm_cells w 9 [nm])).mono ?_;rw [Hz.out];rintro e w1 ⟨rfl,rfl⟩;go_wp2_with fail
   refine (do_any p r s ⟨.remove,nm,ByteArray.empty,[],false⟩ ⟨none,0,0⟩ _ HD.out.dev Hn.out okS_e (vd_rb _) (vd_safe _) H.out.ok.f0 H.out.ok.f1 hL2 (by have:=H.out.ok.now.len nm;simp only [List.length_nil];omega)).mono ?_;intro e w2 hd;obtain ⟨v,rfl,hr⟩:=req_of_do (bel1 w (.cells #[.string nm] 9)) H.out.ok HC.out HG.out Hn.out okS_e (by simp) (fun g hg=>by cases hg) hd;have HR:=hid hr;clear hd hr;go_wp2_with fail
   go_ret;exact HR.out
 obtain ⟨v,Hv⟩:∃ v,Hid (checkP s.dn (asc r.EN nm).isSome [nm]=v):=⟨_,rfl⟩;have hv:v≠0:=by rw [<- Hv.out,HH.out];exact hz
 have hb:(v !=0)=true:=by simpa using hv
 have HG:Hid (gate s r.EN.length ⟨.remove,nm,ByteArray.empty,[],false⟩=v):=by
  rw [Hid, <- Hv.out,HH.out];simp only [checkP,gate];simp
 clear hz;go_enter Tryz.func180,Tryz.ntmps180;go_wp2_with fail
 refine (check_any p _ _ s.dn s.f r.nb r.EN nm w.heap.size 0 1 [nm] _ HD.out.dev.cells HD.out.dev.now Hn.out (oks1 Hn.out) (by simp) (nm_cells w 9 [nm])).mono ?_;rw [Hv.out];rintro e w1 ⟨rfl,rfl⟩;go_wp2_with fail
 go_ret;exact req_refused (bel1 w (.cells #[.string nm] 9)) H.out HC.out HG.out hv
theorem Rename_any (p:Nat) (r:Rp) (s:St) (nm to:ByteArray) (w:World) (h:DV w p r s) (hn:okS nm) (ht:okS to) (hL:s.ops.length<=1000000):
 Calls Tryz.prog 239 #[.pointer (some ⟨p,0,none⟩),.string nm,.string to] w (ReqPost p r s ⟨.rename,nm,to,[],false⟩ w):=by
 have HD:Hid (DV (w.alloc (.cells #[.string nm,.string to] 9)) p r s):=h.on (bel1 _ _);have H:=hid h;have Hn:=hid hn;have Ht:=hid ht;have HC:Hid (Cnt s.now r.EN.length):=h.dev.cnt;have HH:Hid ((asc r.EN nm).isSome=(s.now nm).isSome):=h.dev.has nm;have hL2:r.L.length<=1000000:=by rw [<- h.dev.sO] at hL;simpa using hL
 clear h hn ht hL;by_cases hz:checkP s.dn (s.now nm).isSome [nm,to]=0
 · have HG:Hid (gate s r.EN.length ⟨.rename,nm,to,[],false⟩=0):=by
    simp only [checkP] at hz;simp only [Hid,gate];simpa using hz
   have hz':checkP s.dn (asc r.EN nm).isSome [nm,to]=0:=by rw [HH.out];exact hz
   have Hz:=hid hz';clear hz hz';go_enter Tryz.func239,Tryz.ntmps239;go_wp2_with fail
   refine (check_any p _ _ s.dn s.f r.nb r.EN nm w.heap.size 0 2 [nm,to] _ HD.out.dev.cells HD.out.dev.now Hn.out (oks2 Hn.out Ht.out) (by simp) (nm_cells w 9 [nm,to])).mono ?_;rw [Hz.out];rintro e w1 ⟨rfl,rfl⟩;go_wp2_with fail
   refine (do_any p r s ⟨.rename,nm,to,[],false⟩ ⟨none,0,0⟩ _ HD.out.dev Hn.out Ht.out (vd_rb _) (vd_safe _) H.out.ok.f0 H.out.ok.f1 hL2 (by have:=H.out.ok.now.len nm;simp only [List.length_nil];omega)).mono ?_;intro e w2 hd;obtain ⟨v,rfl,hr⟩:=req_of_do (bel1 w (.cells #[.string nm,.string to] 9)) H.out.ok HC.out HG.out Hn.out Ht.out (by simp) (fun g hg=>by cases hg) hd;have HR:=hid hr;clear hd hr;go_wp2_with fail
   go_ret;exact HR.out
 obtain ⟨v,Hv⟩:∃ v,Hid (checkP s.dn (asc r.EN nm).isSome [nm,to]=v):=⟨_,rfl⟩;have hv:v≠0:=by rw [<- Hv.out,HH.out];exact hz
 have hb:(v !=0)=true:=by simpa using hv
 have HG:Hid (gate s r.EN.length ⟨.rename,nm,to,[],false⟩=v):=by
  rw [Hid, <- Hv.out,HH.out];simp only [checkP,gate];simp
 clear hz;go_enter Tryz.func239,Tryz.ntmps239;go_wp2_with fail
 refine (check_any p _ _ s.dn s.f r.nb r.EN nm w.heap.size 0 2 [nm,to] _ HD.out.dev.cells HD.out.dev.now Hn.out (oks2 Hn.out Ht.out) (by simp) (nm_cells w 9 [nm,to])).mono ?_;rw [Hv.out];rintro e w1 ⟨rfl,rfl⟩;go_wp2_with fail
 go_ret;exact req_refused (bel1 w (.cells #[.string nm,.string to] 9)) H.out HC.out HG.out hv
theorem safe_new {w:World} {b:Nat} {E:Files} (h:FM w b E) {d:BD} (hd:∀ g,blk d=some g->w.heap.size<=g):Safe E d:=fun q hq hb=>by
 obtain ⟨cur,hcur⟩:=rooms_byte h hq;have:=hcur.lt;have:=hd _ hb;omega
theorem SB.on_lt {w w':World} {A:Option Addr} {bs:List UInt8} (h:SB w A bs) (hb:Below w.heap.size w w'):SB w' A bs:=h.on hb h.lt
theorem Create_any (p:Nat) (r:Rp) (s:St) (nm:ByteArray) (A:Option Addr) (c:Nat) (bs:List UInt8) (w:World) (h:DV w p r s) (hn:okS nm) (hs:SB w A bs) (hL:s.ops.length<=1000000) (hbs:bs.length<=9223372036854775807):
 Calls Tryz.prog 238 #[.pointer (some ⟨p,0,none⟩),.string nm,.slice A bs.length c] w (ReqPost p r s ⟨.create,nm,ByteArray.empty,bs,true⟩ w):=by
 have HD:Hid (DV (w.alloc (.cells #[.string nm] 9)) p r s):=h.on (bel1 _ _);have H:=hid h;have Hn:=hid hn;have HS:Hid (SB (w.alloc (.cells #[.string nm] 9)) A bs):=hs.on_lt (bel1 _ _);have HC:Hid (Cnt s.now r.EN.length):=h.dev.cnt;have HH:Hid ((asc r.EN nm).isSome=(s.now nm).isSome):=h.dev.has nm;have hL2:r.L.length<=1000000:=by rw [<- h.dev.sO] at hL;simpa using hL
 have hEN:r.EN.length<=256:=by
  obtain ⟨_,c,hc,hc2⟩:=h.ok.now;have:=hc2.uniq h.dev.cnt;omega
 have hplt:p<w.heap.size:=h.dev.cells.lt;have k1:w.cell? ⟨p,1,none⟩=some (.map (some r.nb)):=(h.dev.cells.cell 1).trans rfl;have hlen:(Builtin.len_ #[133] 3 #[.map (some r.nb)]).run Tryz.prog (w.alloc (.cells #[.string nm] 9))= .ok (.int .i64 r.EN.length) (w.alloc (.cells #[.string nm] 9)):=HD.out.dev.now.1.len Tryz.underlying133 3;clear h hn hL hs;by_cases hz:checkP s.dn (s.now nm).isSome [nm]=0∨checkP s.dn (s.now nm).isSome [nm]=301
 · have hdn:s.dn=false:=by
    cases hd:s.dn with
    | false=>rfl
    | true=>rw [hd] at hz;simp [checkP] at hz
   have hnb:nameB nm=true:=by
    cases hd:nameB nm with
    | true=>rfl
    | false=>rw [hdn] at hz;simp [checkP,hd] at hz
   have HG:Hid (∀ n,gate s n ⟨.create,nm,ByteArray.empty,bs,true⟩=if 4194304<bs.length∨((s.now nm).isSome=false/\256<=n) then 302 else 0):=by
    intro n;simp [gate,hdn,hnb]
   obtain ⟨has,Hhas⟩:∃ b,Hid ((s.now nm).isSome=b):=⟨_,rfl⟩
   have HK:Hid (checkP s.dn (asc r.EN nm).isSome [nm]=if has then 0 else 301):=by
    rw [Hid,HH.out,Hhas.out];simp [checkP,hdn,hnb]
   clear hz;by_cases hbig:4194304<bs.length
   · have HGG:Hid (gate s r.EN.length ⟨.create,nm,ByteArray.empty,bs,true⟩=302):=by rw [Hid,HG.out,if_pos (.inl hbig)]
     cases has
     all_goals (
      clear hdn hnb;go_enter Tryz.func238,Tryz.ntmps238;go_wp2_with fail
      refine (check_any p _ _ s.dn s.f r.nb r.EN nm w.heap.size 0 1 [nm] _ HD.out.dev.cells HD.out.dev.now Hn.out (oks1 Hn.out) (by simp) (nm_cells w 9 [nm])).mono ?_;rw [HK.out];rintro e w1 ⟨rfl,rfl⟩;go_wp2_with fail
      go_ret;exact req_refused (bel1 w (.cells #[.string nm] 9)) H.out HC.out HGG.out (by decide))
   by_cases hful:has=false/\256<=r.EN.length
   · obtain ⟨rfl,hful⟩:=hful;have HGG:Hid (gate s r.EN.length ⟨.create,nm,ByteArray.empty,bs,true⟩=302):=by rw [Hid,HG.out,if_pos (.inr ⟨Hhas.out,hful⟩)]
     clear hdn hnb;go_enter Tryz.func238,Tryz.ntmps238;go_wp2_with fail
     refine (check_any p _ _ s.dn s.f r.nb r.EN nm w.heap.size 0 1 [nm] _ HD.out.dev.cells HD.out.dev.now Hn.out (oks1 Hn.out) (by simp) (nm_cells w 9 [nm])).mono ?_;rw [HK.out];rintro e w1 ⟨rfl,rfl⟩;go_wp2_with fail
     go_ret;exact req_refused (bel1 w (.cells #[.string nm] 9)) H.out HC.out HGG.out (by decide)
   have HGG:Hid (gate s r.EN.length ⟨.create,nm,ByteArray.empty,bs,true⟩=0):=by
    rw [Hid,HG.out,if_neg];rintro (hh | hh)
    · exact hbig hh
    exact hful ⟨by rw [<- Hhas.out];exact hh.1,hh.2⟩
   have hfl:has=false->r.EN.length<256:=fun hh=>by
    have:¬ 256<=r.EN.length:=fun h2=>hful ⟨hh,h2⟩;omega
   clear hful;cases has
   all_goals (
    first | (have hfl2:r.EN.length<256:=hfl rfl) | skip
    clear hdn hnb hfl;go_enter Tryz.func238,Tryz.ntmps238;go_wp2_with fail
    refine (check_any p _ _ s.dn s.f r.nb r.EN nm w.heap.size 0 1 [nm] _ HD.out.dev.cells HD.out.dev.now Hn.out (oks1 Hn.out) (by simp) (nm_cells w 9 [nm])).mono ?_;rw [HK.out];rintro e w1 ⟨rfl,rfl⟩;go_wp2_with fail
    refine (CloneB_any A c bs _ HS.out (by omega)).mono ?_;rintro e w2 ⟨d,rfl,hr2,hf2,hb2⟩;have R2:=hid hr2;have B2:Hid (Below w.heap.size w w2):=(bel1 w (.cells #[.string nm] 9)).trans (hb2.mono (by simp));have S2:Hid (Safe r.EN d):=safe_new HD.out.dev.now hf2;have X2:Hid (∀ g,blk d=some g->w.heap.size<=g):=fun g hg=>zA (by simp) (hf2 g hg);have D2:Hid (DV w2 p r s):=H.out.on B2.out;clear hr2 hf2 hb2;unfold vB;go_wp2_with fail
    refine (do_any p r s ⟨.create,nm,ByteArray.empty,bs,true⟩ d _ D2.out.dev Hn.out okS_e R2.out S2.out H.out.ok.f0 H.out.ok.f1 hL2 (by have:=H.out.ok.now.len nm;simp only;omega)).mono ?_;intro e w3 hd;obtain ⟨v,rfl,hr⟩:=req_of_do B2.out H.out.ok HC.out HGG.out Hn.out okS_e (by simp only;omega) X2.out hd;have HR:=hid hr;clear hd hr;go_wp2_with fail
    go_ret;exact HR.out)
 obtain ⟨v,Hv⟩:∃ v,Hid (checkP s.dn (asc r.EN nm).isSome [nm]=v):=⟨_,rfl⟩;have hv:v≠0:=by rw [<- Hv.out,HH.out];exact fun hh=>hz (.inl hh)
 have hv3:v≠301:=by rw [<- Hv.out,HH.out];exact fun hh=>hz (.inr hh)
 have hb:(v !=0)=true:=by simpa using hv
 have hb3:(v !=301)=true:=by simpa using hv3
 have HG:Hid (gate s r.EN.length ⟨.create,nm,ByteArray.empty,bs,true⟩=v):=by
  rw [HH.out] at Hv;have hv':=Hv.out;simp only [checkP,gate,List.all_cons,List.all_nil,Bool.and_true] at hv' |-; show (if s.dn=true then (303:Int) else _)=v;split at hv'
  · rename_i hd;simp only [hd,if_true] at *; exact hv'
  rename_i hd
  split at hv'
  · split at hv'<;>omega
  rename_i hnm;simp only [hd,hnm] at *; simpa using hv'
 clear hz;go_enter Tryz.func238,Tryz.ntmps238;go_wp2_with fail
 refine (check_any p _ _ s.dn s.f r.nb r.EN nm w.heap.size 0 1 [nm] _ HD.out.dev.cells HD.out.dev.now Hn.out (oks1 Hn.out) (by simp) (nm_cells w 9 [nm])).mono ?_;rw [Hv.out];rintro e w1 ⟨rfl,rfl⟩;go_wp2_with fail
 go_ret;exact req_refused (bel1 w (.cells #[.string nm] 9)) H.out HC.out HG.out hv
end
end Go.Proofs.YteabgcollokgjaaGreatDoor
