/- Q -/
import Derived.Test.YteabgcollokgjaaGreatDoorQP31
set_option linter.unusedSimpArgs false
set_option linter.unusedVariables false
set_option maxRecDepth 100000
set_option maxHeartbeats 32000000
namespace Go.Proofs.YteabgcollokgjaaGreatDoor
section
open Go.RowKit Go.MapKept Go.ChangeMaps Go.Shelf Go.Sort
attribute [local go_sem] wext_cell
theorem ids_strict {r:R3} {P:List (List UInt8)} (h:RTX r P):r.ids.Pairwise (fun a b=>ltID a b=true):=by
 unfold R3.ids;exact List.pairwise_map.2 h.sort
theorem ids_nodup {r:R3} {P:List (List UInt8)} (h:RTX r P):r.ids.Nodup:=(ids_strict h).imp (fun hlt e=>by
 subst e;rw [ltI_irr] at hlt;cases hlt)
end
section
open Go.RowKit Go.MapKept Go.ChangeMaps Go.Shelf Go.Sort
attribute [local go_sem] wext_cell
theorem take_snocD {α:Type} {l:List α} {k:Nat} (d:α) (hk:k<l.length) {e:α} (he:l.getD k d=e):l.take (k+1)=l.take k++[e]:=by
 rw [List.take_succ_eq_append_getElem hk, <- he,List.getD_eq_getElem?_getD,List.getElem?_eq_getElem hk];rfl
end
section
open Go.RowKit Go.MapKept Go.ChangeMaps Go.Shelf Go.Sort
theorem IsText.ok {bs:List UInt8} (h:IsText bs):okID (fpOf bs):=okID_fp bs (by have:=h.hi;omega)
def inOb (A:Option Addr) (L:List Int):Ob where
 own:=fun _=>False
 rd:=fun i=>0<L.length/\∃ o,A=some ⟨i,o,none⟩
 holds:=fun w=>RdT w w.heap.size A L/\L.length<=9223372036854775807
 stable:=fun w w' h hs hk=>by
  refine ⟨fun hp=>?_,h.2⟩;obtain ⟨b,o,e,hlt,hc⟩:=h.1 hp;have h2:=hk b (.inr ⟨hp,o,e⟩);refine ⟨b,o,e,Nat.lt_of_lt_of_le hlt hs.2.2.2,fun j hj=>?_⟩;rw [<- hc j hj];simp [World.cell?, h2]
section
variable {b:Nat} {w0 w w':World} {l:List Ob}
theorem SW.newTape {A:Option Addr} {L:List Int} (h:SW b w0 l w) (hm:inOb A L∈l) (c:Nat) {H:Nat} (hH:w.heap.size=H):SW b w0 (tpOb H A c L 0::l) (w.alloc (.cells #[.slice A L.length c,.int .i64 0] 50)):=by
 subst hH;have hh:RdT w w.heap.size A L/\L.length<=9223372036854775807:=h.1.holds _ hm;have hb:Below w.heap.size w (w.alloc (.cells #[.slice A L.length c,.int .i64 0] 50)):=(Below.refl _ _).alloc (Nat.le_refl _) _;have:=h.1.add (o':=tpOb w.heap.size A c L 0) hb ⟨IsB.new _ _ _,fun hp=>?_,hh.2⟩ (fun i hi=>?_) (fun i hi=>?_) (fun i hi hlt=>h.noOwn hm (fun _ h=>h) hi)
 · exact ⟨this.1,h.2.trans this.2⟩
 · obtain ⟨q,o,e,hlt,hc⟩:=hh.1 hp;exact ⟨q,o,e,by simp;omega,by omega,fun j hj=>(hb.cell hlt).trans (hc j hj)⟩
 · have hi:i=w.heap.size:=hi;rw [hi];exact ⟨Nat.le_refl _,by simp⟩
 obtain ⟨hp,o,e⟩:=hi;obtain ⟨q,o',e',hlt,_⟩:=hh.1 hp;rw [e] at e';injection e' with e';injection e' with e' _;rw [e'];exact Nat.lt_of_lt_of_le hlt (by simp)
theorem SW.ne {i j g g':Nat} {t t':TypeId} {cs cs':Array Value} (h:SW b w0 l w) (hi:l[i]? =some (cellOb g t cs)) (hj:l[j]? =some (cellOb g' t' cs')) (hij:i<j):g≠g':=by
 obtain ⟨h1,e1⟩:=List.getElem?_eq_some_iff.1 hi;obtain ⟨h2,e2⟩:=List.getElem?_eq_some_iff.1 hj;have:=List.pairwise_iff_getElem.1 h.1.apart i j h1 h2 hij;rw [e1,e2] at this;intro e;exact (this.1 g rfl).1 e
abbrev r30:R3:=⟨none,0,none,0,[]⟩
theorem SW.newR3 (h:SW b w0 l w):SW b w0 (r3Ob r30::l) w:=SW.fuse (pre:=[]) h ⟨RowV.nil,RowV.nil,Nat.le_refl _,Nat.le_refl _,by simp,fun e he=>by cases he⟩ (fun _ h=>h) (fun i hi=>by
 rcases hi with ⟨h,_⟩ | ⟨e,he,_⟩
 · simp at h
 cases he)
theorem RTX.empty:RTX r30 []:=⟨List.Pairwise.nil,fun i=>by simp [R3.ids],fun e he=>by cases he⟩
end
theorem SW.startIn {w:World} {A:Option Addr} {L:List Int} (hr:RdT w w.heap.size A L) (hl:L.length<=9223372036854775807):SW w.heap.size w [inOb A L] w:=
 SW.start (o:=inOb A L) ⟨hr,hl⟩ (fun _ h=>h) (fun i hi=>by
  obtain ⟨hp,o,e⟩:=hi;obtain ⟨q,o',e',hlt,_⟩:=hr hp;rw [e] at e';injection e' with e';injection e' with e' _;rw [e'];exact hlt)
section
variable {ns:List ByteArray} {b:Nat} {w0 w w':World} {l:List Ob} {x:SR}
theorem TX.gone {P:List (List UInt8)} (h:TX x P) {ids:List ID} {x':SR} (hg:Gone x ids x'):TX x' (P.filter fun t=> !decide (fpOf t∈ids)):=by
 refine ⟨fun i=>?_,fun t ht=>?_,fun t ht=>h.text t (List.mem_filter.1 ht).1⟩
 · rw [hg.has i,h.has i];by_cases hi:i∈ids
   · simp only [hi,decide_true,Bool.not_true,Bool.false_and];symm
     rw [decide_eq_false_iff_not];intro hm;obtain ⟨t,ht,e⟩:=List.mem_map.1 hm;have:=(List.mem_filter.1 ht).2;rw [e] at this;simp [hi] at this
   simp only [hi,decide_false,Bool.not_false,Bool.true_and];congr 1
   rw [eq_iff_iff];constructor
   · intro hm;obtain ⟨t,ht,e⟩:=List.mem_map.1 hm;exact List.mem_map.2 ⟨t,List.mem_filter.2 ⟨ht,by rw [e];simp [hi]⟩,e⟩
   intro hm;obtain ⟨t,ht,e⟩:=List.mem_map.1 hm;exact List.mem_map.2 ⟨t,(List.mem_filter.1 ht).1,e⟩
 obtain ⟨h1,h2⟩:=List.mem_filter.1 ht;rw [hg.val,if_neg (by simpa using h2)];exact h.val t h1
end
end
section
open Go.RowKit Go.MapKept Go.ChangeMaps Go.Shelf Go.Sort
attribute [local go_sem] wext_cell
end
section
open Go.RowKit Go.MapKept Go.ChangeMaps Go.Shelf Go.Sort
attribute [local go_sem] wext_cell
end
section
open Go.RowKit Go.MapKept Go.ChangeMaps Go.Shelf Go.Sort
attribute [local go_sem] wext_cell
end
end Go.Proofs.YteabgcollokgjaaGreatDoor
