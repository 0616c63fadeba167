/- Q -/
import Derived.Test.YteabgcollokgjaaGreatDoorQC30
import Derived.ChangeSlices
import Derived.ProofKit
set_option linter.unusedSimpArgs false
set_option linter.unusedVariables false
set_option maxRecDepth 100000
set_option maxHeartbeats 32000000
namespace Go.Proofs.YteabgcollokgjaaGreatDoor
section
open Go.RowKit Go.MapKept Go.ChangeMaps Go.Shelf Go.Sort
theorem law10 {A:Option Addr} {L:List Int} {n:Nat} (e:L.length=n) (cap:Nat) (w:World) (hr:RdT w w.heap.size A L) (hl:n<=9223372036854775807):Calls Tryz.prog 10 #[.slice A n cap] w (fun e w'=>e= .returned (.bool true)/\Below w.heap.size w w'):=by
 subst e;exact law10_any (SW.startIn hr hl) (by simp) cap
end
section
open Go.RowKit Go.ChangeShapes
theorem cell_lt {W:World} {b o:Nat} {v:Value} (h:W.cell? ⟨b,o,none⟩=some v):b<W.heap.size:=by
 rcases Nat.lt_or_ge b W.heap.size with h1 | h1
 · exact h1
 exfalso
 simp [World.cell?, Array.getElem?_eq_none h1] at h
theorem open_nums {H:Type} {enc:TypeId×Value->H} {W:World} {base:Nat} {spare:Nat->Bool} {held:Bool} {A:Option Addr} {len cap:Nat} {d:DataW H} {p:List MemPlace}
 (h:DataW.Trod enc Tryz.prog W base spare held 47 (.slice A len cap) d p):∃ xs:List Int,xs.length=len/\RdT W W.heap.size A xs/\len<=9223372036854775807:=by
 obtain ⟨fuel,hf⟩:=h;rcases Go.ChangeShapes.open_ints Tryz.underlying47 Tryz.underlying3 (by kernel_rfl) hf with ⟨hcs,_⟩ | ⟨a,l,c,zs,hcs,_,hl,hm,hz,_,hx,_⟩
 · simp [Value.cells] at hcs;obtain ⟨rfl,rfl,rfl⟩:=hcs;exact ⟨[],rfl,fun hp=>absurd hp (by simp),by omega⟩
 simp [Value.cells] at hcs;obtain ⟨rfl,rfl,rfl⟩:=hcs;have hlz:len<=zs.length:=by rw [hz];split<;>omega
 unfold maxLen at hm;refine ⟨zs.take len,by rw [List.length_take];omega,fun hp=>?_,by omega⟩;have hp':0<len:=by rw [List.length_take] at hp;omega
 obtain ⟨b,off,spot⟩:=a;have h0:=hx 0 (by omega);have hspot:spot=none:=by simpa [Addr.add] using World.cell?_spot h0
 subst hspot;have hadd:∀ j,(⟨b,off,none⟩:Addr).add j=⟨b,off+j,none⟩:=fun j=>by unfold Addr.add;split<;>simp_all
 rw [hadd] at h0;refine ⟨b,off,rfl,cell_lt h0,fun j hj=>?_⟩;rw [List.length_take] at hj;have:=hx j (by omega);rw [hadd] at this;rw [this,List.getD_eq_getElem?_getD,List.getD_eq_getElem?_getD,List.getElem?_take_of_lt (by omega)]
end
end Go.Proofs.YteabgcollokgjaaGreatDoor
