/- Contracts of the walk, part 41. -/
import Derived.Test.YtmiknfneeipkeaaGreatRows
import Derived.Test.YtmiknfneeipkeaaGreatS24
import Derived.Test.YtmiknfneeipkeaaGreatS40
namespace Go.Proofs.YtmiknfneeipkeaaGreat
open Go.RowKit Go.ChangeShapes Go.Deep
namespace bulks
theorem one_le {H:Type} (d:DataW H):1<=Rows.uptoBulk d:=by
 cases d with
 | lit l=>cases l<;>simp [Rows.uptoBulk]
 | nil=>simp [Rows.uptoBulk]
 | ptr d=>simp [Rows.uptoBulk]
 | slice elems spare=>simp [Rows.uptoBulk]
 | agg parts=>simp [Rows.uptoBulk]
 | iface t d=>simp [Rows.uptoBulk]
 | map entries=>simp [Rows.uptoBulk]
 | held h=>simp [Rows.uptoBulk]
theorem length_le {H:Type} (l:List (DataW H)):l.length<=Rows.uptoBulkAll l:=by
 induction l with
 | nil=>simp [Rows.uptoBulkAll]
 | cons x r ih=>have:=one_le x;simp only [Rows.uptoBulkAll,List.length_cons];omega
theorem slice_elems {H:Type} (elems spare:List (DataW H)):Rows.uptoBulkAll elems+1<=Rows.uptoBulk (.slice elems spare):=by
 simp only [Rows.uptoBulk];omega
end bulks
end Go.Proofs.YtmiknfneeipkeaaGreat
namespace Go.Proofs.YtmiknfneeipkeaaGreat
open Go.RowKit Go.MapKept Go.ChangeMaps Go.Shelf Go.Sort
theorem rs_of_sb {w:World} {A:Option Addr} {bs:List UInt8} (h:SB w A bs):RS w A bs/\∀ i,(0<bs.length/\∃ o,A=some ⟨i,o,none⟩)->i<w.heap.size:=by
 have key:∀ ad:Addr,A=some ad->∀ j,j<bs.length->w.cell? (ad.add j)=some (encU (bs.getD j 0)):=fun ad e j hj=>by
  refine h.2 ad e j _ ?_;rw [List.getElem?_map,List.getElem?_eq_getElem hj,List.getD_eq_getElem?_getD,List.getElem?_eq_getElem hj];rfl
 refine ⟨⟨h.1,fun ad e hp=>?_⟩,fun i hi=>?_⟩
 · obtain ⟨b,off,spot⟩:=ad;have h0:=key _ e 0 hp;have hspot:spot=none:=by simpa [Addr.add] using World.cell?_spot h0
   subst hspot;refine ⟨b,off,rfl,fun j hj=>?_⟩;have h1:=key _ e j hj;rw [lit_add] at h1;exact h1
 obtain ⟨hp,o,e⟩:=hi;have h1:=key _ e 0 hp;rw [lit_add] at h1;exact cell_lt h1
open Go.ChangeShapes Go.Deep in
theorem bytes_bulk {H:Type} {enc':TypeId×Value->H} {W:World} {base:Nat} {spare:Nat->Bool} {held:Bool} {A:Option Addr} {len cap:Nat} {d:DataW H} {p:List MemPlace} (h:DataW.Trod enc' Tryz.prog W base spare held 40 (.slice A len cap) d p):len=0∨len+1<=Rows.uptoBulk d:=by
 obtain ⟨fuel,hf⟩:=h;rcases open_slice Tryz.underlying40 hf with ⟨hcs,_⟩ | ⟨a,l,c,m,n,D,Pl,hcs,hb,hl,hm,hmm,hdp,hx⟩
 · simp [Value.cells] at hcs;exact .inl hcs.2.1
 simp [Value.cells] at hcs;obtain ⟨rfl,rfl,rfl⟩:=hcs;have hd:d= .slice ((List.range len).map D) ((List.range (m-len)).map fun j=>D (len+j)):=congrArg Prod.fst hdp;have h1:=bulks.length_le ((List.range len).map D);have h2:=bulks.slice_elems ((List.range len).map D) ((List.range (m-len)).map fun j=>D (len+j));rw [List.length_map,List.length_range] at h1;right
 rw [hd];omega
open Go.ChangeShapes Go.Deep in
theorem id_bulk {H:Type} {enc':TypeId×Value->H} {W:World} {base:Nat} {spare:Nat->Bool} {held:Bool} {v:Value} {d:DataW H} {p:List MemPlace} (h:DataW.Trod enc' Tryz.prog W base spare held 36 v d p):3<=Rows.uptoBulk d:=by
 obtain ⟨fuel,hf⟩:=h;obtain ⟨y0,y1,n',hx,_,_,_⟩:=trod_struct2 Tryz.underlying36 hf;have hd:d= .agg [y0.1,y1.1]:=congrArg Prod.fst hx;have h1:=bulks.one_le y0.1;have h2:=bulks.one_le y1.1;rw [hd];simp only [Rows.uptoBulk,Rows.uptoBulkAll];omega
theorem law5 {RA:Option Addr} {raw:List UInt8} {q:Nat} (e2:raw.length=q) (rc:Nat) {A:Option Addr} {L:List Int} {n:Nat} (e:L.length=n) (cap:Nat) (i1 i2:Int) (w:World) (hS:SB w RA raw/\q<=rc/\(RA=none->rc=0)) (hr:RdT w w.heap.size A L) (hl:n<=9223372036854775807) (hq:q<=1048571):
 Calls Tryz.prog 5 #[.slice RA q rc,.slice A n cap,.agg #[.int .u64 i1,.int .i64 i2]] w (fun e w'=>e= .returned (.bool true)/\Below w.heap.size w w'):=by
 subst e;subst e2;obtain ⟨hR,hRl⟩:=rs_of_sb hS.1
 have S0:SW w.heap.size w [inOb A L,rsOb RA raw] w:=SW.starts (fun o hm=>by
  rcases List.mem_cons.1 hm with rfl | hm
  · refine ⟨⟨hr,hl⟩,fun _ h=>h,fun i hi=>?_⟩;obtain ⟨hp,o,e⟩:=hi;obtain ⟨q,o',e',hlt,_⟩:=hr hp;rw [e] at e';injection e' with e';injection e' with e' _;rw [e'];exact hlt
  rw [List.mem_singleton.1 hm];exact ⟨hR,fun _ h=>h,hRl⟩)
 exact law5_any S0 (.head _) cap (.tail _ (.head _)) rc ⟨hS.2.2,hS.2.1⟩ hq i1 i2
end Go.Proofs.YtmiknfneeipkeaaGreat
