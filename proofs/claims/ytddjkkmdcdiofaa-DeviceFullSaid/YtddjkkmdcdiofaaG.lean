/- Contracts: create, rename, add. -/
import Derived.Test.YtddjkkmdcdiofaaF
namespace Go.Proofs.Ytddjkkmdcdiofaa
open Go.RowKit Go.MapKept Go.ChangeMaps

set_option maxRecDepth 100000 in
set_option maxHeartbeats 4000000 in
theorem create_any (b : Nat) (E : Files) (run : Value) (nm to : ByteArray) (A : Option Addr) (c : Nat) (tears : Bool) (bs : List UInt8) (w : World) (h : FM w b E) (hn : okS nm) (hd : RB w ⟨A, bs.length, c⟩ bs) (hl : bs.length ≤ 1099511627776) :
    Calls Try.prog 49 #[.map (some b), .agg #[run, .string nm, .string to, .slice A bs.length c, .bool tears]] w (OpPost b E (setL (plain E) nm bs) w) := by
  have H := Lib.hid h
  have Hd := Lib.hid hd
  have Hn := Lib.hid hn
  have hblt := h.1.lt
  clear h hd hn
  go_enter Try.func49, Try.ntmps49
  go_wp2_with fail
  have Box : Hid (IsB (w.alloc (.cells #[run, .string nm, .string to, .slice A bs.length c, .bool tears] 88)) w.heap.size 88 #[run, .string nm, .string to, .slice A bs.length c, .bool tears]) := IsB.new _ _ _
  have HW : Hid (FM (w.alloc (.cells #[run, .string nm, .string to, .slice A bs.length c, .bool tears] 88)) b E) := H.out.on (bel1 _ _)
  have HS : Hid (SB (w.alloc (.cells #[run, .string nm, .string to, .slice A bs.length c, .bool tears] 88)) A bs) := (Hd.out.on (bel1 _ _)).src
  have hs0 : w.heap.size + 1 = (w.alloc (.cells #[run, .string nm, .string to, .slice A bs.length c, .bool tears] 88)).heap.size := by simp
  have HB0 : Hid (Below w.heap.size w (w.alloc (.cells #[run, .string nm, .string to, .slice A bs.length c, .bool tears] 88))) := bel1 _ _
  have c1 : (w.alloc (.cells #[run, .string nm, .string to, .slice A bs.length c, .bool tears] 88)).cell? ⟨w.heap.size, 1, none⟩ = some (.string nm) := new_cell _ _ _ _ rfl 1
  have c3 : (w.alloc (.cells #[run, .string nm, .string to, .slice A bs.length c, .bool tears] 88)).cell? ⟨w.heap.size, 3, none⟩ = some (.slice A bs.length c) := new_cell _ _ _ _ rfl 3
  generalize w.alloc (.cells #[run, .string nm, .string to, .slice A bs.length c, .bool tears] 88) = W at *
  have hsW : w.heap.size < W.heap.size := by omega
  have HSd : Hid (SB W.drew A bs) := HS.out
  clear hs0
  go_region_held3 (fun w' => w'.cell? ⟨w.heap.size, 1, none⟩ = some (.string nm) ∧ w'.cell? ⟨w.heap.size, 3, none⟩ = some (.slice A bs.length c))
    (first | go_keep | (refine ⟨?_, ?_⟩ <;> (first | (rw [K4.out.cell]; rfl) | (rw [K1.out.cell]; rfl))))
    (first
      | (go_at_call 50; (with_reducible refine (CloneB_any A c bs W.drew HSd.out hl).mono ?_); rintro e w3 ⟨d3, rfl, hr3, hf3, hb3'⟩; have hb3 := of_drew hb3'; have K1 := Lib.hid (Box.out.on hb3); have H3 := Lib.hid (HW.out.on hb3); have R3 := Lib.hid hr3; have F3 : Hid (∀ g, blk d3 = some g → W.heap.size ≤ g) := hf3; have B3 : Hid (Below w.heap.size w w3) := HB0.out.trans (hb3.mono (show w.heap.size ≤ W.heap.size by omega)); obtain ⟨w4, hu, hm4, hg4, hz4⟩ := MapIs.update mkS Try.underlying78 H3.out.1 Hn.out (d3, bs); have hu' : (Instr.mapUpdate 78 (.map (some b)) (.string nm) (vB d3)).run Try.prog w3 = .ok () w4 := hu; have M4 := Lib.hid hm4; have G4 := Lib.hid hg4; have K4 : Hid (IsB w4 w.heap.size 88 #[run, .string nm, .string to, .slice A bs.length c, .bool tears]) := K1.out.grown hg4 (fun e => is_map H3.out.1 (by injection e with e; rw [← e]; exact K1.out)); clear hr3 hf3 hb3 hb3' hu hm4 hg4 hz4))
  all_goals (
    go_wp2_with fail
    go_end0
    have hne : ∀ e ∈ E, e.1 ≠ nm → ∀ g, blk e.2.1 = some g → blk d3 ≠ some g := fun e he _ g hg hg' => by
      have h1 := (HW.out.2.1 e he).lt hg
      have h2 := F3.out g hg'
      omega
    refine ⟨rfl, setL E nm (d3, bs), H3.out.set_ M4.out G4.out R3.out hne, plain_setL E nm (d3, bs), fun e he g hg => ?_, Ch.after B3.out (grown_ch G4.out _)⟩
    rcases (setL_pairwise (R := fun _ _ => True) H3.out.1.nodup (List.pairwise_of_forall (by simp)) nm (d3, bs) (by simp) (by simp)).2 e he with rfl | he
    · exact .inl (by have := F3.out g hg; omega)
    · exact .inr ⟨e, he, hg, Nat.le_refl _, rfl⟩)
end Go.Proofs.Ytddjkkmdcdiofaa
