/- Opening arguments: a list of numbers, a slice of bytes. -/
import Derived.Test.YtddjkkmdcdiofaaB
import Derived.ChangeSlices
import Derived.ProofKit
namespace Go.Proofs.Ytddjkkmdcdiofaa
open Go.RowKit Go.ChangeShapes

theorem cell_lt {W : World} {b o : Nat} {v : Value} (h : W.cell? ⟨b, o, none⟩ = some v) : b < W.heap.size := by
  rcases Nat.lt_or_ge b W.heap.size with h1 | h1
  · exact h1
  · exfalso
    simp [World.cell?, Array.getElem?_eq_none h1] at h
theorem open_nums {H : Type} {enc : TypeId × Value → H} {W : World} {base : Nat} {spare : Nat → Bool} {held : Bool} {A : Option Addr} {len cap : Nat} {d : DataW H} {p : List MemPlace}
    (h : DataW.Trod enc Try.prog W base spare held 36 (.slice A len cap) d p) : ∃ xs : List Int, xs.length = len ∧ RdT W W.heap.size A xs ∧ len ≤ 9223372036854775807 := by
  obtain ⟨fuel, hf⟩ := h
  rcases Go.ChangeShapes.open_ints Try.underlying36 Try.underlying3 (by kernel_rfl) hf with ⟨hcs, _⟩ | ⟨a, l, c, zs, hcs, _, hl, hm, hz, _, hx, _⟩
  · simp [Value.cells] at hcs
    obtain ⟨rfl, rfl, rfl⟩ := hcs
    exact ⟨[], rfl, fun hp => absurd hp (by simp), by omega⟩
  · simp [Value.cells] at hcs
    obtain ⟨rfl, rfl, rfl⟩ := hcs
    have hlz : len ≤ zs.length := by rw [hz]; split <;> omega
    unfold maxLen at hm
    refine ⟨zs.take len, by rw [List.length_take]; omega, fun hp => ?_, by omega⟩
    have hp' : 0 < len := by rw [List.length_take] at hp; omega
    obtain ⟨b, off, spot⟩ := a
    have h0 := hx 0 (by omega)
    have hspot : spot = none := by simpa [Addr.add] using World.cell?_spot h0
    subst hspot
    have hadd : ∀ j, (⟨b, off, none⟩ : Addr).add j = ⟨b, off + j, none⟩ := fun j => by unfold Addr.add; split <;> simp_all
    rw [hadd] at h0
    refine ⟨b, off, rfl, cell_lt h0, fun j hj => ?_⟩
    rw [List.length_take] at hj
    have := hx j (by omega)
    rw [hadd] at this
    rw [this, List.getD_eq_getElem?_getD, List.getD_eq_getElem?_getD, List.getElem?_take_of_lt (by omega)]
theorem open_bytes {H : Type} {enc : TypeId × Value → H} {W : World} {base : Nat} {spare : Nat → Bool} {held : Bool} {A : Option Addr} {len cap : Nat} {d : DataW H} {p : List MemPlace}
    (h : DataW.Trod enc Try.prog W base spare held 22 (.slice A len cap) d p) : ∃ bs : List UInt8, bs.length = len ∧ (SB W A bs ∧ len ≤ cap ∧ (A = none → cap = 0)) ∧ len ≤ 9223372036854775807 := by
  obtain ⟨fuel, hf⟩ := h
  rcases Go.ChangeShapes.open_ints Try.underlying22 Try.underlying5 (by kernel_rfl) hf with ⟨hcs, _⟩ | ⟨a, l, c, zs, hcs, _, hl, hm, hz, _, hx, hwf⟩
  · simp [Value.cells] at hcs
    obtain ⟨rfl, rfl, rfl⟩ := hcs
    exact ⟨[], rfl, ⟨⟨fun _ => rfl, (fun ad e => by cases e)⟩, Nat.le_refl _, fun _ => rfl⟩, by omega⟩
  · simp [Value.cells] at hcs
    obtain ⟨rfl, rfl, rfl⟩ := hcs
    have hlz : len ≤ zs.length := by rw [hz]; split <;> omega
    unfold maxLen at hm
    refine ⟨(zs.take len).map (fun n => UInt8.ofNat n.toNat), by rw [List.length_map, List.length_take]; omega, ⟨⟨(fun e => by cases e), fun ad e j u hu => ?_⟩, hl, (fun e => by cases e)⟩, by omega⟩
    injection e with e
    subst e
    have hj : j < len := by
      have := (List.getElem?_eq_some_iff.1 hu).1
      simp at this
      omega
    rw [hx j (by omega)]
    rw [List.map_map, List.getElem?_map, List.getElem?_take_of_lt hj, List.getElem?_eq_getElem (by omega)] at hu
    have hm' := hwf zs[j] (List.getElem_mem (by omega))
    simp only [Lit.wf] at hm'
    rw [List.getD_eq_getElem?_getD, List.getElem?_eq_getElem (by omega), ← hu]
    simp only [Option.getD_some, Option.map_some, Function.comp_def, encU]
    have : 0 ≤ zs[j] ∧ zs[j] < 256 := by
      rw [Bool.and_eq_true, decide_eq_true_eq, decide_eq_true_eq, show IntKind.u8.min = 0 from rfl, show IntKind.u8.max = 255 from rfl] at hm'
      omega
    congr 2
    rw [UInt8.toNat_ofNat']
    omega
end Go.Proofs.Ytddjkkmdcdiofaa
