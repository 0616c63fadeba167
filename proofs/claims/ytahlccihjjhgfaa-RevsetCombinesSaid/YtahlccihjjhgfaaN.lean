/- An argument that is a slice of ranges, opened. -/
import Derived.Test.YtahlccihjjhgfaaB
import Derived.WalkKit
import Derived.ProofKit
import Derived.OpenShut
import Derived.Deep.SlicePairs
namespace Go.Proofs.Ytahlccihjjhgfaa
open Go.ChangeShapes Go.WideShapes Go.ChangeAt Go.RowKit Go.Deep

theorem cell_lt {w : World} {b o : Nat} {v : Value} (h : w.cell? ⟨b, o, none⟩ = some v) : b < w.heap.size := by
  rcases Nat.lt_or_ge b w.heap.size with h1 | h1
  · exact h1
  · exfalso
    simp [World.cell?, Array.getElem?_eq_none h1] at h

theorem open_ranges {H : Type} {enc : TypeId × Value → H} {W : World} {base : Nat} {spare : Nat → Bool} {held : Bool} {A : Option Addr} {len cap : Nat} {d : DataW H} {p : List MemPlace}
    (h : DataW.Trod enc Try.prog W base spare held 22 (.slice A len cap) d p) : ∃ xs : RL, xs.length = len ∧ RdR W W.heap.size A xs ∧ len ≤ cap := by
  obtain ⟨fuel, hf⟩ := h
  rcases open_slice_pairs Try.underlying22 Try.underlying29 (by kernel_rfl) rfl rfl (by kernel_rfl) (by kernel_rfl) hf with ⟨hcs, _⟩ | ⟨a, l, c, m, n, V0, V1, D0, D1, P0, P1, hcs, _, hl, hm, hmm, _, hx⟩
  · simp [Value.cells] at hcs
    obtain ⟨rfl, rfl, rfl⟩ := hcs
    exact ⟨[], rfl, fun hp => absurd hp (by simp), Nat.le_refl _⟩
  · simp [Value.cells] at hcs
    obtain ⟨rfl, rfl, rfl⟩ := hcs
    have hlm : len ≤ m := by rw [hmm]; split <;> omega
    have each : ∀ i, i < len → ∃ q : Int × Int, W.cell? (a.add (i * 2)) = some (.int .i64 q.1) ∧ W.cell? (a.add (i * 2 + 1)) = some (.int .i64 q.2) := by
      intro i hi
      obtain ⟨h1, h2, h3, h4⟩ := hx i (by omega)
      obtain ⟨z1, e1, _⟩ := DataW.trod_int Try.underlying3 h3
      obtain ⟨z2, e2, _⟩ := DataW.trod_int Try.underlying3 h4
      simp at e1 e2
      rw [e1] at h1
      rw [e2] at h2
      exact ⟨(z1, z2), h1, h2⟩
    obtain ⟨q, hq⟩ := choose_lt each
    refine ⟨(List.range len).map q, by simp, fun hp => ?_, hl⟩
    have hp' : 0 < len := by simpa using hp
    obtain ⟨b, off, spot⟩ := a
    have hspot : spot = none := by simpa [Addr.add] using World.cell?_spot (hq 0 hp').1
    subst hspot
    have hadd : ∀ j, (⟨b, off, none⟩ : Addr).add j = ⟨b, off + j, none⟩ := fun j => by unfold Addr.add; split <;> simp_all
    refine ⟨b, off, rfl, ?_, fun j hj => ?_⟩
    · have h1 := (hq 0 hp').1
      rw [hadd] at h1
      exact cell_lt h1
    · have hj' : j < len := by simpa using hj
      have h1 := hq j hj'
      rw [hadd, hadd] at h1
      have e : ((List.range len).map q).getD j (0, 0) = q j := by
        rw [List.getD_eq_getElem?_getD, List.getElem?_map, List.getElem?_range hj']; rfl
      rw [e]
      exact ⟨h1.1, by rw [Nat.add_assoc]; exact h1.2⟩
end Go.Proofs.Ytahlccihjjhgfaa
