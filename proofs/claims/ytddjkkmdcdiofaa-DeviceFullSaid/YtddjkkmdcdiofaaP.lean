/- A device's frame. -/
import Derived.Test.YtddjkkmdcdiofaaO
namespace Go.Proofs.Ytddjkkmdcdiofaa
open Go.RowKit Go.MapKept Go.ChangeMaps

theorem own_ch {w w' : World} {e : TypeId} {size n : Nat} {v : Value} {xs : List Value} {M : Nat → Prop} {G : List (Nat × Nat)} (h : w.ownsRow 0 e size v n xs) (hc : Ch w w' M G) (hk : ∀ i, some i = v.ownBlock → ¬ M i ∧ ∀ q ∈ G, q.1 ≠ i) : w'.ownsRow 0 e size v n xs := by
  refine ⟨h.1, ?_⟩
  rcases h.2 with h1 | ⟨g, cap, cur, rfl, h2, hh, h3⟩
  · exact .inl h1
  · obtain ⟨k1, k2⟩ := hk g (by simp [Value.ownBlock])
    refine .inr ⟨g, cap, cur, rfl, h2, (hc.block g ?_ k1 k2).trans hh, h3⟩
    exact (Array.getElem?_eq_some_iff.1 hh).1
/-- The byte slices that a device reads. -/
def Rp.reads (r : Rp) (d : BD) : Prop := (∃ e ∈ r.EK, d = e.2.1) ∨ (∃ e ∈ r.EN, d = e.2.1) ∨ ∃ x ∈ r.L, d = x.2
theorem FM.ch {w w' : World} {b : Nat} {E : Files} {M : Nat → Prop} {G : List (Nat × Nat)} (h : FM w b E) (hc : Ch w w' M G) (hb : ¬ M b ∧ ∀ q ∈ G, q.1 ≠ b) (hr : ∀ e ∈ E, (∀ g, blk e.2.1 = some g → ¬ M g) ∧ ∀ q ∈ G, blk e.2.1 = some q.1 → e.2.1.len ≤ q.2) : FM w' b E :=
  h.kept (hc.block b h.1.lt hb.1 hb.2) (fun e he hre => hre.ch hc (hr e he).1 (hr e he).2)
/-- A device survives what touches neither its own blocks nor what it reads. -/
theorem DevN.ch {w w' : World} {p : Nat} {r : Rp} {s : St} {N : FF} {M : Nat → Prop} {G : List (Nat × Nat)} (h : DevN w p r s N) (hc : Ch w w' M G) (ho : ∀ i, r.own p i → ¬ M i ∧ ∀ q ∈ G, q.1 ≠ i) (hr : ∀ d, r.reads d → (∀ g, blk d = some g → ¬ M g) ∧ ∀ q ∈ G, blk d = some q.1 → d.len ≤ q.2) : DevN w' p r s N where
  cells := (hc.block p h.cells.lt (ho p (.inl rfl)).1 (ho p (.inl rfl)).2).trans h.cells
  kept := h.kept.ch hc (ho _ (.inr (.inl rfl))) (fun e he => hr _ (.inl ⟨e, he, rfl⟩))
  now := h.now.ch hc (ho _ (.inr (.inr (.inl rfl)))) (fun e he => hr _ (.inr (.inl ⟨e, he, rfl⟩)))
  two := h.two
  pend := own_ch h.pend hc (fun i hi => ho i (.inr (.inr (.inr hi))))
  ops := fun x hx => ⟨(h.ops x hx).1.ch hc (hr _ (.inr (.inr ⟨x, hx, rfl⟩))).1 (hr _ (.inr (.inr ⟨x, hx, rfl⟩))).2, (h.ops x hx).2⟩
  safe := h.safe
  sK := h.sK
  sO := h.sO
  sN := h.sN
theorem DevN.on {w w' : World} {p : Nat} {r : Rp} {s : St} {N : FF} (h : DevN w p r s N) (hb : Below w.heap.size w w') : DevN w' p r s N :=
  h.ch (Ch.below hb (fun _ => False) []) (fun _ _ => ⟨fun h => h, by simp⟩) (fun _ _ => ⟨fun _ _ h => h, by simp⟩)
end Go.Proofs.Ytddjkkmdcdiofaa
