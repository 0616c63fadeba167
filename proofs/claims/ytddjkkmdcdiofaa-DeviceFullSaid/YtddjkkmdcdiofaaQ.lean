/- A device after an operation on its files. -/
import Derived.Test.YtddjkkmdcdiofaaP
namespace Go.Proofs.Ytddjkkmdcdiofaa
open Go.RowKit Go.MapKept Go.ChangeMaps

theorem rooms_byte {w : World} {b : Nat} {E : Files} (h : FM w b E) {q : Nat × Nat} (hq : q ∈ rooms E) : ∃ cur, IsB w q.1 5 cur := by
  obtain ⟨e, he, h1⟩ := mem_rooms.1 hq
  exact (h.2.1 e he).room (mem_room.2 h1)
theorem row_is {w : World} {v : Value} {n : Nat} {xs : List Value} (h : w.ownsRow 0 88 5 v n xs) {i : Nat} (hi : some i = v.ownBlock) : ∃ cur, IsB w i 88 cur := by
  rcases h.2 with ⟨rfl, _⟩ | ⟨g, cap, cur, rfl, _, hh, _⟩
  · simp [Value.ownBlock] at hi
  · simp [Value.ownBlock] at hi
    subst hi
    exact ⟨cur, hh⟩
theorem DevN.op {w w' : World} {p : Nat} {r : Rp} {s : St} {N N' : FF} {E' : Files} (h : DevN w p r s N) (hc : Ch w w' (fun i => i = r.nb) (rooms r.EN)) (hf : FM w' r.nb E') (hs : Succ r.EN E' w.heap.size) (hN : ∀ n, asc (plain E') n = N' n) : DevN w' p { r with EN := E' } s N' := by
  have hp : ¬ p = r.nb ∧ ∀ q ∈ rooms r.EN, q.1 ≠ p := ⟨fun e => is_map h.now.1 (by rw [← e]; exact h.cells), fun q hq e => by
    obtain ⟨cur, hcur⟩ := rooms_byte h.now hq
    rw [e] at hcur
    exact absurd (IsB.type hcur h.cells) (by decide)⟩
  have hk : ¬ r.kb = r.nb ∧ ∀ q ∈ rooms r.EN, q.1 ≠ r.kb := ⟨h.two, fun q hq e => by
    obtain ⟨cur, hcur⟩ := rooms_byte h.now hq
    rw [e] at hcur
    exact is_map h.kept.1 hcur⟩
  have hb : ∀ {d : BD} {bs : List UInt8}, RB w d bs → Safe r.EN d → RB w' d bs ∧ Safe E' d := fun hr hsf => ⟨hr.ch hc (fun g hg e => RB.ne_map h.now.1 hr (by rw [hg, e])) (fun q hq hbq => hsf q hq hbq), hsf.next hs (fun g hg => hr.lt hg)⟩
  exact {
    cells := (hc.block p h.cells.lt hp.1 hp.2).trans h.cells
    kept := h.kept.kept (hc.block _ h.kept.1.lt hk.1 hk.2) (fun e he hr => (hb hr (h.safe e he)).1)
    now := hf
    two := h.two
    pend := own_ch h.pend hc (fun i hi => by
      obtain ⟨cur, hcur⟩ := row_is h.pend hi
      refine ⟨fun e => is_map h.now.1 (by rw [← e]; exact hcur), fun q hq e => ?_⟩
      obtain ⟨cur', hcur'⟩ := rooms_byte h.now hq
      rw [e] at hcur'
      exact absurd (IsB.type hcur' hcur) (by decide))
    ops := fun x hx => hb (h.ops x hx).1 (h.ops x hx).2
    safe := fun e he => (hb (h.kept.2.1 e he) (h.safe e he)).2
    sK := h.sK
    sO := h.sO
    sN := hN }
end Go.Proofs.Ytddjkkmdcdiofaa
