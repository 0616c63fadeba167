/- A device whose own cells change. -/
import Derived.Test.YtddjkkmdcdiofaaQ
namespace Go.Proofs.Ytddjkkmdcdiofaa
open Go.RowKit Go.MapKept Go.ChangeMaps

theorem RB.ne_cell {w : World} {p : Nat} {t : TypeId} {cs : Array Value} (h : IsB w p t cs) (ht : t ≠ 5) {d : BD} {bs : List UInt8} (hr : RB w d bs) : blk d ≠ some p := by
  intro e
  cases hA : d.A with
  | none => simp [blk, hA] at e
  | some ad =>
    obtain ⟨g, cur, rfl, hg, _⟩ := hr.2.2.2 ad hA
    simp [blk, hA] at e
    subst e
    exact ht (IsB.type h hg)
/-- Only the device's cells change: its power, its fuse. -/
theorem DevN.cell {w w' : World} {p : Nat} {r : Rp} {s : St} {N : FF} {dn : Bool} {f : Int} (h : DevN w p r s N) (hg : w.grownBy w' (some p)) (hc : IsB w' p 81 (vD (.map (some r.kb)) (.map (some r.nb)) r.row dn f)) : DevN w' p r { s with dn := dn, f := f } N := by
  have hm : ∀ {b : Nat} {E : Files}, FM w b E → FM w' b E := fun {b E} hf => hf.kept (hg.block b hf.1.lt (fun e => by injection e with e; subst e; exact is_map hf.1 h.cells)) (fun e he hr => hr.grown hg (RB.ne_cell h.cells (by decide) hr))
  exact {
    cells := hc
    kept := hm h.kept
    now := hm h.now
    two := h.two
    pend := own_ch h.pend (grown_ch hg []) (fun i hi => ⟨fun e => by
      obtain ⟨cur, hcur⟩ := row_is h.pend hi
      rw [e] at hcur
      exact absurd (IsB.type hcur h.cells) (by decide), by simp⟩)
    ops := fun x hx => ⟨(h.ops x hx).1.grown hg (RB.ne_cell h.cells (by decide) (h.ops x hx).1), (h.ops x hx).2⟩
    safe := h.safe
    sK := h.sK
    sO := h.sO
    sN := h.sN }
end Go.Proofs.Ytddjkkmdcdiofaa
