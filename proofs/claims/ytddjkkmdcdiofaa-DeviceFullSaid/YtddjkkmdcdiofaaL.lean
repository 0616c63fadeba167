/- Contracts: Clone of maps. -/
import Derived.Test.YtddjkkmdcdiofaaK
import Derived.Laws.Externs
import Derived.WalkKit
namespace Go.Proofs.Ytddjkkmdcdiofaa
open Go.RowKit Go.MapKept Go.ChangeMaps

theorem FM.clone {w : World} {b : Nat} {E : Files} (h : FM w b E) {es : Array MapEntry} {clock : Nat} (hb : w.heap[b]? = some (.map es clock)) : FM (w.alloc (.map es clock)) w.heap.size E := by
  refine ⟨?_, fun e he => (h.2.1 e he).on (bel1 _ _), h.2.2⟩
  obtain ⟨es', clock', h1, h2⟩ := h.1
  rw [h1] at hb
  injection hb with hb
  injection hb with e1 e2
  subst e1 e2
  exact ⟨es', clock', heap_alloc_new w _, h2⟩
theorem eq_map_nil (w : World) (b : Nat) : (binOp .eql 78 (.map (some b)) (.map none)).run Try.prog w = .ok (.bool false) w := by
  have k : ∀ d, (Op.equalIn (d + 1) 78 (.map (some b)) (.map none)).run Try.prog w = .ok false w := fun d => by simp [Op.equalIn, run_underlying Try.underlying78]
  simp only [binOp]
  simp [show Op.equal 78 (.map (some b)) (.map none) = Op.equalIn (9999 + 1) 78 (.map (some b)) (.map none) from rfl, k 9999]
theorem as_map (w : World) (b : Nat) : (Instr.typeAssert (.iface 78 (.map (some b))) 20 78 false).run Try.prog w = .ok (.map (some b)) w := by
  simp [Instr.typeAssert, run_underlying Try.underlying78, go_sem, Result.andThen]
theorem clone_map (w : World) {b : Nat} {es : Array MapEntry} {clock : Nat} (hb : w.heap[b]? = some (.map es clock)) :
    (Extern.MapsClone.clone #[.iface 78 (.map (some b))]).run Try.prog w = .ok (.iface 78 (.map (some w.heap.size))) (w.alloc (.map es clock)) := by
  show (getObj b >>= _).run Try.prog w = _
  simp [MapKept.run_getObj_map hb, Result.andThen, go_sem]
set_option maxRecDepth 100000 in
set_option maxHeartbeats 2000000 in
theorem mapsClone_any (b : Nat) (E : Files) (w : World) (h : FM w b E) :
    Calls Try.prog 52 #[.map (some b)] w (fun e w' => e = .returned (.map (some w.heap.size)) ∧ FM w' w.heap.size E ∧ Below w.heap.size w w' ∧ w'.heap.size = w.heap.size + 1) := by
  obtain ⟨es, clock, hb, _⟩ := id h.1
  have hq := fun w => eq_map_nil w b
  have H := Lib.hid h
  have Hb := Lib.hid hb
  clear h
  go_enter Try.func52, Try.ntmps52
  go_wp2_with fail
  rw [run_callFunc_extern Try.func67 (by kernel_rfl) (by kernel_rfl) (by kernel_rfl) (e := Extern.MapsClone.clone) (by kernel_rfl), clone_map w Hb.out]
  simp only [Result.andThen]
  rw [Oper.upon_value]
  go_wp2_with fail
  rw [as_map]
  simp only [Result.andThen]
  rw [Oper.upon_value]
  go_wp2_with fail
  go_ret
  exact ⟨rfl, H.out.clone Hb.out, bel1 _ _, by simp⟩
end Go.Proofs.Ytddjkkmdcdiofaa
