/- The map of counts: its key's law. -/
import Derived.Test.YtjglpmcekbjoaaaG
import Derived.Test.YtjglpmcekbjoaaaMQ
import Derived.DeepKeys4
namespace Go.Proofs.Ytjglpmcekbjoaaa
open Go.RowKit Go.MapKept Go.ChangeMaps
open Go.Maps (Keyed)

def okID (i : ID) : Prop := (Lit.int .u64 i.1).wf = true ∧ (Lit.int .i64 i.2).wf = true
theorem laidOut28 : laidOutB Try.prog = true := by kernel_rfl
theorem row43 : (43 : TypeId) < Try.prog.types.size := of_decide_eq_true (by kernel_rfl)
theorem kta43 : Try.prog.keyTypeAt 2 43 = true := by kernel_rfl
theorem keyed43 : Keyed Try.prog 43 := Keyed.of_law (deep_law_laid laidOut28 (m := 2) (by omega) row43 kta43 (by rw [Try.underlying43]))
theorem types28 : ∃ m, Try.prog.types.size = m + 1 := ⟨Try.prog.types.size - 1, by have h : (43 : Nat) < Try.prog.types.size := row43; omega⟩
theorem kt43 : Try.prog.keyType 43 = true := by kernel_rfl
theorem cellsOf43 : Try.prog.cellsOf 43 = 2 := by kernel_rfl
theorem cellsOf41 : Try.prog.cellsOf 41 = 1 := by kernel_rfl
theorem cellsOf3 : Try.prog.cellsOf 3 = 1 := by kernel_rfl
theorem keyOf43 (i : ID) (h : okID i) : keyOf Try.prog 43 (vID i) = some (.string (keyBytes [.int .u64 i.1, .int .i64 i.2])) := by
  obtain ⟨wa, wb⟩ := h
  obtain ⟨m, hm⟩ := types28
  have hkt := kt43
  unfold keyOf
  simp only [Try.underlying43]
  rw [if_pos (by simp [hkt, Value.formed, Try.underlying43, cellsOf43]), hm]
  unfold Program.keyLits
  simp only [Try.underlying43, Value.cells]
  rw [if_pos (by rw [cellsOf43]; exact ⟨rfl, by simp⟩)]
  simp [cellsOf41, cellsOf3, Program.keyLits, Try.underlying41, Try.underlying3, wa, wb]
theorem mk28 : MK Try.prog 43 okID vID := ⟨keyed43, fun i h => ⟨_, keyOf43 i h⟩, fun a b h => by
  simp [vID] at h
  exact Prod.ext h.1 h.2⟩
abbrev vN (n : Int) : Value := .int .i64 n
/-- Block b is a map of counts that holds L. -/
abbrev Mp (w : World) (b : Nat) (L : List CT) : Prop := MapIs okID vID vN w b L
theorem zero3 (w : World) : (zeroValue 3).run Try.prog w = .ok (.int .i64 0) w := by kernel_rfl
/-- The number at an ID, or 0. -/
def nAt (L : List CT) (i : ID) : Int := (asc L i).getD 0
theorem Mp.look {w : World} {b : Nat} {L : List CT} (h : Mp w b L) (s z : Int) (ha : okID (s, z)) : (Instr.lookup 58 (.map (some b)) (.agg #[.int .u64 s, .int .i64 z]) false).run Try.prog w = .ok (.int .i64 (nAt L (s, z))) w := by
  have := MapIs.look mk28 Try.underlying58 (zero3 w) h ha false
  rw [show (Value.agg #[.int .u64 s, .int .i64 z]) = vID (s, z) from rfl, this]
  unfold nAt
  cases asc L (s, z) <;> simp
end Go.Proofs.Ytjglpmcekbjoaaa
