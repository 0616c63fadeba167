/- Contracts of the leaf functions of package revset. -/
import Derived.Test.YtahlccihjjhgfaaProg
import Derived.WalkKit
import Derived.WalkSpells
import Derived.WalkLawsBesides
import Derived.Deep.QuietTactic
import Derived.BigQuiet
import Derived.Lib.Hide
namespace Go.Proofs.Ytahlccihjjhgfaa
open Go.RowKit

/-- A range is sound. -/
def soundB (a b : Int) : Bool := decide (1 ≤ a ∧ a ≤ b ∧ b ≤ 1073741824)

def rng (a b : Int) : Value := .agg #[.int .i64 a, .int .i64 b]

set_option maxHeartbeats 400000 in
theorem sound_any (a b : Int) (w : World) :
    Calls Try.prog 31 #[.agg #[.int .i64 a, .int .i64 b]] w fun e w' => e = .returned (.bool (soundB a b)) ∧ w.alloc (.cells #[.int .i64 a, .int .i64 b] 29) = w' := by
  by_cases h1 : 1 ≤ a
  · by_cases h2 : a ≤ b
    · by_cases h3 : b ≤ 1073741824
      · have hs : soundB a b = true := by simp [soundB, h1, h2, h3]
        have Hs := Lib.hid hs
        clear hs
        go_enter Try.func31, Try.ntmps31
        go_wp2
        go_ret
        rw [Hs.out]
        exact ⟨rfl, rfl⟩
      · have hs : soundB a b = false := by simp [soundB, h3]
        have Hs := Lib.hid hs
        clear hs
        go_enter Try.func31, Try.ntmps31
        go_wp2
        go_ret
        rw [Hs.out]
        exact ⟨rfl, rfl⟩
    · have hs : soundB a b = false := by simp [soundB, h2]
      have Hs := Lib.hid hs
      clear hs
      go_enter Try.func31, Try.ntmps31
      go_wp2
      go_ret
      rw [Hs.out]
      exact ⟨rfl, rfl⟩
  · have hs : soundB a b = false := by simp [soundB, h1]
    have Hs := Lib.hid hs
    clear hs
    go_enter Try.func31, Try.ntmps31
    go_wp2
    go_ret
    rw [Hs.out]
    exact ⟨rfl, rfl⟩
end Go.Proofs.Ytahlccihjjhgfaa
