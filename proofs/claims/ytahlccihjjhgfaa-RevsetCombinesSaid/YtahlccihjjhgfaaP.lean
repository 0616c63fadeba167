/- Plain facts: the numbers of ranges, in order. -/
import Derived.Below
namespace Go.Proofs.Ytahlccihjjhgfaa

/-- a, a + 1, .. (j numbers). -/
def ints (a : Int) (j : Nat) : List Int := (List.range j).map fun (i : Nat) => a + (i : Int)
theorem ints_succ (a : Int) (j : Nat) : ints a (j + 1) = ints a j ++ [a + (j : Int)] := by
  unfold ints; rw [List.range_succ, List.map_append]; rfl
theorem ints_length (a : Int) (j : Nat) : (ints a j).length = j := by unfold ints; simp

/-- All numbers of the first k ranges. -/
def allM (xs : List (Int × Int)) : Nat → List Int
  | 0 => []
  | k + 1 => allM xs k ++ ints (xs.getD k (0, 0)).1 ((xs.getD k (0, 0)).2 + 1 - (xs.getD k (0, 0)).1).toNat

/-- The least numbers. -/
def memb (xs : List (Int × Int)) (most : Int) : List Int := (allM xs xs.length).take most.toNat

theorem take_push {L : List Int} {m : Nat} {x : Int} (h : (L.take m).length < m) : (L ++ [x]).take m = L.take m ++ [x] := by
  have hl : L.length < m := by rw [List.length_take] at h; omega
  rw [List.take_of_length_le (by simp; omega), List.take_of_length_le (by omega)]
theorem take_full {L R : List Int} {m : Nat} (h : m ≤ (L.take m).length) : (L ++ R).take m = L.take m := by
  have hl : m ≤ L.length := by rw [List.length_take] at h; omega
  rw [List.take_append_of_le_length hl]
theorem ints_split (a : Int) (j k : Nat) (h : j ≤ k) : ∃ R, ints a k = ints a j ++ R := by
  refine ⟨(ints a k).drop j, ?_⟩
  have : ints a j = (ints a k).take j := by
    unfold ints
    rw [← List.map_take, List.take_range, Nat.min_eq_left h]
  rw [this, List.take_append_drop]
end Go.Proofs.Ytahlccihjjhgfaa
