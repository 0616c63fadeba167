/- Plain facts: rows of ranges, and what extend does. -/
import Derived.Below
namespace Go.Proofs.Ytahlccihjjhgfaa

def encR (x : Int × Int) : List Value := [.int .i64 x.1, .int .i64 x.2]
def flatR (S : List (Int × Int)) : List Value := S.flatMap encR
theorem flatR_length (S : List (Int × Int)) : (flatR S).length = S.length * 2 := by
  induction S with
  | nil => rfl
  | cons x S ih => simp only [flatR, List.flatMap_cons, List.length_append] at *; simp [encR, ih]; omega
theorem flatR_append (S T : List (Int × Int)) : flatR (S ++ T) = flatR S ++ flatR T := by simp [flatR]
theorem flatR_fst (S : List (Int × Int)) (j : Nat) (h : j < S.length) : (flatR S)[j * 2]? = some (.int .i64 (S.getD j (0, 0)).1) := by
  induction S generalizing j with
  | nil => simp at h
  | cons x S ih =>
    cases j with
    | zero => simp [flatR, encR]
    | succ j =>
      have := ih j (by simpa using h)
      simp only [flatR, List.flatMap_cons] at *
      rw [List.getElem?_append_right (by simp [encR]; omega)]
      rw [show (j + 1) * 2 - (encR x).length = j * 2 by simp [encR]; omega, this]
      simp
theorem flatR_snd (S : List (Int × Int)) (j : Nat) (h : j < S.length) : (flatR S)[j * 2 + 1]? = some (.int .i64 (S.getD j (0, 0)).2) := by
  induction S generalizing j with
  | nil => simp at h
  | cons x S ih =>
    cases j with
    | zero => simp [flatR, encR]
    | succ j =>
      have := ih j (by simpa using h)
      simp only [flatR, List.flatMap_cons] at *
      rw [List.getElem?_append_right (by simp [encR]; omega)]
      rw [show (j + 1) * 2 + 1 - (encR x).length = j * 2 + 1 by simp [encR]; omega, this]
      simp
theorem flatR_set (S : List (Int × Int)) (x : Int × Int) (u : Int) : (flatR (S ++ [x])).set (S.length * 2 + 1) (.int .i64 u) = flatR (S ++ [(x.1, u)]) := by
  rw [flatR_append, flatR_append, List.set_append_right _ _ (by rw [flatR_length]; omega), flatR_length]
  congr 1
  rw [show S.length * 2 + 1 - S.length * 2 = 1 by omega]
  simp [flatR, encR]
theorem flatR_one (x : Int × Int) : ∀ u ∈ encR x, u.oneCell' = true := by
  intro u hu
  simp [encR] at hu
  rcases hu with rfl | rfl <;> rfl

/-- What extend makes of a set and a range. -/
def ext (S : List (Int × Int)) (r : Int × Int) : List (Int × Int) :=
  match S.getLast? with
  | none => [r]
  | some l => if 2 ≤ r.1 - l.2 then S ++ [r] else S.dropLast ++ [(l.1, max l.2 r.2)]
theorem ext_nil (r : Int × Int) : ext [] r = [r] := rfl
theorem ext_far (S : List (Int × Int)) (l r : Int × Int) (h : 2 ≤ r.1 - l.2) : ext (S ++ [l]) r = S ++ [l] ++ [r] := by
  unfold ext; simp [h]
theorem ext_near (S : List (Int × Int)) (l r : Int × Int) (h : ¬ 2 ≤ r.1 - l.2) : ext (S ++ [l]) r = S ++ [(l.1, max l.2 r.2)] := by
  unfold ext; simp [h]
theorem snoc_of {S : List (Int × Int)} (h : 0 < S.length) : ∃ T l, S = T ++ [l] := by
  refine ⟨S.dropLast, S.getLast (by intro h0; simp [h0] at h), ?_⟩
  exact (List.dropLast_concat_getLast _).symm
end Go.Proofs.Ytahlccihjjhgfaa
