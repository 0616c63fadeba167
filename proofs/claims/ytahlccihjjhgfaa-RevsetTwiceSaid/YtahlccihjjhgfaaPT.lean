/- Plain facts for RevsetTwice. -/
import Derived.Test.YtahlccihjjhgfaaPS
namespace Go.Proofs.Ytahlccihjjhgfaa

/-- The range at a place, divided at cut where cut lies inside it. -/
def piece (cut : Int) (x : Int × Int) : RL := (if x.1 < cut ∧ cut ≤ x.2 then [(cut, x.2), (x.1, cut - 1)] else []) ++ [x]
def placeOf (n : Nat) (turn : Int) (i : Nat) : Nat := (((i : Int) + turn % (n : Int)) % (n : Int)).toNat
def turned (xs : RL) (turn cut : Int) : Nat → RL
  | 0 => []
  | k + 1 => turned xs turn cut k ++ piece cut (xs.getD (placeOf xs.length turn k) (0, 0))

theorem placeOf_lt {n : Nat} (hn : 0 < n) (turn : Int) (i : Nat) : placeOf n turn i < n := by
  unfold placeOf
  have h1 := Int.emod_nonneg ((i : Int) + turn % (n : Int)) (show (n : Int) ≠ 0 by omega)
  have h2 := Int.emod_lt_of_pos ((i : Int) + turn % (n : Int)) (show (0 : Int) < n by omega)
  omega
theorem placeOf_eq {n : Nat} (hn : 0 < n) (turn : Int) (i : Nat) : ((i : Int) + turn % (n : Int)) % (n : Int) = (placeOf n turn i : Int) := by
  unfold placeOf
  have h1 := Int.emod_nonneg ((i : Int) + turn % (n : Int)) (show (n : Int) ≠ 0 by omega)
  omega
/-- Every place is met. -/
theorem placeOf_onto {n : Nat} (hn : 0 < n) (turn : Int) (j : Nat) (hj : j < n) : ∃ i, i < n ∧ placeOf n turn i = j := by
  have t1 := Int.emod_nonneg turn (show (n : Int) ≠ 0 by omega)
  have t2 := Int.emod_lt_of_pos turn (show (0 : Int) < n by omega)
  generalize ht : turn % (n : Int) = t at t1 t2
  by_cases h : t ≤ j
  · refine ⟨(j - t).toNat, by omega, ?_⟩
    unfold placeOf
    rw [ht, show (((j : Int) - t).toNat : Int) + t = (j : Int) by omega, Int.emod_eq_of_lt (by omega) (by omega)]
    omega
  · refine ⟨(j + n - t).toNat, by omega, ?_⟩
    unfold placeOf
    rw [ht, show (((j : Int) + n - t).toNat : Int) + t = (j : Int) + n by omega, Int.add_emod_right, Int.emod_eq_of_lt (by omega) (by omega)]
    omega

theorem piece_sound {cut : Int} {x : Int × Int} (hx : Snd x) : ∀ y ∈ piece cut x, Snd y := by
  intro y hy
  unfold piece at hy
  obtain ⟨h1, h2, h3⟩ := hx
  split at hy
  · rename_i hc
    simp at hy
    rcases hy with rfl | rfl | rfl
    · exact ⟨by simp only; omega, by simp only; omega, by simp only; omega⟩
    · exact ⟨by simp only; omega, by simp only; omega, by simp only; omega⟩
    · exact ⟨h1, h2, h3⟩
  · simp at hy
    subst hy
    exact ⟨h1, h2, h3⟩
theorem piece_mem {cut : Int} {x : Int × Int} {n : Int} : Mem n (piece cut x) ↔ x.1 ≤ n ∧ n ≤ x.2 := by
  unfold piece
  rw [mem_append, mem_cons]
  simp only [mem_nil, or_false]
  split
  · rename_i hc
    rw [mem_cons, mem_cons]
    simp only [mem_nil, or_false]
    constructor
    · rintro ((h | h) | h) <;> omega
    · intro h; exact .inr h
  · simp [mem_nil]
theorem piece_len (cut : Int) (x : Int × Int) : (piece cut x).length ≤ 3 := by
  unfold piece
  split <;> simp

theorem turned_len (xs : RL) (turn cut : Int) : ∀ k, (turned xs turn cut k).length ≤ 3 * k
  | 0 => by simp [turned]
  | k + 1 => by
    have := turned_len xs turn cut k
    have := piece_len cut (xs.getD (placeOf xs.length turn k) (0, 0))
    rw [turned, List.length_append]
    omega
theorem getD_memR {xs : RL} {j : Nat} (h : j < xs.length) : xs.getD j (0, 0) ∈ xs := by
  rw [List.getD_eq_getElem?_getD, List.getElem?_eq_getElem h]
  exact List.getElem_mem h
theorem turned_sound {xs : RL} {turn cut : Int} (hn : 0 < xs.length) (h : ∀ x ∈ xs, Snd x) : ∀ k, ∀ y ∈ turned xs turn cut k, Snd y
  | 0, y, hy => by simp [turned] at hy
  | k + 1, y, hy => by
    rw [turned] at hy
    rcases List.mem_append.1 hy with hy | hy
    · exact turned_sound hn h k y hy
    · exact piece_sound (h _ (getD_memR (placeOf_lt hn turn k))) y hy
theorem turned_mem {xs : RL} {turn cut n : Int} : ∀ k, Mem n (turned xs turn cut k) ↔ ∃ i, i < k ∧ (xs.getD (placeOf xs.length turn i) (0, 0)).1 ≤ n ∧ n ≤ (xs.getD (placeOf xs.length turn i) (0, 0)).2
  | 0 => by simp [turned, mem_nil]
  | k + 1 => by
    rw [turned, mem_append, turned_mem k, piece_mem]
    constructor
    · rintro (⟨i, hi, h⟩ | h)
      · exact ⟨i, by omega, h⟩
      · exact ⟨k, by omega, h⟩
    · rintro ⟨i, hi, h⟩
      by_cases hik : i < k
      · exact .inl ⟨i, hik, h⟩
      · obtain rfl : i = k := by omega
        exact .inr h

theorem turned_norm {xs : RL} {turn cut : Int} (hn : 0 < xs.length) (h : allSound xs = true) :
    allSound (turned xs turn cut xs.length) = true ∧ normR (turned xs turn cut xs.length) = normR xs := by
  have hs := allSound_iff.1 h
  have hs2 : allSound (turned xs turn cut xs.length) = true := allSound_iff.2 (turned_sound hn hs _)
  obtain ⟨c1, m1⟩ := norm_canon hs2
  obtain ⟨c2, m2⟩ := norm_canon h
  refine ⟨hs2, canon_eq c1 c2 fun n => ?_⟩
  rw [m1, m2, turned_mem]
  constructor
  · rintro ⟨i, hi, hh⟩
    exact ⟨_, getD_memR (placeOf_lt hn turn i), hh⟩
  · rintro ⟨x, hx, hh⟩
    obtain ⟨j, hj, rfl⟩ := List.mem_iff_getElem.1 hx
    obtain ⟨i, hi, he⟩ := placeOf_onto hn turn j hj
    refine ⟨i, hi, ?_⟩
    rw [he, List.getD_eq_getElem?_getD, List.getElem?_eq_getElem hj]
    exact hh
theorem norm_norm {xs : RL} (h : allSound xs = true) : allSound (normR xs) = true ∧ normR (normR xs) = normR xs ∧ checkB (normR xs) = true := by
  obtain ⟨c2, m2⟩ := norm_canon h
  have hs : allSound (normR xs) = true := allSound_iff.2 c2.1
  obtain ⟨c1, m1⟩ := norm_canon hs
  exact ⟨hs, canon_eq c1 c2 fun n => m1 n, canon_iff.2 c2⟩
end Go.Proofs.Ytahlccihjjhgfaa
