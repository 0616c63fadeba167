/- Plain facts: the numbers of a set ascend. -/
import Derived.Test.YtahlccihjjhgfaaP
import Derived.Test.YtahlccihjjhgfaaC
namespace Go.Proofs.Ytahlccihjjhgfaa

theorem mem_ints {a x : Int} {j : Nat} : x ∈ ints a j ↔ a ≤ x ∧ x < a + j := by
  unfold ints
  rw [List.mem_map]
  constructor
  · rintro ⟨i, hi, rfl⟩
    have := List.mem_range.1 hi
    omega
  · intro h
    exact ⟨(x - a).toNat, List.mem_range.2 (by omega), by omega⟩
theorem ints_sorted (a : Int) : ∀ j, (ints a j).Pairwise (· < ·)
  | 0 => by simp [ints]
  | j + 1 => by
    rw [ints_succ, List.pairwise_append]
    refine ⟨ints_sorted a j, by simp, fun x hx y hy => ?_⟩
    have := mem_ints.1 hx
    simp at hy
    omega

theorem mem_allM {xs : List (Int × Int)} {x : Int} : ∀ {k : Nat}, x ∈ allM xs k ↔ ∃ j, j < k ∧ (xs.getD j (0, 0)).1 ≤ x ∧ x ≤ (xs.getD j (0, 0)).2
  | 0 => by simp [allM]
  | k + 1 => by
    rw [allM, List.mem_append, mem_allM (k := k), mem_ints]
    constructor
    · rintro (⟨j, hj, h⟩ | h)
      · exact ⟨j, by omega, h⟩
      · exact ⟨k, by omega, by omega⟩
    · rintro ⟨j, hj, h⟩
      by_cases hjk : j < k
      · exact .inl ⟨j, hjk, h⟩
      · obtain rfl : j = k := by omega
        exact .inr (by omega)

theorem okAt_gap {xs : RL} {k : Nat} (h : okAt xs (k + 1) = true) : (xs.getD k (0, 0)).2 + 2 ≤ (xs.getD (k + 1) (0, 0)).1 := by
  unfold okAt at h
  rw [Bool.and_eq_true] at h
  have := h.2
  simp at this
  simp
  omega

/-- In a set what stands earlier is less. -/
theorem check_lt {xs : RL} (h : checkB xs = true) : ∀ {i j : Nat}, i < j → j < xs.length → (xs.getD i (0, 0)).2 + 2 ≤ (xs.getD j (0, 0)).1
  | i, 0, hij, _ => absurd hij (by omega)
  | i, j + 1, hij, hj => by
    have hg := okAt_gap (checkB_at h hj)
    by_cases he : i = j
    · subst he; exact hg
    · have ih := check_lt h (show i < j by omega) (by omega)
      have hs := okAt_sound (checkB_at h (show j < xs.length by omega))
      omega

theorem allM_sorted {xs : RL} (h : checkB xs = true) : ∀ k, k ≤ xs.length → (allM xs k).Pairwise (· < ·)
  | 0, _ => by simp [allM]
  | k + 1, hk => by
    rw [allM, List.pairwise_append]
    refine ⟨allM_sorted h k (by omega), ints_sorted _ _, fun x hx y hy => ?_⟩
    obtain ⟨j, hj, h1, h2⟩ := mem_allM.1 hx
    have := check_lt h hj (by omega)
    have := mem_ints.1 hy
    omega

theorem allM_length {xs : RL} (h : checkB xs = true) : ∀ k, k ≤ xs.length → ((allM xs k).length : Int) = cnt xs k
  | 0, _ => by simp [allM, cnt]
  | k + 1, hk => by
    have hs := okAt_sound (checkB_at h (show k < xs.length by omega))
    rw [allM, List.length_append, ints_length, cnt, ← allM_length h k (by omega)]
    omega

theorem any_inR {xs : RL} {n : Int} (inR : Int → Int × Int → Bool) (hin : ∀ x, inR n x = decide (x.1 ≤ n ∧ n ≤ x.2)) : xs.any (inR n) = true ↔ n ∈ allM xs xs.length := by
  rw [List.any_eq_true, mem_allM]
  constructor
  · rintro ⟨x, hx, h⟩
    obtain ⟨j, hj, rfl⟩ := List.mem_iff_getElem.1 hx
    rw [hin] at h
    exact ⟨j, hj, by rw [List.getD_eq_getElem?_getD, List.getElem?_eq_getElem hj]; simpa using h⟩
  · rintro ⟨j, hj, h⟩
    refine ⟨xs[j], List.getElem_mem hj, ?_⟩
    rw [List.getD_eq_getElem?_getD, List.getElem?_eq_getElem hj] at h
    rw [hin]
    simpa using h

theorem getD_lt {L : List Int} (h : L.Pairwise (· < ·)) {i j : Nat} (hij : i < j) (hj : j < L.length) : L.getD i 0 < L.getD j 0 := by
  rw [List.getD_eq_getElem?_getD, List.getD_eq_getElem?_getD, List.getElem?_eq_getElem hj, List.getElem?_eq_getElem (by omega : i < L.length)]
  exact List.pairwise_iff_getElem.1 h i j (by omega) hj hij
theorem memb_sorted {xs : RL} {most : Int} (h : checkB xs = true) : (memb xs most).Pairwise (· < ·) := (allM_sorted h _ (Nat.le_refl _)).sublist (List.take_sublist _ _)
theorem memb_mem {xs : RL} {most x : Int} (h : x ∈ memb xs most) : x ∈ allM xs xs.length := List.mem_of_mem_take h
theorem memb_length {xs : RL} {most : Int} (h : checkB xs = true) : ((memb xs most).length : Int) = min (max most 0) (cnt xs xs.length) := by
  have := allM_length h _ (Nat.le_refl _)
  rw [memb, List.length_take]
  omega
theorem getD_mem {L : List Int} {k : Nat} (h : k < L.length) : L.getD k 0 ∈ L := by
  rw [List.getD_eq_getElem?_getD, List.getElem?_eq_getElem h]
  exact List.getElem_mem h

/-- Beyond the last of the least numbers none of them stands. -/
theorem memb_past {xs : RL} {most n : Int} (h : checkB xs = true) (hp : 0 < (memb xs most).length) (hn : (memb xs most).getD ((memb xs most).length - 1) 0 < n) : n ∉ memb xs most := by
  intro hm
  obtain ⟨j, hj, rfl⟩ := List.mem_iff_getElem.1 hm
  have e : (memb xs most)[j] = (memb xs most).getD j 0 := by rw [List.getD_eq_getElem?_getD, List.getElem?_eq_getElem hj]; rfl
  rw [e] at hn
  by_cases hjl : j = (memb xs most).length - 1
  · rw [← hjl] at hn; omega
  · have := getD_lt (memb_sorted (most := most) h) (show j < (memb xs most).length - 1 by omega) (by omega)
    omega
/-- Up to the last of the least numbers they are the numbers of the set. -/
theorem memb_upto {xs : RL} {most n : Int} (h : checkB xs = true) (hp : 0 < (memb xs most).length) (hn : n ≤ (memb xs most).getD ((memb xs most).length - 1) 0) : n ∈ memb xs most ↔ n ∈ allM xs xs.length := by
  refine ⟨memb_mem, fun hm => ?_⟩
  obtain ⟨j, hj, rfl⟩ := List.mem_iff_getElem.1 hm
  have hl : (memb xs most).length = min most.toNat (allM xs xs.length).length := by rw [memb, List.length_take]
  have hj2 : j < (memb xs most).length := by
    rcases Nat.lt_or_ge j (memb xs most).length with h1 | h1
    · exact h1
    · exfalso
      have hlast : (memb xs most).getD ((memb xs most).length - 1) 0 = (allM xs xs.length).getD ((memb xs most).length - 1) 0 := by
        rw [memb, List.getD_eq_getElem?_getD, List.getD_eq_getElem?_getD, List.getElem?_take_of_lt (by rw [← memb]; omega)]
      rw [hlast] at hn
      have hlt := getD_lt (allM_sorted h _ (Nat.le_refl _)) (show (memb xs most).length - 1 < j by omega) hj
      have e : (allM xs xs.length)[j] = (allM xs xs.length).getD j 0 := by rw [List.getD_eq_getElem?_getD, List.getElem?_eq_getElem hj]; rfl
      rw [e] at hn
      omega
  rw [List.mem_iff_getElem]
  exact ⟨j, hj2, by simp [memb]⟩
theorem contains_snoc {L : List Int} {k : Nat} (n : Int) (h : k < L.length) : (L.take (k + 1)).contains n = ((L.take k).contains n || L.getD k 0 == n) := by
  rw [List.take_succ_eq_append_getElem h, Bool.eq_iff_iff]
  rw [List.getD_eq_getElem?_getD, List.getElem?_eq_getElem h]
  simp only [List.contains_iff_mem, List.mem_append, List.mem_singleton, Bool.or_eq_true, beq_iff_eq, Option.getD_some]
  exact or_congr Iff.rfl eq_comm
end Go.Proofs.Ytahlccihjjhgfaa
