/- Plain facts: the reference's Set. -/
import Derived.Test.YtahlccihjjhgfaaPC
namespace Go.Proofs.Ytahlccihjjhgfaa

/-- Where membership may change: the ends of ranges. -/
def endsL (l : RL) : List Int := l.flatMap fun x => [x.1, x.2 + 1]
def sortI (l : List Int) : List Int := l.mergeSort fun x y => decide (x ≤ y)
theorem sortI_sorted (l : List Int) : (sortI l).Pairwise fun x y => x ≤ y := by
  have h := List.pairwise_mergeSort (le := fun x y : Int => decide (x ≤ y)) (fun a b c h1 h2 => by simp at *; omega) (fun a b => by simp; omega) l
  exact h.imp fun {a b} hab => by simpa using hab
theorem mem_sortI {l : List Int} {x : Int} : x ∈ sortI l ↔ x ∈ l := (List.mergeSort_perm l _).mem_iff
theorem sortI_length (l : List Int) : (sortI l).length = l.length := (List.mergeSort_perm l _).length_eq
theorem mem_ends {l : RL} {y : Int} : y ∈ endsL l ↔ ∃ x ∈ l, y = x.1 ∨ y = x.2 + 1 := by
  unfold endsL
  rw [List.mem_flatMap]
  constructor
  · rintro ⟨x, hx, h⟩; exact ⟨x, hx, by simpa using h⟩
  · rintro ⟨x, hx, h⟩; exact ⟨x, hx, by simpa using h⟩
theorem endsL_snoc (l : RL) (x : Int × Int) : endsL (l ++ [x]) = endsL l ++ [x.1, x.2 + 1] := by
  unfold endsL
  rw [List.flatMap_append]
  rfl
theorem endsL_take {l : RL} {k : Nat} (h : k < l.length) : endsL (l.take (k + 1)) = endsL (l.take k) ++ [(l.getD k (0, 0)).1, (l.getD k (0, 0)).2 + 1] := by
  rw [List.take_succ_eq_append_getElem h, endsL_snoc, List.getD_eq_getElem?_getD, List.getElem?_eq_getElem h]
  rfl
theorem endsL_length (l : RL) : (endsL l).length = 2 * l.length := by
  induction l with
  | nil => rfl
  | cons x l ih =>
    have e : endsL (x :: l) = [x.1, x.2 + 1] ++ endsL l := rfl
    rw [e, List.length_append, ih]
    simp
    omega

/-- What the reference has after k rounds. -/
def setTo (E : List Int) (a b : RL) (g : Bool → Bool → Bool) : Nat → RL
  | 0 => []
  | k + 1 => if k + 1 = E.length ∨ E.getD (k + 1) 0 = E.getD k 0 ∨ g (a.any (inR (E.getD k 0))) (b.any (inR (E.getD k 0))) = false then setTo E a b g k
      else ext (setTo E a b g k) (E.getD k 0, E.getD (k + 1) 0 - 1)

theorem getD_le {E : List Int} (h : E.Pairwise fun x y => x ≤ y) {i j : Nat} (hij : i ≤ j) (hj : j < E.length) : E.getD i 0 ≤ E.getD j 0 := by
  by_cases he : i = j
  · subst he; omega
  · rw [List.getD_eq_getElem?_getD, List.getD_eq_getElem?_getD, List.getElem?_eq_getElem hj, List.getElem?_eq_getElem (by omega : i < E.length)]
    exact List.pairwise_iff_getElem.1 h i j (by omega) hj (by omega)
/-- No end lies between two neighbours. -/
theorem no_between {E : List Int} (h : E.Pairwise fun x y => x ≤ y) {k : Nat} (hk : k + 1 < E.length) {y : Int} (hy : y ∈ E) : y ≤ E.getD k 0 ∨ E.getD (k + 1) 0 ≤ y := by
  obtain ⟨j, hj, rfl⟩ := List.mem_iff_getElem.1 hy
  have e : E[j] = E.getD j 0 := by rw [List.getD_eq_getElem?_getD, List.getElem?_eq_getElem hj]; rfl
  rw [e]
  by_cases hjk : j ≤ k
  · exact .inl (getD_le h hjk (by omega))
  · exact .inr (getD_le h (by omega) hj)
/-- Between two neighbours nothing changes. -/
theorem const_between {E : List Int} (h : E.Pairwise fun x y => x ≤ y) {a : RL} (ha : ∀ x ∈ a, x.1 ∈ E ∧ x.2 + 1 ∈ E) {k : Nat} (hk : k + 1 < E.length) {m : Int} (h1 : E.getD k 0 ≤ m) (h2 : m < E.getD (k + 1) 0) :
    a.any (inR m) = a.any (inR (E.getD k 0)) := by
  rw [Bool.eq_iff_iff, mem_iff, mem_iff]
  constructor
  · rintro ⟨x, hx, h3, h4⟩
    have e1 := no_between h hk (ha x hx).1
    have e2 := no_between h hk (ha x hx).2
    exact ⟨x, hx, by omega, by omega⟩
  · rintro ⟨x, hx, h3, h4⟩
    have e1 := no_between h hk (ha x hx).1
    have e2 := no_between h hk (ha x hx).2
    exact ⟨x, hx, by omega, by omega⟩

structure Inv2 (E : List Int) (a b : RL) (g : Bool → Bool → Bool) (k : Nat) (S : RL) : Prop where
  cs : Canon S
  ns : ∀ x ∈ S, ∀ j, k ≤ j → j < E.length → x.2 < E.getD j 0
  ms : ∀ m, Mem m S ↔ (∃ j, j < k ∧ j + 1 < E.length ∧ E.getD j 0 ≤ m ∧ m < E.getD (j + 1) 0) ∧ g (a.any (inR m)) (b.any (inR m)) = true

theorem inv2 {E : List Int} {a b : RL} {g : Bool → Bool → Bool} (hE : E.Pairwise fun x y => x ≤ y) (hb : ∀ y ∈ E, 1 ≤ y ∧ y ≤ 1073741825) (ha : ∀ x ∈ a, x.1 ∈ E ∧ x.2 + 1 ∈ E) (hb' : ∀ x ∈ b, x.1 ∈ E ∧ x.2 + 1 ∈ E) :
    ∀ k, k ≤ E.length → Inv2 E a b g k (setTo E a b g k)
  | 0, _ => ⟨⟨by simp [setTo], by simp [setTo]⟩, by simp [setTo], fun m => by simp [setTo, mem_nil]⟩
  | k + 1, hk => by
    have ih := inv2 (g := g) hE hb ha hb' k (by omega)
    have gm : ∀ j, (h : j < E.length) → E.getD j 0 ∈ E := fun j h => by rw [List.getD_eq_getElem?_getD, List.getElem?_eq_getElem h]; exact List.getElem_mem h
    have keep : ∀ m, (∃ j, j < k + 1 ∧ j + 1 < E.length ∧ E.getD j 0 ≤ m ∧ m < E.getD (j + 1) 0) ↔ (∃ j, j < k ∧ j + 1 < E.length ∧ E.getD j 0 ≤ m ∧ m < E.getD (j + 1) 0) ∨ (k + 1 < E.length ∧ E.getD k 0 ≤ m ∧ m < E.getD (k + 1) 0) := by
      intro m
      constructor
      · rintro ⟨j, hj, h⟩
        by_cases hjk : j < k
        · exact .inl ⟨j, hjk, h⟩
        · obtain rfl : j = k := by omega
          exact .inr h
      · rintro (⟨j, hj, h⟩ | h)
        · exact ⟨j, by omega, h⟩
        · exact ⟨k, by omega, h⟩
    rw [setTo]
    split
    · rename_i hc
      refine ⟨ih.cs, fun x hx j hj hj' => ih.ns x hx j (by omega) hj', fun m => ?_⟩
      rw [ih.ms, keep]
      constructor
      · rintro ⟨h1, h2⟩; exact ⟨.inl h1, h2⟩
      · rintro ⟨h1 | h1, h2⟩
        · exact ⟨h1, h2⟩
        · exfalso
          rcases hc with hc | hc | hc
          · omega
          · omega
          · rw [const_between hE ha h1.1 h1.2.1 h1.2.2, const_between hE hb' h1.1 h1.2.1 h1.2.2, hc] at h2
            cases h2
    · rename_i hc
      have hk1 : k + 1 < E.length := by
        rcases Nat.lt_or_ge (k + 1) E.length with h | h
        · exact h
        · exact absurd (.inl (by omega)) hc
      have hne : E.getD (k + 1) 0 ≠ E.getD k 0 := fun h => hc (.inr (.inl h))
      have hg : g (a.any (inR (E.getD k 0))) (b.any (inR (E.getD k 0))) = true := by
        cases hh : g (a.any (inR (E.getD k 0))) (b.any (inR (E.getD k 0))) with
        | true => rfl
        | false => exact absurd (.inr (.inr hh)) hc
      have hle := getD_le hE (show k ≤ k + 1 by omega) hk1
      have b1 := hb _ (gm k (by omega))
      have b2 := hb _ (gm (k + 1) hk1)
      obtain ⟨c1, m1, _⟩ := ext_canon (r := (E.getD k 0, E.getD (k + 1) 0 - 1)) ih.cs ⟨by simp only; omega, by simp only; omega, by simp only; omega⟩ (fun x hx => by
        have := ih.ns x hx k (Nat.le_refl _) (by omega)
        have := (ih.cs.1 x hx).2.1
        simp only
        omega)
      refine ⟨c1, fun x hx j hj hj' => ?_, fun m => ?_⟩
      · have hm : Mem x.2 (ext (setTo E a b g k) (E.getD k 0, E.getD (k + 1) 0 - 1)) := ⟨x, hx, (c1.1 x hx).2.1, by omega⟩
        have hjj := getD_le hE hj hj'
        rcases (m1 _).1 hm with ⟨y, hy, h3, h4⟩ | h3
        · have := ih.ns y hy j (by omega) hj'; omega
        · simp only at h3; omega
      · rw [m1, ih.ms, keep]
        simp only
        constructor
        · rintro (⟨h1, h2⟩ | h1)
          · exact ⟨.inl h1, h2⟩
          · have h2 : k + 1 < E.length ∧ E.getD k 0 ≤ m ∧ m < E.getD (k + 1) 0 := ⟨hk1, by omega, by omega⟩
            refine ⟨.inr h2, ?_⟩
            rw [const_between hE ha h2.1 h2.2.1 h2.2.2, const_between hE hb' h2.1 h2.2.1 h2.2.2]
            exact hg
        · rintro ⟨h1 | h1, h2⟩
          · exact .inl ⟨h1, h2⟩
          · exact .inr ⟨by omega, by omega⟩

/-- The reference's set of two lists of sound ranges. -/
def refSet (a b : RL) (g : Bool → Bool → Bool) : RL := setTo (sortI (endsL (a ++ b))) a b g (endsL (a ++ b)).length

theorem cover {E : List Int} {m : Int} : ∀ {k : Nat}, k < E.length → E.getD 0 0 ≤ m → m < E.getD k 0 → ∃ j, j < k ∧ j + 1 < E.length ∧ E.getD j 0 ≤ m ∧ m < E.getD (j + 1) 0
  | 0, _, h1, h2 => by omega
  | k + 1, hk, h1, h2 => by
    by_cases h : m < E.getD k 0
    · obtain ⟨j, hj, h'⟩ := cover (by omega) h1 h
      exact ⟨j, by omega, h'⟩
    · exact ⟨k, by omega, hk, by omega, h2⟩

theorem ends_bound {a b : RL} (ha : ∀ x ∈ a, Snd x) (hb : ∀ x ∈ b, Snd x) : ∀ y ∈ sortI (endsL (a ++ b)), 1 ≤ y ∧ y ≤ 1073741825 := by
  intro y hy
  obtain ⟨x, hx, h⟩ := mem_ends.1 (mem_sortI.1 hy)
  have hs : Snd x := by
    rcases List.mem_append.1 hx with hx | hx
    · exact ha x hx
    · exact hb x hx
  obtain ⟨s1, s2, s3⟩ := hs
  omega

theorem refSet_canon {a b : RL} {g : Bool → Bool → Bool} (ha : ∀ x ∈ a, Snd x) (hb : ∀ x ∈ b, Snd x) (hg : g false false = false) :
    Canon (refSet a b g) ∧ ∀ m, Mem m (refSet a b g) ↔ g (a.any (inR m)) (b.any (inR m)) = true := by
  have hE := sortI_sorted (endsL (a ++ b))
  have hin : ∀ x ∈ a ++ b, x.1 ∈ sortI (endsL (a ++ b)) ∧ x.2 + 1 ∈ sortI (endsL (a ++ b)) := fun x hx => ⟨mem_sortI.2 (mem_ends.2 ⟨x, hx, .inl rfl⟩), mem_sortI.2 (mem_ends.2 ⟨x, hx, .inr rfl⟩)⟩
  have hl := sortI_length (endsL (a ++ b))
  have I := inv2 (a := a) (b := b) (g := g) hE (ends_bound ha hb) (fun x hx => hin x (by simp [hx])) (fun x hx => hin x (by simp [hx])) (endsL (a ++ b)).length (by omega)
  refine ⟨I.cs, fun m => ?_⟩
  unfold refSet
  rw [I.ms]
  constructor
  · exact fun h => h.2
  · intro h
    refine ⟨?_, h⟩
    -- m lies in one of the ranges
    have hm : ∃ x ∈ a ++ b, x.1 ≤ m ∧ m ≤ x.2 := by
      cases h1 : a.any (inR m) with
      | true => obtain ⟨x, hx, hh⟩ := mem_iff.1 h1; exact ⟨x, by simp [hx], hh⟩
      | false =>
        cases h2 : b.any (inR m) with
        | true => obtain ⟨x, hx, hh⟩ := mem_iff.1 h2; exact ⟨x, by simp [hx], hh⟩
        | false => rw [h1, h2, hg] at h; cases h
    obtain ⟨x, hx, h1, h2⟩ := hm
    obtain ⟨j, hj, e1⟩ := List.mem_iff_getElem.1 (hin x hx).1
    obtain ⟨k, hk, e2⟩ := List.mem_iff_getElem.1 (hin x hx).2
    have f1 : (sortI (endsL (a ++ b))).getD j 0 = x.1 := by rw [List.getD_eq_getElem?_getD, List.getElem?_eq_getElem hj, e1]; rfl
    have f2 : (sortI (endsL (a ++ b))).getD k 0 = x.2 + 1 := by rw [List.getD_eq_getElem?_getD, List.getElem?_eq_getElem hk, e2]; rfl
    have f3 := getD_le hE (show 0 ≤ j by omega) hj
    obtain ⟨i, hi, h'⟩ := cover (E := sortI (endsL (a ++ b))) (m := m) hk (by omega) (by omega)
    exact ⟨i, by omega, h'⟩
end Go.Proofs.Ytahlccihjjhgfaa
