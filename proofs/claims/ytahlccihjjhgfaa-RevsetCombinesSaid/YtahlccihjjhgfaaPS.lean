/- Plain facts: sets of ranges are equal if they have the same numbers; what extend and Normalize make. -/
import Derived.Test.YtahlccihjjhgfaaK
import Derived.Test.YtahlccihjjhgfaaPM
namespace Go.Proofs.Ytahlccihjjhgfaa
open Go.Sort

/-- A number is in one of some ranges. -/
def Mem (n : Int) (xs : RL) : Prop := ∃ x ∈ xs, x.1 ≤ n ∧ n ≤ x.2
theorem mem_iff {n : Int} {xs : RL} : xs.any (inR n) = true ↔ Mem n xs := by
  rw [List.any_eq_true]
  constructor
  · rintro ⟨x, hx, h⟩; exact ⟨x, hx, by simpa [inR] using h⟩
  · rintro ⟨x, hx, h⟩; exact ⟨x, hx, by simpa [inR] using h⟩
theorem mem_nil {n : Int} : ¬ Mem n [] := by rintro ⟨x, hx, _⟩; cases hx
theorem mem_cons {n : Int} {x : Int × Int} {xs : RL} : Mem n (x :: xs) ↔ (x.1 ≤ n ∧ n ≤ x.2) ∨ Mem n xs := by
  unfold Mem
  constructor
  · rintro ⟨y, hy, h⟩
    rcases List.mem_cons.1 hy with rfl | hy
    · exact .inl h
    · exact .inr ⟨y, hy, h⟩
  · rintro (h | ⟨y, hy, h⟩)
    · exact ⟨x, by simp, h⟩
    · exact ⟨y, by simp [hy], h⟩
theorem mem_append {n : Int} {xs ys : RL} : Mem n (xs ++ ys) ↔ Mem n xs ∨ Mem n ys := by
  induction xs with
  | nil => simp [mem_nil]
  | cons x xs ih => rw [List.cons_append, mem_cons, mem_cons, ih, or_assoc]

def Snd (x : Int × Int) : Prop := 1 ≤ x.1 ∧ x.1 ≤ x.2 ∧ x.2 ≤ 1073741824
/-- A set: sound ranges, each behind a gap. -/
def Canon (xs : RL) : Prop := (∀ x ∈ xs, Snd x) ∧ xs.Pairwise fun x y => x.2 + 2 ≤ y.1

theorem canon_iff {xs : RL} : checkB xs = true ↔ Canon xs := by
  constructor
  · intro h
    refine ⟨fun x hx => ?_, List.pairwise_iff_getElem.2 fun i j hi hj hij => ?_⟩
    · obtain ⟨j, hj, rfl⟩ := List.mem_iff_getElem.1 hx
      have := okAt_sound (checkB_at h hj)
      rw [List.getD_eq_getElem?_getD, List.getElem?_eq_getElem hj] at this
      exact this
    · have := check_lt h hij hj
      rw [List.getD_eq_getElem?_getD, List.getD_eq_getElem?_getD, List.getElem?_eq_getElem hj, List.getElem?_eq_getElem hi] at this
      exact this
  · rintro ⟨h1, h2⟩
    refine List.all_eq_true.2 fun k hk => ?_
    have hk := List.mem_range.1 hk
    have e : xs.getD k (0, 0) = xs[k] := by rw [List.getD_eq_getElem?_getD, List.getElem?_eq_getElem hk]; rfl
    have hs := h1 _ (List.getElem_mem hk)
    unfold okAt
    rw [e, Bool.and_eq_true]
    refine ⟨soundB_iff.2 hs, ?_⟩
    by_cases h0 : k = 0
    · simp [h0]
    · have e' : xs.getD (k - 1) (0, 0) = xs[k - 1] := by rw [List.getD_eq_getElem?_getD, List.getElem?_eq_getElem (by omega)]; rfl
      have := List.pairwise_iff_getElem.1 h2 (k - 1) k (by omega) hk (by omega)
      rw [e']
      simp
      right
      omega

theorem canon_tail {x : Int × Int} {xs : RL} (h : Canon (x :: xs)) : Canon xs ∧ Snd x ∧ ∀ y ∈ xs, x.2 + 2 ≤ y.1 := by
  obtain ⟨h1, h2⟩ := h
  rw [List.pairwise_cons] at h2
  exact ⟨⟨fun y hy => h1 y (by simp [hy]), h2.2⟩, h1 x (by simp), h2.1⟩

theorem tail_ge {x : Int × Int} {xs : RL} {n : Int} (h : ∀ y ∈ xs, x.2 + 2 ≤ y.1) (hm : Mem n xs) : x.2 + 2 ≤ n := by
  obtain ⟨y, hy, h1, _⟩ := hm
  have := h y hy
  omega

/-- SETS WITH THE SAME NUMBERS ARE EQUAL. -/
theorem canon_eq : ∀ {xs ys : RL}, Canon xs → Canon ys → (∀ n, Mem n xs ↔ Mem n ys) → xs = ys
  | [], [], _, _, _ => rfl
  | [], y :: ys, _, hy, h => by
    obtain ⟨_, hs, _⟩ := canon_tail hy
    exact absurd ((h y.1).2 (mem_cons.2 (.inl ⟨by omega, hs.2.1⟩))) mem_nil
  | x :: xs, [], hx, _, h => by
    obtain ⟨_, hs, _⟩ := canon_tail hx
    exact absurd ((h x.1).1 (mem_cons.2 (.inl ⟨by omega, hs.2.1⟩))) mem_nil
  | x :: xs, y :: ys, hx, hy, h => by
    obtain ⟨cx, sx, gx⟩ := canon_tail hx
    obtain ⟨cy, sy, gy⟩ := canon_tail hy
    have a1 := (h x.1).1 (mem_cons.2 (.inl ⟨by omega, sx.2.1⟩))
    have a2 := (h y.1).2 (mem_cons.2 (.inl ⟨by omega, sy.2.1⟩))
    have a3 : ¬ (x.2 < y.2) → True := fun _ => trivial
    have e1 : x.1 = y.1 := by
      rcases mem_cons.1 a1 with b1 | b1
      · rcases mem_cons.1 a2 with b2 | b2
        · omega
        · have := tail_ge gx b2
          have := sx.2.1
          omega
      · have := tail_ge gy b1
        have := sy.2.1
        rcases mem_cons.1 a2 with b2 | b2
        · omega
        · have := tail_ge gx b2
          have := sx.2.1
          omega
    have e2 : x.2 = y.2 := by
      rcases Int.lt_trichotomy x.2 y.2 with hl | he | hl
      · exfalso
        have hm : Mem (x.2 + 1) (x :: xs) := (h _).2 (mem_cons.2 (.inl ⟨by have := sx.2.1; omega, by omega⟩))
        rcases mem_cons.1 hm with b | b
        · omega
        · have := tail_ge gx b; omega
      · exact he
      · exfalso
        have hm : Mem (y.2 + 1) (y :: ys) := (h _).1 (mem_cons.2 (.inl ⟨by have := sy.2.1; omega, by omega⟩))
        rcases mem_cons.1 hm with b | b
        · omega
        · have := tail_ge gy b; omega
    have exy : x = y := Prod.ext e1 e2
    subst exy
    have ht : xs = ys := canon_eq cx cy fun n => by
      have hn := h n
      rw [mem_cons, mem_cons] at hn
      constructor
      · intro hm
        have := tail_ge gx hm
        rcases hn.1 (.inr hm) with b | b
        · omega
        · exact b
      · intro hm
        have := tail_ge gy hm
        rcases hn.2 (.inr hm) with b | b
        · omega
        · exact b
    rw [ht]

theorem canon_snoc {T : RL} {l : Int × Int} : Canon (T ++ [l]) ↔ Canon T ∧ Snd l ∧ ∀ x ∈ T, x.2 + 2 ≤ l.1 := by
  unfold Canon
  rw [List.pairwise_append]
  constructor
  · rintro ⟨h1, h2, _, h3⟩
    exact ⟨⟨fun x hx => h1 x (by simp [hx]), h2⟩, h1 l (by simp), fun x hx => h3 x hx l (by simp)⟩
  · rintro ⟨⟨h1, h2⟩, h3, h4⟩
    refine ⟨fun x hx => ?_, h2, by simp, fun x hx y hy => ?_⟩
    · rcases List.mem_append.1 hx with h | h
      · exact h1 x h
      · simp at h; subst h; exact h3
    · simp at hy; subst hy; exact h4 x hx

/-- What extend makes: a set with the numbers of both. -/
theorem ext_canon {S : RL} {r : Int × Int} (hS : Canon S) (hr : Snd r) (hle : ∀ x ∈ S, x.1 ≤ r.1) :
    Canon (ext S r) ∧ (∀ n, Mem n (ext S r) ↔ Mem n S ∨ (r.1 ≤ n ∧ n ≤ r.2)) ∧ ∀ x ∈ ext S r, x.1 ≤ r.1 := by
  by_cases h0 : 0 < S.length
  · obtain ⟨T, l, rfl⟩ := snoc_of h0
    obtain ⟨cT, sl, gl⟩ := canon_snoc.1 hS
    have hl := hle l (by simp)
    by_cases hf : 2 ≤ r.1 - l.2
    · rw [ext_far _ _ _ hf]
      refine ⟨canon_snoc.2 ⟨hS, hr, fun x hx => ?_⟩, fun n => ?_, fun x hx => ?_⟩
      · rcases List.mem_append.1 hx with h | h
        · have := gl x h; have := sl.2.1; omega
        · simp at h; subst h; omega
      · rw [mem_append, mem_cons]; simp [mem_nil]
      · rcases List.mem_append.1 hx with h | h
        · exact hle x h
        · simp at h; subst h; omega
    · rw [ext_near _ _ _ hf]
      obtain ⟨s1, s2, s3⟩ := sl
      obtain ⟨t1, t2, t3⟩ := hr
      refine ⟨canon_snoc.2 ⟨cT, ⟨s1, by simp only; omega, by simp only; omega⟩, gl⟩, fun n => ?_, fun x hx => ?_⟩
      · rw [mem_append, mem_append, mem_cons, mem_cons]
        simp only [mem_nil, or_false]
        constructor
        · rintro (h | h)
          · exact .inl (.inl h)
          · by_cases hn : n ≤ l.2
            · exact .inl (.inr ⟨h.1, hn⟩)
            · exact .inr ⟨by omega, by omega⟩
        · rintro ((h | h) | h)
          · exact .inl h
          · exact .inr ⟨h.1, by omega⟩
          · exact .inr ⟨by omega, by omega⟩
      · rcases List.mem_append.1 hx with h | h
        · exact hle x (by simp [h])
        · simp at h; subst h; exact hl
  · have : S = [] := List.eq_nil_of_length_eq_zero (by omega)
    subst this
    rw [ext_nil]
    refine ⟨⟨fun x hx => by simp at hx; subst hx; exact hr, by simp⟩, fun n => ?_, fun x hx => by simp at hx; subst hx; omega⟩
    rw [mem_cons]; simp [mem_nil]

theorem fold_canon : ∀ (ys S : RL), Canon S → (∀ y ∈ ys, Snd y) → ys.Pairwise (fun x y => x.1 ≤ y.1) → (∀ x ∈ S, ∀ y ∈ ys, x.1 ≤ y.1) →
    Canon (ys.foldl ext S) ∧ ∀ n, Mem n (ys.foldl ext S) ↔ Mem n S ∨ Mem n ys
  | [], S, hS, _, _, _ => ⟨hS, fun n => by simp [mem_nil]⟩
  | y :: ys, S, hS, hy, hp, hle => by
    rw [List.pairwise_cons] at hp
    obtain ⟨c, m, l⟩ := ext_canon hS (hy y (by simp)) (fun x hx => hle x hx y (by simp))
    obtain ⟨c2, m2⟩ := fold_canon ys (ext S y) c (fun z hz => hy z (by simp [hz])) hp.2 (fun x hx z hz => Int.le_trans (l x hx) (hp.1 z hz))
    refine ⟨c2, fun n => ?_⟩
    rw [List.foldl_cons, m2, m, mem_cons, or_assoc]

theorem leR_pairwise (xs : RL) : (sortR xs).Pairwise fun x y => x.1 ≤ y.1 := by
  have h := List.pairwise_mergeSort (le := fun x y => !ltOf cmpR y x) (fun a b c h1 h2 => by
    rw [ltR] at *; simp at *; omega) (fun a b => by rw [ltR, ltR]; simp; omega) xs
  exact h.imp fun {a b} hab => by rw [ltR] at hab; simp at hab; omega

theorem allSound_iff {xs : RL} : allSound xs = true ↔ ∀ x ∈ xs, Snd x := by
  unfold allSound
  rw [List.all_eq_true]
  exact ⟨fun h x hx => soundB_iff.1 (h x hx), fun h x hx => soundB_iff.2 (h x hx)⟩

/-- NORMALIZE: a set with the numbers of the ranges. -/
theorem norm_canon {xs : RL} (h : allSound xs = true) : Canon (normR xs) ∧ ∀ n, Mem n (normR xs) ↔ Mem n xs := by
  obtain ⟨c, m⟩ := fold_canon (sortR xs) [] ⟨by simp, by simp⟩ (fun y hy => allSound_iff.1 h y (mem_sortR.1 hy)) (leR_pairwise xs) (by simp)
  refine ⟨c, fun n => ?_⟩
  rw [normR, m]
  simp only [mem_nil, false_or]
  exact ⟨fun ⟨x, hx, hh⟩ => ⟨x, mem_sortR.1 hx, hh⟩, fun ⟨x, hx, hh⟩ => ⟨x, mem_sortR.2 hx, hh⟩⟩
end Go.Proofs.Ytahlccihjjhgfaa
