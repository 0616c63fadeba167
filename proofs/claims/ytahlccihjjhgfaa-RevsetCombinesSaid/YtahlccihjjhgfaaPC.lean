/- Plain facts: walking through two sets. -/
import Derived.Test.YtahlccihjjhgfaaPS
namespace Go.Proofs.Ytahlccihjjhgfaa

/-- Whether n is in the set, and where that changes next. -/
def stB : RL → Int → Bool
  | [], _ => false
  | x :: _, n => decide (x.1 ≤ n)
def stE : RL → Int → Int
  | [], _ => 1073741825
  | x :: _, n => if n < x.1 then x.1 else x.2 + 1
def pastL : RL → Int → RL
  | [], _ => []
  | x :: t, n => if x.2 < n then t else x :: t

theorem st_spec : ∀ {xs : RL} {n : Int}, Canon xs → (∀ x ∈ xs, n ≤ x.2) → n ≤ 1073741824 →
    n < stE xs n ∧ stE xs n ≤ 1073741825 ∧ ∀ m, n ≤ m → m < stE xs n → (Mem m xs ↔ stB xs n = true)
  | [], n, _, _, hn => ⟨by simp [stE]; omega, by simp [stE], fun m _ _ => by simp [mem_nil, stB]⟩
  | x :: t, n, hc, hx, hn => by
    obtain ⟨ct, sx, gx⟩ := canon_tail hc
    obtain ⟨s1, s2, s3⟩ := sx
    have h0 := hx x (by simp)
    by_cases hlt : n < x.1
    · simp only [stE, stB, if_pos hlt]
      refine ⟨hlt, by omega, fun m h1 h2 => ?_⟩
      rw [mem_cons]
      constructor
      · rintro (h | h)
        · omega
        · have := tail_ge gx h; omega
      · intro h
        simp at h
        omega
    · simp only [stE, stB, if_neg hlt]
      refine ⟨by omega, by omega, fun m h1 h2 => ?_⟩
      rw [mem_cons]
      constructor
      · intro _; simp; omega
      · intro _; exact .inl ⟨by omega, by omega⟩

theorem past_spec : ∀ {xs : RL} {n nx : Int}, Canon xs → (∀ x ∈ xs, n ≤ x.2) → n < nx → nx ≤ stE xs n →
    Canon (pastL xs nx) ∧ (∀ x ∈ pastL xs nx, nx ≤ x.2) ∧ ∀ m, nx ≤ m → (Mem m xs ↔ Mem m (pastL xs nx))
  | [], n, nx, hc, hx, _, _ => ⟨hc, by simp [pastL], fun m _ => by simp [pastL]⟩
  | x :: t, n, nx, hc, hx, hn, hnx => by
    obtain ⟨ct, sx, gx⟩ := canon_tail hc
    obtain ⟨s1, s2, s3⟩ := sx
    by_cases hp : x.2 < nx
    · simp only [pastL, if_pos hp]
      have he : nx ≤ x.2 + 1 := by
        simp only [stE] at hnx
        split at hnx <;> omega
      refine ⟨ct, fun y hy => ?_, fun m hm => ?_⟩
      · have h1 := gx y hy
        have h2 := ct.1 y hy
        have := h2.2.1
        omega
      · rw [mem_cons]
        constructor
        · rintro (h | h)
          · omega
          · exact h
        · exact .inr
    · simp only [pastL, if_neg hp]
      refine ⟨hc, fun y hy => ?_, fun m _ => trivial⟩
      rcases List.mem_cons.1 hy with rfl | hy
      · omega
      · have h1 := gx y hy
        have h2 := ct.1 y hy
        have := h2.2.1
        omega

/-- What holds at the head of each round of combine. -/
structure Inv (g : Bool → Bool → Bool) (a b as' bs' S : RL) (n : Int) : Prop where
  ca : Canon as'
  cb : Canon bs'
  na : ∀ x ∈ as', n ≤ x.2
  nb : ∀ x ∈ bs', n ≤ x.2
  n1 : 1 ≤ n
  n2 : n ≤ 1073741825
  ma : ∀ m, n ≤ m → (Mem m a ↔ Mem m as')
  mb : ∀ m, n ≤ m → (Mem m b ↔ Mem m bs')
  cs : Canon S
  ns : ∀ x ∈ S, x.2 < n
  ms : ∀ m, Mem m S ↔ m < n ∧ g (a.any (inR m)) (b.any (inR m)) = true

theorem mem_pos {m : Int} {a : RL} (h : Canon a) (hm : Mem m a) : 1 ≤ m := by
  obtain ⟨x, hx, h1, _⟩ := hm
  have := (h.1 x hx).1
  omega
theorem any_false {m : Int} {a : RL} (h : ¬ Mem m a) : a.any (inR m) = false := by
  rw [Bool.eq_false_iff]; exact fun hh => h (mem_iff.1 hh)
theorem any_iff {m : Int} {a : RL} {v : Bool} (h : Mem m a ↔ v = true) : a.any (inR m) = v := by
  rw [Bool.eq_iff_iff, mem_iff, h]

theorem Inv.start {g : Bool → Bool → Bool} {a b : RL} (ha : Canon a) (hb : Canon b) (hg : g false false = false) : Inv g a b a b [] 1 where
  ca := ha
  cb := hb
  na := fun x hx => by have := ha.1 x hx; have := this.2.1; have := (ha.1 x hx).1; omega
  nb := fun x hx => by have := hb.1 x hx; have := this.2.1; have := (hb.1 x hx).1; omega
  n1 := by omega
  n2 := by omega
  ma := fun _ _ => Iff.rfl
  mb := fun _ _ => Iff.rfl
  cs := ⟨by simp, by simp⟩
  ns := by simp
  ms := fun m => by
    constructor
    · intro h; exact absurd h mem_nil
    · rintro ⟨h1, h2⟩
      rw [any_false (fun h => absurd (mem_pos ha h) (by omega)), any_false (fun h => absurd (mem_pos hb h) (by omega)), hg] at h2
      cases h2

theorem Inv.lt {g : Bool → Bool → Bool} {a b as' bs' S : RL} {n : Int} (h : Inv g a b as' bs' S n) (hne : 0 < as'.length ∨ 0 < bs'.length) : n ≤ 1073741824 := by
  rcases hne with hl | hl
  · obtain ⟨x, t, rfl⟩ : ∃ x t, as' = x :: t := by cases as' with
      | nil => simp at hl
      | cons x t => exact ⟨x, t, rfl⟩
    have h1 := h.na x (by simp)
    have h2 := (h.ca.1 x (by simp)).2.2
    omega
  · obtain ⟨x, t, rfl⟩ : ∃ x t, bs' = x :: t := by cases bs' with
      | nil => simp at hl
      | cons x t => exact ⟨x, t, rfl⟩
    have h1 := h.nb x (by simp)
    have h2 := (h.cb.1 x (by simp)).2.2
    omega

theorem Inv.step {g : Bool → Bool → Bool} {a b as' bs' S : RL} {n nx : Int} (h : Inv g a b as' bs' S n) (hn : n ≤ 1073741824) (hx : nx = min (stE as' n) (stE bs' n)) :
    n < nx ∧ nx ≤ 1073741825 ∧ Inv g a b (pastL as' nx) (pastL bs' nx) (if g (stB as' n) (stB bs' n) = true then ext S (n, nx - 1) else S) nx := by
  obtain ⟨a1, a2, a3⟩ := st_spec h.ca h.na hn
  obtain ⟨b1, b2, b3⟩ := st_spec h.cb h.nb hn
  have hlt : n < nx := by omega
  have hle : nx ≤ 1073741825 := by omega
  obtain ⟨p1, p2, p3⟩ := past_spec h.ca h.na hlt (show nx ≤ stE as' n by omega)
  obtain ⟨q1, q2, q3⟩ := past_spec h.cb h.nb hlt (show nx ≤ stE bs' n by omega)
  have mida : ∀ m, n ≤ m → m < nx → a.any (inR m) = stB as' n := fun m h1 h2 => any_iff ((h.ma m h1).trans (a3 m h1 (by omega)))
  have midb : ∀ m, n ≤ m → m < nx → b.any (inR m) = stB bs' n := fun m h1 h2 => any_iff ((h.mb m h1).trans (b3 m h1 (by omega)))
  have h1 := h.n1
  have hS : ∀ x ∈ S, x.1 ≤ n := fun x hx => by have := h.ns x hx; have := (h.cs.1 x hx).2.1; omega
  have E := ext_canon (r := (n, nx - 1)) h.cs ⟨h1, by simp only; omega, by simp only; omega⟩ hS
  refine ⟨hlt, hle, ⟨p1, q1, p2, q2, by omega, hle, fun m hm => (h.ma m (by omega)).trans (p3 m hm), fun m hm => (h.mb m (by omega)).trans (q3 m hm), ?_, ?_, ?_⟩⟩
  · split
    · exact E.1
    · exact h.cs
  · split
    · intro x hx
      by_cases hh : nx ≤ x.2
      · exfalso
        have hm : Mem x.2 (ext S (n, nx - 1)) := ⟨x, hx, (E.1.1 x hx).2.1, by omega⟩
        rcases (E.2.1 _).1 hm with ⟨y, hy, h3, h4⟩ | h3
        · have := h.ns y hy; omega
        · simp only at h3; omega
      · omega
    · intro x hx; have := h.ns x hx; omega
  · intro m
    split
    · rename_i hg
      rw [E.2.1, h.ms]
      constructor
      · rintro (⟨h3, h4⟩ | h3)
        · exact ⟨by omega, h4⟩
        · simp only at h3
          refine ⟨by omega, ?_⟩
          rw [mida m h3.1 (by omega), midb m h3.1 (by omega)]
          exact hg
      · rintro ⟨h3, h4⟩
        by_cases hh : m < n
        · exact .inl ⟨hh, h4⟩
        · exact .inr ⟨by simp only; omega, by simp only; omega⟩
    · rename_i hg
      rw [h.ms]
      constructor
      · rintro ⟨h3, h4⟩; exact ⟨by omega, h4⟩
      · rintro ⟨h3, h4⟩
        by_cases hh : m < n
        · exact ⟨hh, h4⟩
        · exfalso
          rw [mida m (by omega) h3, midb m (by omega) h3] at h4
          exact hg h4

theorem Inv.done {g : Bool → Bool → Bool} {a b S : RL} {n : Int} (h : Inv g a b [] [] S n) (hg : g false false = false) : Canon S ∧ ∀ m, Mem m S ↔ g (a.any (inR m)) (b.any (inR m)) = true := by
  refine ⟨h.cs, fun m => ?_⟩
  rw [h.ms]
  constructor
  · exact fun hh => hh.2
  · intro hh
    refine ⟨?_, hh⟩
    by_cases h2 : m < n
    · exact h2
    · exfalso
      have h1 : n ≤ m := by omega
      rw [any_false (fun hm => mem_nil ((h.ma m h1).1 hm)), any_false (fun hm => mem_nil ((h.mb m h1).1 hm)), hg] at hh
      cases hh

theorem canon_len {S : RL} (h : Canon S) : S.length ≤ 1073741824 := by
  have key : ∀ i, (hi : i < S.length) → (i : Int) + 1 ≤ S[i].2 := by
    intro i
    induction i with
    | zero =>
      intro hi
      have := h.1 _ (List.getElem_mem hi)
      have h1 := this.1
      have h2 := this.2.1
      simp
      omega
    | succ i ih =>
      intro hi
      have h0 := ih (by omega)
      have h1 := List.pairwise_iff_getElem.1 h.2 i (i + 1) (by omega) hi (by omega)
      have h2 := (h.1 _ (List.getElem_mem hi)).2.1
      omega
  rcases Nat.eq_zero_or_pos S.length with h0 | h0
  · omega
  · have h1 := key (S.length - 1) (by omega)
    have h2 := (h.1 _ (List.getElem_mem (show S.length - 1 < S.length by omega))).2.2
    omega
end Go.Proofs.Ytahlccihjjhgfaa
