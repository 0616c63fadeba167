/- Plain: tables as ascending lists; Put; the table of a list of pairs. -/
import Derived.Test.YtjglpmcekbjoaaaL
namespace Go.Proofs.Ytjglpmcekbjoaaa

theorem ltID_irrefl (a : ID) : ltID a a = false := by simp [ltID]
theorem ltID_trans {a b c : ID} (h1 : ltID a b = true) (h2 : ltID b c = true) : ltID a c = true := by
  simp [ltID] at *
  omega
theorem ltID_asymm {a b : ID} (h1 : ltID a b = true) : ltID b a = false := by
  simp [ltID] at *
  omega
theorem ltID_tri {a b : ID} (h1 : ltID a b = false) (h2 : a ≠ b) : ltID b a = true := by
  obtain ⟨a1, a2⟩ := a
  obtain ⟨b1, b2⟩ := b
  simp [ltID] at *
  omega

/-- The reference's Put. -/
def putR : List CT → ID → Int → List CT
  | [], i, n => [(i, n)]
  | c :: t, i, n => if ltID c.1 i then c :: putR t i n else if c.1 = i then (i, c.2 + n) :: t else (i, n) :: c :: t

theorem putR_keys (t : List CT) (i : ID) (n : Int) : ∀ j, j ∈ (putR t i n).map (·.1) ↔ j = i ∨ j ∈ t.map (·.1) := by
  intro j
  induction t with
  | nil => simp [putR]
  | cons c t ih =>
    rw [putR]
    split
    · rw [List.map_cons, List.mem_cons, ih, List.map_cons, List.mem_cons]
      constructor <;> rintro (h | h | h) <;> simp [h]
    · split
      · rename_i e; subst e; simp
      · simp
theorem putR_asc {t : List CT} (h : Asc t) (i : ID) (n : Int) : Asc (putR t i n) := by
  induction t with
  | nil => simp [putR, Asc]
  | cons c t ih =>
    obtain ⟨h1, h2⟩ := List.pairwise_cons.1 h
    rw [putR]
    split
    · rename_i hc
      refine List.pairwise_cons.2 ⟨fun d hd => ?_, ih h2⟩
      have : d.1 ∈ (putR t i n).map (·.1) := List.mem_map.2 ⟨d, hd, rfl⟩
      rcases (putR_keys t i n d.1).1 this with e | e
      · rw [e]; exact hc
      · obtain ⟨d', hd', e'⟩ := List.mem_map.1 e
        rw [← e']
        exact h1 d' hd'
    · rename_i hc
      split
      · rename_i e
        subst e
        exact List.pairwise_cons.2 ⟨h1, h2⟩
      · rename_i e
        have hlt := ltID_tri (by simpa using hc) e
        refine List.pairwise_cons.2 ⟨fun d hd => ?_, h⟩
        rcases List.mem_cons.1 hd with rfl | hd
        · exact hlt
        · exact ltID_trans hlt (h1 d hd)
theorem asc_ne_of_lt {t : List CT} {i : ID} (h : ∀ c ∈ t, ltID i c.1 = true) : asc t i = none :=
  asc_none (fun c hc e => by have := h c hc; rw [e, ltID_irrefl] at this; cases this)
theorem asc_putR {t : List CT} (h : Asc t) (i j : ID) (n : Int) : asc (putR t i n) j = if i = j then some (nAt t i + n) else asc t j := by
  induction t with
  | nil => simp [putR, asc, nAt]
  | cons c t ih =>
    obtain ⟨h1, h2⟩ := List.pairwise_cons.1 h
    rw [putR]
    split
    · rename_i hc
      have hne : c.1 ≠ i := fun e => by rw [e, ltID_irrefl] at hc; cases hc
      have e1 : nAt (c :: t) i = nAt t i := by simp [nAt, asc, hne]
      simp only [asc, ih h2, e1]
      by_cases hij : i = j
      · subst hij; simp [hne]
      · simp [hij]
    · rename_i hc
      split
      · rename_i e
        subst e
        simp only [asc, nAt]
        by_cases hj : c.1 = j <;> simp [hj]
      · rename_i e
        have hlt := ltID_tri (by simpa using hc) e
        have e0 : asc (c :: t) i = none := asc_ne_of_lt (fun d hd => by
          rcases List.mem_cons.1 hd with rfl | hd
          · exact hlt
          · exact ltID_trans hlt (h1 d hd))
        simp only [nAt, e0]
        rw [asc]
        simp

/-- Two ascending tables that have the same number at each ID are one. -/
theorem asc_ext : ∀ {t u : List CT}, Asc t → Asc u → (∀ i, asc t i = asc u i) → t = u
  | [], [], _, _, _ => rfl
  | [], d :: u, _, _, h => by have := h d.1; simp [asc] at this
  | c :: t, [], _, _, h => by have := h c.1; simp [asc] at this
  | c :: t, d :: u, h1, h2, h => by
    obtain ⟨a1, a2⟩ := List.pairwise_cons.1 h1
    obtain ⟨b1, b2⟩ := List.pairwise_cons.1 h2
    have hcd : c.1 = d.1 := by
      rcases Classical.em (c.1 = d.1) with e | e
      · exact e
      · exfalso
        cases hl : ltID c.1 d.1 with
        | true =>
          have := h c.1
          rw [show asc (d :: u) c.1 = none from asc_ne_of_lt (fun x hx => by
            rcases List.mem_cons.1 hx with rfl | hx
            · exact hl
            · exact ltID_trans hl (b1 x hx))] at this
          simp [asc] at this
        | false =>
          have hl2 := ltID_tri hl e
          have := h d.1
          rw [show asc (c :: t) d.1 = none from asc_ne_of_lt (fun x hx => by
            rcases List.mem_cons.1 hx with rfl | hx
            · exact hl2
            · exact ltID_trans hl2 (a1 x hx))] at this
          simp [asc] at this
    have hn : c.2 = d.2 := by
      have := h c.1
      simp only [asc, hcd, if_true] at this
      simpa using this
    have e : c = d := Prod.ext hcd hn
    subst e
    rw [asc_ext a2 b2 (fun i => by
      have := h i
      simp only [asc] at this
      by_cases hi : c.1 = i
      · subst hi
        rw [asc_ne_of_lt a1, asc_ne_of_lt b1]
      · rwa [if_neg hi, if_neg hi] at this)]
theorem Asc.nodup {t : List CT} (h : Asc t) : (t.map (·.1)).Nodup := by
  have : t.Pairwise (fun a b => a.1 ≠ b.1) := h.imp (fun {a b} hab e => by rw [e, ltID_irrefl] at hab; cases hab)
  simpa [List.Nodup, List.pairwise_map] using this
theorem asc_perm {t u : List CT} (h : t.Perm u) (hn : (u.map (·.1)).Nodup) (i : ID) : asc t i = asc u i := by
  have hn' : (t.map (·.1)).Nodup := (List.Perm.nodup_iff (h.map (fun c : CT => c.1))).2 hn
  cases hu : asc u i with
  | some v => exact asc_mem (c := (i, v)) hn' (h.mem_iff.2 (mem_of_asc hu))
  | none =>
    refine asc_none (fun c hc e => ?_)
    have := asc_mem hn (h.mem_iff.1 hc)
    rw [e, hu] at this
    cases this
end Go.Proofs.Ytjglpmcekbjoaaa
