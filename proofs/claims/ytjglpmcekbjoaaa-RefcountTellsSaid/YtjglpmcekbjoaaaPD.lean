/- Plain: tables that tell the references of manifests. -/
import Derived.Test.YtjglpmcekbjoaaaPC
namespace Go.Proofs.Ytjglpmcekbjoaaa

/-- X is the table of ms. -/
def TellsX (X : List CT) (ms : List Man) : Prop := tblE X = 0 ∧ X.length ≤ (idsOf ms).length ∧ ∀ i, asc X i = if i ∈ idsOf ms then some (((idsOf ms).count i : Nat) : Int) else none
theorem TellsX.nil : TellsX [] [] := ⟨nil_tbl, by simp, fun i => by simp [idsOf, asc]⟩
theorem TellsX.nAt {X : List CT} {ms : List Man} (h : TellsX X ms) (i : ID) : nAt X i = ((idsOf ms).count i : Nat) := by
  unfold Go.Proofs.Ytjglpmcekbjoaaa.nAt
  rw [h.2.2]
  split
  · rfl
  · rename_i hi; rw [List.count_eq_zero_of_not_mem hi]; rfl
theorem TellsX.key {X : List CT} {ms : List Man} (h : TellsX X ms) (i : ID) : i ∈ X.map (·.1) ↔ i ∈ idsOf ms := by
  constructor
  · intro hm
    obtain ⟨n, e⟩ := asc_isSome hm
    rw [h.2.2] at e
    by_cases hi : i ∈ idsOf ms
    · exact hi
    · rw [if_neg hi] at e; cases e
  · intro hm
    exact key_of_asc (n := (((idsOf ms).count i : Nat) : Int)) (by rw [h.2.2, if_pos hm])
theorem ids_ok {ms : List Man} (hf : ∀ m ∈ ms, ∀ i ∈ m.ids, okID i) : ∀ i ∈ idsOf ms, okID i := by
  intro i hi
  obtain ⟨m, hm, h⟩ := List.mem_flatMap.1 hi
  exact hf m hm i h
theorem TellsX.ok {X : List CT} {ms : List Man} (h : TellsX X ms) (hf : ∀ m ∈ ms, ∀ i ∈ m.ids, okID i) : ∀ c ∈ X, okID c.1 := fun c hc => ids_ok hf _ ((h.key c.1).1 (List.mem_map.2 ⟨c, hc, rfl⟩))
theorem TellsX.add {X : List CT} {ms : List Man} {m : Man} (h : TellsX X ms) (hm : manE m = 0) (hl : (idsOf (ms ++ [m])).length ≤ 4096) : ∃ T, addP X m = (T, 0) ∧ TellsX T (ms ++ [m]) := by
  have he : idsOf (ms ++ [m]) = idsOf ms ++ m.ids := by rw [ids_app, ids_one]
  rw [he, List.length_append] at hl
  have h1 := h.2.1
  obtain ⟨T, t1, t2, t3, t4, t5⟩ := add_ok h.1 hm (by omega) (fun i => by rw [h.nAt]; have := count_le (idsOf ms) i; have := count_le m.ids i; omega)
  refine ⟨T, t1, t2, by rw [he, List.length_append]; omega, fun i => ?_⟩
  rw [t4, h.nAt, h.2.2, he, List.count_append]
  by_cases a : i ∈ m.ids <;> by_cases b : i ∈ idsOf ms <;> simp [a, b, List.count_eq_zero_of_not_mem]
theorem TellsX.of {ms : List Man} (h : errM ms = 0) (hl : (idsOf ms).length ≤ 4096) : ∃ T, ofP ms = (T, 0) ∧ TellsX T ms := by
  obtain ⟨T, t1, t2, t3, t4, _⟩ := of_ok h hl
  exact ⟨T, t1, t2, t3, t4⟩
theorem ids_perm {a b : List Man} (h : a.Perm b) : (idsOf a).Perm (idsOf b) := h.flatMap_right _
theorem TellsX.eq {X Y : List CT} {a b : List Man} (h : TellsX X a) (k : TellsX Y b) (hp : a.Perm b) : X = Y :=
  asc_ext (tbl_asc h.1) (tbl_asc k.1) (fun i => by
    have := ids_perm hp
    rw [h.2.2, k.2.2, this.count_eq i]
    simp only [this.mem_iff])

/-- x says how many references the live manifests have. -/
def TellsN (x : List CT) (ms : List Man) : Prop := tblE x = 0 ∧ (∀ i, nAt x i = ((idsOf ms).count i : Nat)) ∧ ∀ c ∈ x, okID c.1
theorem TellsN.nil : TellsN [] [] := ⟨nil_tbl, fun i => by simp [idsOf, nAt, asc], by simp⟩
theorem TellsN.add {x : List CT} {ms : List Man} {m : Man} (h : TellsN x ms) (hm : manE m = 0) (hok : ∀ i ∈ m.ids, okID i) (hx : x.length + m.ids.length ≤ 4096) (hl : (idsOf ms).length + m.ids.length ≤ 4096) :
    ∃ T, addP x m = (T, 0) ∧ TellsN T (ms ++ [m]) ∧ T.length ≤ x.length + m.ids.length := by
  have he : idsOf (ms ++ [m]) = idsOf ms ++ m.ids := by rw [ids_app, ids_one]
  obtain ⟨T, t1, t2, t3, t4, t5⟩ := add_ok h.1 hm hx (fun i => by rw [h.2.1]; have := count_le (idsOf ms) i; have := count_le m.ids i; omega)
  refine ⟨T, t1, ⟨t2, fun i => by rw [t5, h.2.1, he, List.count_append]; push_cast; rfl, fun c hc => ?_⟩, t3⟩
  have hk := asc_mem (tbl_nodup t2) hc
  rw [t4] at hk
  split at hk
  · rename_i hi; exact hok _ hi
  · exact h.2.2 c (mem_of_asc hk)
theorem TellsN.rel {x : List CT} {a b : List Man} {m : Man} (h : TellsN x (a ++ m :: b)) (hm : manE m = 0) : ∃ T, relP x m = (T, 0) ∧ TellsN T (a ++ b) ∧ T.length = x.length := by
  have he : ∀ i, (idsOf (a ++ m :: b)).count i = (idsOf (a ++ b)).count i + m.ids.count i := by
    intro i
    rw [ids_app, ids_cons, ids_app]
    simp only [List.count_append]
    omega
  obtain ⟨T, t1, t2, t3, t4, t5⟩ := rel_ok h.1 hm (fun i => by rw [h.2.1, he]; omega)
  refine ⟨T, t1, ⟨t2, fun i => by rw [t5, h.2.1, he]; omega, fun c hc => ?_⟩, t3⟩
  have hk := asc_mem (tbl_nodup t2) hc
  rw [t4] at hk
  cases e : asc x c.1 with
  | none => rw [e] at hk; cases hk
  | some n => exact h.2.2 (c.1, n) (mem_of_asc e)

/-- Add of a good table: it is added, or there are too many. -/
theorem add_cases {x : List CT} {m : Man} (hx : tblE x = 0) (hm : manE m = 0) (hok : ∀ i ∈ m.ids, okID i) (hot : ∀ c ∈ x, okID c.1) :
    addP x m = ([], 281) ∨ ∃ T Z, addP x m = (T, 0) ∧ relP T m = (Z, 0) ∧ tblE T = 0 ∧ tblE Z = 0 ∧ (∀ c ∈ T, okID c.1) ∧ ∀ i, nAt Z i = nAt x i := by
  have hnd := (incl_spec x (refs_spec [m]).1 (tbl_nodup hx)).1
  have hasc := asc_incl_refs x m (tbl_nodup hx)
  have hnat : ∀ i, nAt (incl (refs [m]) x) i = nAt x i + (m.ids.count i : Nat) := by
    intro i
    conv => lhs; unfold nAt
    rw [hasc]
    split
    · rfl
    · rename_i h; rw [List.count_eq_zero_of_not_mem h]; unfold nAt; simp
  have hpos := incl_pos (refs_spec [m]).1 (tbl_nodup hx) (refs_pos (by rw [errM_one]; exact hm)) (tbl_pos hx)
  by_cases hl : limB (incl (refs [m]) x) = true
  · right
    obtain ⟨h1, h2, h3, h4⟩ := limP_ok hnd hl hpos
    have hT : ∀ i, nAt (tabR (incl (refs [m]) x)) i = nAt x i + (m.ids.count i : Nat) := fun i => by rw [nAt_of_asc (h3 i), hnat]
    obtain ⟨Z, z1, z2, z3, z4, z5⟩ := rel_ok h2 hm (fun i => by rw [hT]; have := (tbl_nAt hx i).1; omega)
    refine ⟨_, Z, by unfold addP; rw [if_pos hx, if_pos hm, h1], z1, h2, z2, fun c hc => ?_, fun i => by rw [z5, hT]; omega⟩
    have hk := asc_mem (tbl_nodup h2) hc
    rw [h3, hasc] at hk
    split at hk
    · rename_i hi; exact hok _ hi
    · exact hot c (mem_of_asc hk)
  · left
    unfold addP
    rw [if_pos hx, if_pos hm]
    unfold limP
    rw [if_neg hl]

/-- Lives: kept manifests and those to come. -/
def LivesX (X : List CT) (all kept rest : List Man) : Prop := tblE X = 0 ∧ (∀ i, nAt X i = ((idsOf kept).count i : Nat) + ((idsOf rest).count i : Nat)) ∧ (∀ i, i ∈ X.map (·.1) ↔ i ∈ idsOf all)
theorem LivesX.start {X : List CT} {all : List Man} (h : TellsX X all) : LivesX X all [] all := ⟨h.1, fun i => by rw [h.nAt]; simp [idsOf], h.key⟩
theorem LivesX.keep {X : List CT} {all kept rest : List Man} {m : Man} (h : LivesX X all kept (m :: rest)) : LivesX X all (kept ++ [m]) rest :=
  ⟨h.1, fun i => by rw [h.2.1, ids_cons, ids_app, ids_one]; simp only [List.count_append]; push_cast; omega, h.2.2⟩
theorem LivesX.rel {X : List CT} {all kept rest : List Man} {m : Man} (h : LivesX X all kept (m :: rest)) (hm : manE m = 0) : ∃ T, relP X m = (T, 0) ∧ LivesX T all kept rest := by
  obtain ⟨T, t1, t2, t3, t4, t5⟩ := rel_ok h.1 hm (fun i => by rw [h.2.1, ids_cons]; simp only [List.count_append]; push_cast; omega)
  refine ⟨T, t1, t2, fun i => by rw [t5, h.2.1, ids_cons]; simp only [List.count_append]; push_cast; omega, fun i => ?_⟩
  rw [← h.2.2]
  constructor
  · intro hk
    obtain ⟨n, e⟩ := asc_isSome hk
    rw [t4] at e
    cases e2 : asc X i with
    | none => rw [e2] at e; cases e
    | some k => exact key_of_asc e2
  · intro hk
    obtain ⟨n, e⟩ := asc_isSome hk
    exact key_of_asc (n := n - ((m.ids.count i : Nat) : Int)) (by rw [t4, e]; rfl)
theorem LivesX.ok {X : List CT} {all kept rest : List Man} (h : LivesX X all kept rest) (hf : ∀ m ∈ all, ∀ i ∈ m.ids, okID i) : ∀ c ∈ X, okID c.1 := fun c hc => ids_ok hf _ ((h.2.2 c.1).1 (List.mem_map.2 ⟨c, hc, rfl⟩))
theorem LivesX.dead {X : List CT} {all kept : List Man} (h : LivesX X all kept []) {i : ID} (hi : i ∈ idsOf all) : decide (i ∈ deadP X) = !decide (i ∈ idsOf kept) := by
  have h1 := h.2.1 i
  have h2 : (idsOf ([] : List Man)).count i = 0 := by simp [idsOf]
  rw [h2] at h1
  rw [Bool.eq_iff_iff]
  simp only [decide_eq_true_eq, Bool.not_eq_true', decide_eq_false_iff_not, mem_dead h.1, h.2.2]
  constructor
  · rintro ⟨_, h0⟩ hk
    have : 0 < (idsOf kept).count i := List.count_pos_iff.2 hk
    omega
  · intro hk
    rw [List.count_eq_zero_of_not_mem hk] at h1
    exact ⟨hi, by simpa using h1⟩
end Go.Proofs.Ytjglpmcekbjoaaa
