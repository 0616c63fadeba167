/- Plain: what the functions of refcount answer where nothing is wrong. -/
import Derived.Test.YtjglpmcekbjoaaaLA
namespace Go.Proofs.Ytjglpmcekbjoaaa

theorem limP_ok {L : List CT} (hn : (L.map (·.1)).Nodup) (hl : limB L = true) (hc : ∀ c ∈ L, chunkB c.1 = true ∧ 0 ≤ c.2) : limP L = (tabR L, 0) ∧ tblE (tabR L) = 0 ∧ (∀ i, asc (tabR L) i = asc L i) ∧ (tabR L).length = L.length := by
  have hs := tabR_spec hn
  have hp := tabR_perm hn
  have h1 := (limB_iff L).1 hl
  refine ⟨by unfold limP; rw [if_pos hl], ?_, hs.2, hp.length_eq⟩
  rw [tblE_iff]
  exact ⟨by rw [hp.length_eq]; exact h1.1, hs.1, fun c hcT => (rowB_iff c).2 ⟨(hc c (hp.mem_iff.1 hcT)).1, (hc c (hp.mem_iff.1 hcT)).2, h1.2 c (hp.mem_iff.1 hcT)⟩⟩
theorem lim_of {L : List CT} (hn : (L.map (·.1)).Nodup) (h1 : L.length ≤ 4096) (h2 : ∀ i, nAt L i ≤ 1073741824) : limB L = true := (limB_iff L).2 ⟨h1, fun c hc => by rw [← nAt_row hn hc]; exact h2 c.1⟩
theorem nAt_of_asc {L K : List CT} {i : ID} (h : asc L i = asc K i) : nAt L i = nAt K i := by unfold nAt; rw [h]
theorem few_man {m : Man} (h : FewM false m) : manE m = 0 := by
  obtain ⟨h1, h2, h3⟩ := h
  have hb := sumZ_bound m.ids h1
  rcases h3 with h3 | ⟨h3, _⟩
  · have hall : m.ids.all chunkB = true := by
      rw [List.all_eq_true]
      intro i hi
      have := h1 i hi
      obtain ⟨s, z⟩ := i
      unfold Few at this
      simp only at this
      simp [chunkB, validB]
      omega
    rw [manE_end (by omega) hall, if_pos ⟨h3, by omega⟩]
  · cases h3
theorem few_err {ms : List Man} (h : ∀ m ∈ ms, FewM false m) : errM ms = 0 := by
  induction ms with
  | nil => rfl
  | cons m ms ih =>
    rw [errM, if_pos (few_man (h m (by simp)))]
    exact ih (fun m hm => h m (by simp [hm]))
theorem count_le (l : List ID) (i : ID) : l.count i ≤ l.length := List.count_le_length
theorem add_ok {x : List CT} {m : Man} (hx : tblE x = 0) (hm : manE m = 0) (hl : x.length + m.ids.length ≤ 4096) (hn : ∀ i, nAt x i + (m.ids.count i : Nat) ≤ 1073741824) :
    ∃ T, addP x m = (T, 0) ∧ tblE T = 0 ∧ T.length ≤ x.length + m.ids.length ∧ (∀ i, asc T i = if i ∈ m.ids then some (nAt x i + (m.ids.count i : Nat)) else asc x i) ∧ ∀ i, nAt T i = nAt x i + (m.ids.count i : Nat) := by
  have hnd := (incl_spec x (refs_spec [m]).1 (tbl_nodup hx)).1
  have hasc := asc_incl_refs x m (tbl_nodup hx)
  have hnat : ∀ i, nAt (incl (refs [m]) x) i = nAt x i + (m.ids.count i : Nat) := by
    intro i
    conv => lhs; unfold nAt
    rw [hasc]
    split
    · rfl
    · rename_i h; rw [List.count_eq_zero_of_not_mem h]; unfold nAt; simp
  have hlen : (incl (refs [m]) x).length ≤ x.length + m.ids.length := by
    have h1 := incl_len x (refs [m])
    have h2 := addIDs_len (idsOf [m]) []
    rw [← refs_eq, ids_one] at h2
    simp only [List.length_nil] at h2
    omega
  obtain ⟨h1, h2, h3, h4⟩ := limP_ok hnd (lim_of hnd (by omega) (fun i => by rw [hnat]; exact hn i)) (incl_pos (refs_spec [m]).1 (tbl_nodup hx) (refs_pos (by rw [errM_one]; exact hm)) (tbl_pos hx))
  refine ⟨_, by unfold addP; rw [if_pos hx, if_pos hm, h1], h2, by omega, fun i => by rw [h3, hasc], fun i => by rw [nAt_of_asc (h3 i), hnat]⟩
theorem rel_ok {x : List CT} {m : Man} (hx : tblE x = 0) (hm : manE m = 0) (he : ∀ i, ((m.ids.count i : Nat) : Int) ≤ nAt x i) :
    ∃ T, relP x m = (T, 0) ∧ tblE T = 0 ∧ T.length = x.length ∧ (∀ i, asc T i = (asc x i).map (fun n : Int => n - ((m.ids.count i : Nat) : Int))) ∧ ∀ i, nAt T i = nAt x i - (m.ids.count i : Nat) := by
  refine ⟨restR x m.ids, ?_, ?_, by simp [restR], asc_restR x m.ids, fun i => ?_⟩
  · unfold relP
    rw [if_pos hx, if_pos hm, if_pos]
    simp only [enoughB, List.all_eq_true, decide_eq_true_eq]
    exact fun i _ => he i
  · refine restR_tbl hx (fun c hc => ?_)
    have := he c.1
    rwa [nAt_row (tbl_nodup hx) hc] at this
  · conv => lhs; unfold nAt
    rw [asc_restR]
    have := he i
    unfold nAt at this ⊢
    cases h : asc x i with
    | some n => simp
    | none =>
      rw [h] at this
      simp at this ⊢
      omega
theorem of_ok {ms : List Man} (h : errM ms = 0) (hl : (idsOf ms).length ≤ 4096) :
    ∃ T, ofP ms = (T, 0) ∧ tblE T = 0 ∧ T.length ≤ (idsOf ms).length ∧ (∀ i, asc T i = if i ∈ idsOf ms then some (((idsOf ms).count i : Nat) : Int) else none) ∧ ∀ i, nAt T i = ((idsOf ms).count i : Nat) := by
  have hlen : (refs ms).length ≤ (idsOf ms).length := by
    have h2 := addIDs_len (idsOf ms) []
    rw [← refs_eq] at h2
    simpa using h2
  obtain ⟨h1, h2, h3, h4⟩ := limP_ok (refs_spec ms).1 (lim_of (refs_spec ms).1 (by omega) (fun i => by rw [nAt_refs]; have := count_le (idsOf ms) i; omega)) (refs_pos h)
  exact ⟨_, by unfold ofP; rw [if_pos h, h1], h2, by omega, fun i => by rw [h3, (refs_spec ms).2], fun i => by rw [nAt_of_asc (h3 i), nAt_refs]⟩
theorem merge_ok {t u : List CT} (ht : tblE t = 0) (hu : tblE u = 0) (hl : t.length + u.length ≤ 4096) (hn : ∀ i, nAt t i + nAt u i ≤ 1073741824) :
    ∃ T, mergeP t u = (T, 0) ∧ tblE T = 0 ∧ ∀ i, asc T i = if i ∈ u.map (·.1) then some (nAt t i + nAt u i) else asc t i := by
  have h0 := incl_spec t (L := []) (by simp) (tbl_nodup ht)
  have h1 := incl_spec u h0.1 (tbl_nodup hu)
  have hasc : ∀ i, asc (incl (incl [] t) u) i = if i ∈ u.map (·.1) then some (nAt t i + nAt u i) else asc t i := by
    intro i
    rw [h1.2, asc_incl_nil t (tbl_nodup ht)]
    simp only [nAt, asc_incl_nil t (tbl_nodup ht)]
  have hnat : ∀ i, nAt (incl (incl [] t) u) i = nAt t i + nAt u i := by
    intro i
    conv => lhs; unfold nAt
    rw [hasc]
    split
    · rfl
    · rename_i h; rw [nAt_none h]; unfold nAt; simp
  have hlen : (incl (incl [] t) u).length ≤ t.length + u.length := by
    have a := incl_len u (incl [] t)
    have b := incl_len t []
    simp only [List.length_nil] at b
    omega
  obtain ⟨a, b, c, d⟩ := limP_ok h1.1 (lim_of h1.1 (by omega) (fun i => by rw [hnat]; exact hn i)) (incl_pos h0.1 (tbl_nodup hu) (incl_pos (by simp) (tbl_nodup ht) (by simp) (tbl_pos ht)) (tbl_pos hu))
  exact ⟨_, by unfold mergeP; rw [if_pos ht, if_pos hu, a], b, fun i => by rw [c, hasc]⟩
theorem ver_ok {x : List CT} {ms : List Man} (hx : tblE x = 0) (h : errM ms = 0) (hn : ∀ i, nAt x i = ((idsOf ms).count i : Nat)) : verP x ms = ([], 0) := by
  unfold verP
  rw [if_pos hx, if_pos h]
  have : wrongR x (ofT ms) = [] := by
    rw [List.eq_nil_iff_forall_not_mem]
    intro i hi
    exact (mem_wrongR (tbl_asc hx) ms i).1 hi (hn i).symm
  rw [this]
theorem asc_filter {t : List CT} (hn : (t.map (·.1)).Nodup) (f : CT → Bool) (i : ID) : asc (t.filter f) i = (asc t i).bind (fun n => if f (i, n) then some n else none) := by
  induction t with
  | nil => rfl
  | cons c t ih =>
    simp only [List.map_cons, List.nodup_cons] at hn
    rw [List.filter_cons]
    by_cases e : c.1 = i
    · have e0 : asc t i = none := asc_none_iff.2 (e ▸ hn.1)
      subst e
      by_cases h : f c = true
      · simp [h, asc]
      · have e1 := ih hn.2
        rw [e0] at e1
        simp [h, asc, e1]
    · by_cases h : f c = true
      · simp [h, asc, e, ih hn.2]
      · simp [h, asc, e, ih hn.2]
theorem sweep_ok {x T : List CT} {ms : List Man} (hx : tblE x = 0) (hT : Asc T) (ha : ∀ i, asc T i = if i ∈ idsOf ms then some (((idsOf ms).count i : Nat) : Int) else none) (hn : ∀ i, nAt x i = ((idsOf ms).count i : Nat)) : sweepP x = T := by
  unfold sweepP
  rw [if_pos hx]
  refine asc_ext ((tbl_asc hx).filter _) hT (fun i => ?_)
  rw [asc_filter (tbl_nodup hx), ha]
  have h := hn i
  by_cases hi : i ∈ idsOf ms
  · have hp : 0 < (idsOf ms).count i := List.count_pos_iff.2 hi
    rw [if_pos hi]
    cases e : asc x i with
    | none => rw [nAt, e] at h; simp at h; omega
    | some n =>
      rw [nAt, e] at h
      simp at h
      subst h
      simp
      omega
  · have hp : (idsOf ms).count i = 0 := List.count_eq_zero_of_not_mem hi
    rw [if_neg hi]
    cases e : asc x i with
    | none => rfl
    | some n =>
      rw [nAt, e, hp] at h
      simp at h
      subst h
      simp
theorem mem_dead {x : List CT} (hx : tblE x = 0) (i : ID) : i ∈ deadP x ↔ i ∈ x.map (·.1) ∧ nAt x i = 0 := by
  unfold deadP
  rw [if_pos hx, List.mem_map]
  constructor
  · rintro ⟨c, hc, rfl⟩
    rw [List.mem_filter] at hc
    exact ⟨List.mem_map.2 ⟨c, hc.1, rfl⟩, by rw [nAt_row (tbl_nodup hx) hc.1]; simpa using hc.2⟩
  · rintro ⟨h1, h2⟩
    obtain ⟨c, hc, rfl⟩ := List.mem_map.1 h1
    exact ⟨c, List.mem_filter.2 ⟨hc, by rw [nAt_row (tbl_nodup hx) hc] at h2; simpa using h2⟩, rfl⟩
theorem ids_app (a b : List Man) : idsOf (a ++ b) = idsOf a ++ idsOf b := by simp [idsOf]
theorem ids_cons (m : Man) (ms : List Man) : idsOf (m :: ms) = m.ids ++ idsOf ms := by simp [idsOf]
theorem nil_tbl : tblE [] = 0 := by decide
theorem nil_nAt (i : ID) : nAt [] i = 0 := rfl

/-- Joins. -/
theorem joins_plain {a b : List Man} (ha : errM a = 0) (hb : errM b = 0) (hab : errM (a ++ b) = 0) (hla : (idsOf a).length ≤ 20) (hlb : (idsOf b).length ≤ 20) :
    ∃ X Y Z, ofP a = (X, 0) ∧ ofP b = (Y, 0) ∧ mergeP X Y = (Z, 0) ∧ ofP (a ++ b) = (Z, 0) ∧ mergeP Y X = (Z, 0) ∧ tblE X = 0 ∧ tblE Y = 0 := by
  obtain ⟨X, x1, x2, x3, x4, x5⟩ := of_ok ha (by omega)
  obtain ⟨Y, y1, y2, y3, y4, y5⟩ := of_ok hb (by omega)
  obtain ⟨W, w1, w2, w3, w4, w5⟩ := of_ok hab (by rw [ids_app, List.length_append]; omega)
  have bd : ∀ i, (idsOf a).count i ≤ 20 ∧ (idsOf b).count i ≤ 20 := fun i => ⟨by have := count_le (idsOf a) i; omega, by have := count_le (idsOf b) i; omega⟩
  obtain ⟨Z, z1, z2, z3⟩ := merge_ok x2 y2 (by omega) (fun i => by rw [x5, y5]; have := bd i; omega)
  obtain ⟨V, v1, v2, v3⟩ := merge_ok y2 x2 (by omega) (fun i => by rw [x5, y5]; have := bd i; omega)
  have key : ∀ {T : List CT} {l : List ID}, (∀ i, asc T i = if i ∈ l then some ((l.count i : Nat) : Int) else none) → ∀ i, i ∈ T.map (·.1) ↔ i ∈ l := by
    intro T l h i
    constructor
    · intro hm
      obtain ⟨n, e⟩ := asc_isSome hm
      rw [h] at e
      by_cases hi : i ∈ l
      · exact hi
      · rw [if_neg hi] at e; cases e
    · intro hm
      exact key_of_asc (n := ((l.count i : Nat) : Int)) (by rw [h, if_pos hm])
  have hZ : Z = W := asc_ext (tbl_asc z2) (tbl_asc w2) (fun i => by
    rw [z3, w4, ids_app, x4, x5, y5, List.count_append]
    simp only [key y4 i, List.mem_append]
    by_cases h1 : i ∈ idsOf a <;> by_cases h2 : i ∈ idsOf b <;> simp [h1, h2, List.count_eq_zero_of_not_mem])
  have hV : V = W := asc_ext (tbl_asc v2) (tbl_asc w2) (fun i => by
    rw [v3, w4, ids_app, y4, x5, y5, List.count_append]
    simp only [key x4 i, List.mem_append]
    by_cases h1 : i ∈ idsOf a <;> by_cases h2 : i ∈ idsOf b <;> simp [h1, h2, List.count_eq_zero_of_not_mem] <;> omega)
  subst hZ hV
  exact ⟨X, Y, V, x1, y1, z1, w1, v1, x2, y2⟩
end Go.Proofs.Ytjglpmcekbjoaaa
