/- Plain: what the functions of refcount answer, and that the reference answers the same. -/
import Derived.Test.YtjglpmcekbjoaaaO
namespace Go.Proofs.Ytjglpmcekbjoaaa

section
variable {α β : Type} [DecidableEq α]
theorem setL_nodup {L : List (α × β)} (h : (L.map (·.1)).Nodup) (a : α) (v : β) : ((setL L a v).map (·.1)).Nodup := by
  induction L with
  | nil => simp [setL]
  | cons c L ih =>
    simp only [List.map_cons, List.nodup_cons] at h
    rw [setL]
    split
    · rename_i e; subst e; simpa using h
    · rename_i e
      rw [List.map_cons, List.nodup_cons]
      refine ⟨fun hm => ?_, ih h.2⟩
      rcases (setL_keys L a v c.1).1 hm with h1 | h1
      · exact e h1
      · exact h.1 h1
end
theorem asc_some_iff {L : List CT} (hn : (L.map (·.1)).Nodup) (c : CT) : c ∈ L ↔ asc L c.1 = some c.2 := ⟨fun h => asc_mem hn h, fun h => mem_of_asc h⟩
theorem asc_isSome {L : List CT} {i : ID} (h : i ∈ L.map (·.1)) : ∃ n, asc L i = some n := by
  induction L with
  | nil => cases h
  | cons c L ih =>
    rw [asc]
    split
    · exact ⟨_, rfl⟩
    · rename_i e
      rw [List.map_cons, List.mem_cons] at h
      rcases h with h | h
      · exact absurd h.symm e
      · exact ih h
theorem key_of_asc {L : List CT} {i : ID} {n : Int} (h : asc L i = some n) : i ∈ L.map (·.1) := List.mem_map.2 ⟨_, mem_of_asc h, rfl⟩
theorem asc_none_iff {L : List CT} {i : ID} : asc L i = none ↔ i ∉ L.map (·.1) := by
  constructor
  · intro h hm
    obtain ⟨n, e⟩ := asc_isSome hm
    rw [h] at e; cases e
  · intro h
    exact asc_none (fun c hc e => h (e ▸ List.mem_map.2 ⟨c, hc, rfl⟩))

/-- The ascending table of a list of pairs. -/
def tabR (L : List CT) : List CT := L.foldl (fun t c => putR t c.1 c.2) []
theorem putsR_spec (u : List CT) : ∀ {t : List CT}, Asc t → (u.map (·.1)).Nodup → Asc (u.foldl (fun t c => putR t c.1 c.2) t) ∧ ∀ i, asc (u.foldl (fun t c => putR t c.1 c.2) t) i = if i ∈ u.map (·.1) then some (nAt t i + nAt u i) else asc t i := by
  induction u with
  | nil => intro t h _; exact ⟨h, fun i => by simp⟩
  | cons c u ih =>
    intro t h hn
    simp only [List.map_cons, List.nodup_cons] at hn
    have h1 := ih (putR_asc h c.1 c.2) hn.2
    refine ⟨h1.1, fun i => ?_⟩
    rw [List.foldl_cons, h1.2 i]
    have hk : ∀ j, nAt (putR t c.1 c.2) j = if c.1 = j then nAt t j + c.2 else nAt t j := by
      intro j
      conv => lhs; unfold nAt
      rw [asc_putR h]
      split
      · rename_i e; rw [← e]; rfl
      · rfl
    by_cases hi : i ∈ u.map (·.1)
    · rw [if_pos hi, if_pos (by simp only [List.map_cons, List.mem_cons]; exact .inr hi), hk]
      have hne : c.1 ≠ i := fun e => hn.1 (e ▸ hi)
      rw [if_neg hne]
      simp only [nAt, asc, if_neg hne]
    · rw [if_neg hi, asc_putR h]
      by_cases e : c.1 = i
      · subst e
        rw [if_pos rfl, if_pos (by simp)]
        simp [nAt, asc]
      · rw [if_neg e, if_neg]
        simp only [List.map_cons, List.mem_cons]
        rintro (h | h)
        · exact e h.symm
        · exact hi h
theorem tabR_spec {L : List CT} (hn : (L.map (·.1)).Nodup) : Asc (tabR L) ∧ ∀ i, asc (tabR L) i = asc L i := by
  have h := putsR_spec L (t := []) List.Pairwise.nil hn
  refine ⟨h.1, fun i => ?_⟩
  rw [tabR, h.2 i]
  by_cases hi : i ∈ L.map (·.1)
  · obtain ⟨n, e⟩ := asc_isSome hi
    rw [if_pos hi]
    simp [nAt, asc, e]
  · rw [if_neg hi, asc_none_iff.2 hi]
    rfl
theorem tabR_perm {L : List CT} (hn : (L.map (·.1)).Nodup) : (tabR L).Perm L := by
  have h := tabR_spec hn
  have hn1 := h.1.nodup
  have d1 : (tabR L).Nodup := List.Pairwise.of_map (fun c : CT => c.1) (fun a b (hne : a.1 ≠ b.1) e => hne (by rw [e])) hn1
  have d2 : L.Nodup := List.Pairwise.of_map (fun c : CT => c.1) (fun a b (hne : a.1 ≠ b.1) e => hne (by rw [e])) hn
  exact (List.perm_ext_iff_of_nodup d1 d2).2 (fun c => by rw [asc_some_iff hn1, asc_some_iff hn, h.2])
/-- Any ascending order of the pairs is this one. -/
theorem tabR_uniq {L T : List CT} (hn : (L.map (·.1)).Nodup) (hp : T.Perm L) (ha : Asc T) : T = tabR L :=
  asc_ext ha (tabR_spec hn).1 (fun i => by rw [(tabR_spec hn).2 i, asc_perm hp hn])
theorem tabR_eq {L T : List CT} (hn : (L.map (·.1)).Nodup) (ha : Asc T) (h : ∀ i, asc T i = asc L i) : T = tabR L :=
  asc_ext ha (tabR_spec hn).1 (fun i => by rw [(tabR_spec hn).2 i, h])

/-- What 'table' answers. -/
def limP (L : List CT) : List CT × Int := if limB L then (tabR L, 0) else ([], 281)

theorem putN_nodup {L : List CT} (h : (L.map (·.1)).Nodup) (i : ID) (n : Int) : ((putN L i n).map (·.1)).Nodup := setL_nodup h _ _
theorem asc_putN (L : List CT) (i j : ID) (n : Int) : asc (putN L i n) j = if i = j then some (nAt L i + n) else asc L j := by unfold putN; rw [asc_setL]
theorem nAt_none {L : List CT} {i : ID} (h : i ∉ L.map (·.1)) : nAt L i = 0 := by rw [nAt, asc_none_iff.2 h]; rfl
theorem asc_nAt {L : List CT} {i : ID} (h : i ∈ L.map (·.1)) : asc L i = some (nAt L i) := by
  obtain ⟨n, e⟩ := asc_isSome h
  rw [nAt, e]; rfl
theorem addIDs_spec (l : List ID) : ∀ {L : List CT}, (L.map (·.1)).Nodup → ((addIDs L l).map (·.1)).Nodup ∧ ∀ i, asc (addIDs L l) i = if i ∈ l then some (nAt L i + (l.count i : Nat)) else asc L i := by
  induction l with
  | nil => intro L h; exact ⟨h, fun i => by simp [addIDs]⟩
  | cons a l ih =>
    intro L h
    have h1 := ih (putN_nodup h a 1)
    refine ⟨h1.1, fun i => ?_⟩
    show asc (addIDs (putN L a 1) l) i = _
    rw [h1.2 i, nAt_putN, asc_putN]
    by_cases e : a = i
    · subst e
      simp only [if_true, List.mem_cons, true_or, List.count_cons_self]
      by_cases ha : a ∈ l
      · rw [if_pos ha]; congr 1; push_cast; omega
      · rw [if_neg ha, List.count_eq_zero_of_not_mem ha]; rfl
    · have e' : ¬ i = a := fun h => e h.symm
      have ec : (a :: l).count i = l.count i := by rw [List.count_cons]; simp [e]
      simp only [if_neg e, List.mem_cons, e', false_or, ec]
theorem allR_spec (l : List ID) : ∀ {t : List CT}, Asc t → Asc (allR t l) ∧ ∀ i, asc (allR t l) i = if i ∈ l then some (nAt t i + (l.count i : Nat)) else asc t i := by
  induction l with
  | nil => intro t h; exact ⟨h, fun i => by simp [allR]⟩
  | cons a l ih =>
    intro t h
    have h1 := ih (putR_asc h a 1)
    refine ⟨h1.1, fun i => ?_⟩
    show asc (allR (putR t a 1) l) i = _
    have hk : nAt (putR t a 1) i = if a = i then nAt t i + 1 else nAt t i := by
      conv => lhs; unfold nAt
      rw [asc_putR h]
      split
      · rename_i e; rw [← e]; rfl
      · rfl
    rw [h1.2 i, hk, asc_putR h]
    by_cases e : a = i
    · subst e
      simp only [if_true, List.mem_cons, true_or, List.count_cons_self]
      by_cases ha : a ∈ l
      · rw [if_pos ha]; congr 1; push_cast; omega
      · rw [if_neg ha, List.count_eq_zero_of_not_mem ha]; rfl
    · have e' : ¬ i = a := fun h => e h.symm
      have ec : (a :: l).count i = l.count i := by rw [List.count_cons]; simp [e]
      simp only [if_neg e, List.mem_cons, e', false_or, ec]

/-- The chunks of manifests. -/
def idsOf (ms : List Man) : List ID := ms.flatMap (·.ids)
theorem refsFrom_eq (ms : List Man) : ∀ L, refsFrom L ms = addIDs L (idsOf ms) := by
  induction ms with
  | nil => intro L; rfl
  | cons m ms ih =>
    intro L
    show refsFrom (addIDs L m.ids) ms = _
    rw [ih]
    simp [addIDs, idsOf]
theorem refs_eq (ms : List Man) : refs ms = addIDs [] (idsOf ms) := refsFrom_eq ms []
theorem refs_spec (ms : List Man) : ((refs ms).map (·.1)).Nodup ∧ ∀ i, asc (refs ms) i = if i ∈ idsOf ms then some (((idsOf ms).count i : Nat) : Int) else none := by
  have h := addIDs_spec (idsOf ms) (L := []) (by simp)
  rw [refs_eq]
  refine ⟨h.1, fun i => ?_⟩
  rw [h.2 i]
  simp [nAt, asc]
theorem nAt_refs (ms : List Man) (i : ID) : nAt (refs ms) i = ((idsOf ms).count i : Nat) := by
  rw [nAt, (refs_spec ms).2 i]
  split
  · rfl
  · rename_i h; rw [List.count_eq_zero_of_not_mem h]; rfl
theorem refs_keys (ms : List Man) (i : ID) : i ∈ (refs ms).map (·.1) ↔ i ∈ idsOf ms := by
  have h := (refs_spec ms).2 i
  constructor
  · intro hm
    obtain ⟨n, e⟩ := asc_isSome hm
    rw [e] at h
    by_cases hi : i ∈ idsOf ms
    · exact hi
    · rw [if_neg hi] at h; cases h
  · intro hm
    rw [if_pos hm] at h
    exact key_of_asc h
theorem chunk_of_err {ms : List Man} (h : errM ms = 0) : ∀ i ∈ idsOf ms, chunkB i = true := by
  induction ms with
  | nil => simp [idsOf]
  | cons m ms ih =>
    simp only [errM] at h
    split at h
    · rename_i e
      intro i hi
      rw [idsOf, List.flatMap_cons, List.mem_append] at hi
      rcases hi with hi | hi
      · exact List.all_eq_true.1 (manE_all e) i hi
      · exact ih h i hi
    · rename_i e; exact absurd h e

/-- A valid table: its rows ascend and are good. -/
theorem tblE_iff (t : List CT) : tblE t = 0 ↔ t.length ≤ 4096 ∧ Asc t ∧ ∀ c ∈ t, rowB c = true := by
  have e0 : tblE t = 0 ↔ tblB t = true := by unfold tblE; split <;> simp_all
  rw [e0]
  unfold tblB
  simp only [Bool.and_eq_true, decide_eq_true_eq, List.all_eq_true, List.mem_range]
  constructor
  · rintro ⟨h1, h2⟩
    refine ⟨h1, ?_, ?_⟩
    · have step : ∀ k, k + 1 < t.length → ltID (t.getD k ct0).1 (t.getD (k + 1) ct0).1 = true := by
        intro k hk
        have := h2 (k + 1) hk
        simp [okC] at this
        simpa using this.2
      have far : ∀ d k, k + d + 1 < t.length → ltID (t.getD k ct0).1 (t.getD (k + d + 1) ct0).1 = true := by
        intro d
        induction d with
        | zero => intro k hk; exact step k hk
        | succ d ih => intro k hk; exact ltID_trans (ih k (by omega)) (step (k + d + 1) hk)
      refine List.pairwise_iff_getElem.2 (fun i j hi hj hij => ?_)
      have := far (j - i - 1) i (by omega)
      rw [show i + (j - i - 1) + 1 = j by omega] at this
      simpa [List.getD_eq_getElem?_getD, hi, hj] using this
    · intro c hc
      obtain ⟨k, hk, rfl⟩ := List.mem_iff_getElem.1 hc
      have := h2 k hk
      simp [okC] at this
      simpa [hk] using this.1
  · rintro ⟨h1, h2, h3⟩
    refine ⟨h1, fun k hk => ?_⟩
    unfold okC
    rw [Bool.and_eq_true]
    refine ⟨h3 _ (getD_mem t ct0 k hk), ?_⟩
    rw [Bool.or_eq_true]
    by_cases h0 : k = 0
    · exact .inl (by simp [h0])
    · right
      have := List.pairwise_iff_getElem.1 h2 (k - 1) k (by omega) hk (by omega)
      simpa [List.getD_eq_getElem?_getD, hk, show k - 1 < t.length by omega] using this
theorem tblE_cases (t : List CT) : tblE t = 0 ∨ tblE t = 280 := by unfold tblE; split <;> simp
theorem rowB_iff (c : CT) : rowB c = true ↔ chunkB c.1 = true ∧ 0 ≤ c.2 ∧ c.2 ≤ 1073741824 := by simp [rowB, and_assoc]
theorem limB_iff (L : List CT) : limB L = true ↔ L.length ≤ 4096 ∧ ∀ c ∈ L, c.2 ≤ 1073741824 := by simp [limB]
/-- 'limited' of an ascending table and 'table' of the pairs. -/
theorem lim_eq {L T : List CT} (hn : (L.map (·.1)).Nodup) (ha : Asc T) (h : ∀ i, asc T i = asc L i) (hc : ∀ c ∈ L, chunkB c.1 = true ∧ 0 ≤ c.2) : (if tblE T = 0 then (T, 0) else ([], 281)) = limP L := by
  have e := tabR_eq hn ha h
  have hp := tabR_perm hn
  rw [← e] at hp
  unfold limP
  rw [← e]
  by_cases hl : limB L = true
  · rw [if_pos hl, if_pos]
    rw [tblE_iff]
    rw [limB_iff] at hl
    exact ⟨by rw [hp.length_eq]; exact hl.1, ha, fun c hcT => (rowB_iff c).2 ⟨(hc c (hp.mem_iff.1 hcT)).1, (hc c (hp.mem_iff.1 hcT)).2, hl.2 c (hp.mem_iff.1 hcT)⟩⟩
  · rw [if_neg hl, if_neg]
    rw [tblE_iff]
    rintro ⟨h1, _, h3⟩
    refine hl ((limB_iff L).2 ⟨by rw [← hp.length_eq]; exact h1, fun c hcL => ((rowB_iff c).1 (h3 c (hp.mem_iff.2 hcL))).2.2⟩)

/-- Of. -/
def ofP (ms : List Man) : List CT × Int := if errM ms = 0 then limP (refs ms) else ([], errM ms)
def ofT (ms : List Man) : List CT := ms.foldl (fun t m => allR t m.ids) []
theorem ofT_eq (ms : List Man) : ofT ms = allR [] (idsOf ms) := by
  have : ∀ t, ms.foldl (fun t m => allR t m.ids) t = allR t (idsOf ms) := by
    induction ms with
    | nil => intro t; rfl
    | cons m ms ih => intro t; rw [List.foldl_cons, ih]; simp [allR, idsOf]
  exact this []
theorem refs_pos {ms : List Man} (h : errM ms = 0) : ∀ c ∈ refs ms, chunkB c.1 = true ∧ 0 ≤ c.2 := by
  intro c hc
  have h1 := (asc_some_iff (refs_spec ms).1 c).1 hc
  refine ⟨chunk_of_err h _ ((refs_keys ms _).1 (List.mem_map.2 ⟨c, hc, rfl⟩)), ?_⟩
  rw [(refs_spec ms).2] at h1
  split at h1
  · injection h1 with h1; omega
  · cases h1
theorem of_eq (ms : List Man) : (if errM ms = 0 then (if tblE (ofT ms) = 0 then (ofT ms, 0) else ([], 281)) else ([], errM ms)) = ofP ms := by
  unfold ofP
  split
  · rename_i h
    have hs := allR_spec (idsOf ms) (t := []) List.Pairwise.nil
    refine lim_eq (refs_spec ms).1 (by rw [ofT_eq]; exact hs.1) (fun i => ?_) (refs_pos h)
    rw [ofT_eq, hs.2, (refs_spec ms).2]
    simp [nAt, asc]
  · rfl

theorem incl_spec (u : List CT) : ∀ {L : List CT}, (L.map (·.1)).Nodup → (u.map (·.1)).Nodup → ((incl L u).map (·.1)).Nodup ∧ ∀ i, asc (incl L u) i = if i ∈ u.map (·.1) then some (nAt L i + nAt u i) else asc L i := by
  induction u with
  | nil => intro L h _; exact ⟨h, fun i => by simp [incl]⟩
  | cons c u ih =>
    intro L h hn
    simp only [List.map_cons, List.nodup_cons] at hn
    have h1 := ih (putN_nodup h c.1 c.2) hn.2
    refine ⟨h1.1, fun i => ?_⟩
    show asc (incl (putN L c.1 c.2) u) i = _
    rw [h1.2 i, nAt_putN, asc_putN]
    by_cases hi : i ∈ u.map (·.1)
    · have hne : c.1 ≠ i := fun e => hn.1 (e ▸ hi)
      rw [if_neg hne, if_pos hi, if_pos (show i ∈ List.map (fun x => x.fst) (c :: u) from List.mem_cons_of_mem _ hi)]
      simp only [nAt, asc, if_neg hne]
    · rw [if_neg hi]
      by_cases e : c.1 = i
      · subst e
        rw [if_pos rfl, if_pos (by simp)]
        simp [nAt, asc]
      · rw [if_neg e, if_neg]
        simp only [List.map_cons, List.mem_cons]
        rintro (h | h)
        · exact e h.symm
        · exact hi h

/-- Add. -/
def addP (t : List CT) (m : Man) : List CT × Int := if tblE t = 0 then (if manE m = 0 then limP (incl (refs [m]) t) else ([], manE m)) else ([], tblE t)
theorem errM_one (m : Man) : errM [m] = manE m := by simp only [errM]; split <;> simp_all
theorem ids_one (m : Man) : idsOf [m] = m.ids := by simp [idsOf]
theorem incl_pos {L u : List CT} (hL : (L.map (·.1)).Nodup) (hu : (u.map (·.1)).Nodup) (h1 : ∀ c ∈ L, chunkB c.1 = true ∧ 0 ≤ c.2) (h2 : ∀ c ∈ u, chunkB c.1 = true ∧ 0 ≤ c.2) : ∀ c ∈ incl L u, chunkB c.1 = true ∧ 0 ≤ c.2 := by
  have hs := incl_spec u hL hu
  have p : ∀ {K : List CT}, (K.map (·.1)).Nodup → (∀ c ∈ K, chunkB c.1 = true ∧ 0 ≤ c.2) → ∀ i, 0 ≤ nAt K i := by
    intro K hK h i
    by_cases hi : i ∈ K.map (·.1)
    · exact (h (i, nAt K i) ((asc_some_iff hK _).2 (asc_nAt hi))).2
    · rw [nAt_none hi]; omega
  intro c hc
  have h3 := (asc_some_iff hs.1 c).1 hc
  rw [hs.2] at h3
  split at h3
  · rename_i hi
    injection h3 with h3
    obtain ⟨d, hd, e⟩ := List.mem_map.1 hi
    refine ⟨by have := (h2 d hd).1; rwa [e] at this, ?_⟩
    have := p hL h1 c.1
    have := p hu h2 c.1
    omega
  · exact h1 c ((asc_some_iff hL c).2 h3)
theorem tbl_pos {t : List CT} (h : tblE t = 0) : ∀ c ∈ t, chunkB c.1 = true ∧ 0 ≤ c.2 := fun c hc =>
  let ⟨a, b, _⟩ := (rowB_iff c).1 (((tblE_iff t).1 h).2.2 c hc)
  ⟨a, b⟩
theorem tbl_nodup {t : List CT} (h : tblE t = 0) : (t.map (·.1)).Nodup := ((tblE_iff t).1 h).2.1.nodup
theorem tbl_asc {t : List CT} (h : tblE t = 0) : Asc t := ((tblE_iff t).1 h).2.1
theorem asc_incl_refs (t : List CT) (m : Man) (h : (t.map (·.1)).Nodup) (i : ID) : asc (incl (refs [m]) t) i = if i ∈ m.ids then some (nAt t i + (m.ids.count i : Nat)) else asc t i := by
  rw [(incl_spec t (refs_spec [m]).1 h).2, nAt_refs, (refs_spec [m]).2, ids_one]
  by_cases hi : i ∈ t.map (·.1)
  · rw [if_pos hi]
    by_cases hm : i ∈ m.ids
    · rw [if_pos hm]; congr 1; omega
    · rw [if_neg hm, List.count_eq_zero_of_not_mem hm, asc_nAt hi]; congr 1; simp
  · rw [if_neg hi]
    by_cases hm : i ∈ m.ids
    · rw [if_pos hm, if_pos hm, nAt_none hi]; congr 1; omega
    · rw [if_neg hm, if_neg hm, asc_none_iff.2 hi]
theorem add_eq (t : List CT) (m : Man) : (if tblE t = 0 then (if manE m = 0 then (if tblE (allR t m.ids) = 0 then (allR t m.ids, 0) else ([], 281)) else ([], manE m)) else ([], tblE t)) = addP t m := by
  unfold addP
  split
  · rename_i h
    split
    · rename_i h2
      have hs := allR_spec m.ids (tbl_asc h)
      refine lim_eq (incl_spec t (refs_spec [m]).1 (tbl_nodup h)).1 hs.1 (fun i => ?_) (incl_pos (refs_spec [m]).1 (tbl_nodup h) (refs_pos (by rw [errM_one]; exact h2)) (tbl_pos h))
      rw [hs.2, asc_incl_refs t m (tbl_nodup h)]
    · rfl
  · rfl

/-- Merge. -/
def mergeP (t u : List CT) : List CT × Int := if tblE t = 0 then (if tblE u = 0 then limP (incl (incl [] t) u) else ([], tblE u)) else ([], tblE t)
def mergeT (t u : List CT) : List CT := u.foldl (fun t c => putR t c.1 c.2) t
theorem asc_incl_nil (t : List CT) (h : (t.map (·.1)).Nodup) (i : ID) : asc (incl [] t) i = asc t i := by
  rw [(incl_spec t (L := []) (by simp) h).2]
  by_cases hi : i ∈ t.map (·.1)
  · rw [if_pos hi, asc_nAt hi]; congr 1; simp [nAt, asc]
  · rw [if_neg hi, asc_none_iff.2 hi]; rfl
theorem merge_eq (t u : List CT) : (if tblE t = 0 then (if tblE u = 0 then (if tblE (mergeT t u) = 0 then (mergeT t u, 0) else ([], 281)) else ([], tblE u)) else ([], tblE t)) = mergeP t u := by
  unfold mergeP
  split
  · rename_i h
    split
    · rename_i h2
      have hs := putsR_spec u (tbl_asc h) (tbl_nodup h2)
      have h0 := incl_spec t (L := []) (by simp) (tbl_nodup h)
      have h1 := incl_spec u h0.1 (tbl_nodup h2)
      refine lim_eq h1.1 hs.1 (fun i => ?_) (incl_pos h0.1 (tbl_nodup h2) (incl_pos (by simp) (tbl_nodup h) (by simp) (tbl_pos h)) (tbl_pos h2))
      rw [mergeT, hs.2, h1.2, asc_incl_nil t (tbl_nodup h)]
      simp only [nAt, asc_incl_nil t (tbl_nodup h)]
    · rfl
  · rfl
/-- Release: the rest, if all is there. -/
def enoughB (t : List CT) (l : List ID) : Bool := l.all (fun i => decide (((l.count i : Nat) : Int) ≤ nAt t i))
def restR (t : List CT) (l : List ID) : List CT := t.map (fun c => (c.1, c.2 - (l.count c.1 : Nat)))
def relP (t : List CT) (m : Man) : List CT × Int := if tblE t = 0 then (if manE m = 0 then (if enoughB t m.ids then (restR t m.ids, 0) else ([], 282)) else ([], manE m)) else ([], tblE t)
theorem asc_restR (t : List CT) (l : List ID) (i : ID) : asc (restR t l) i = (asc t i).map (fun n : Int => n - ((l.count i : Nat) : Int)) := by
  induction t with
  | nil => rfl
  | cons c t ih =>
    show asc ((c.1, c.2 - (l.count c.1 : Nat)) :: restR t l) i = _
    rw [asc, asc]
    split
    · rename_i e; rw [← e]; rfl
    · exact ih
theorem restR_asc {t : List CT} (h : Asc t) (l : List ID) : Asc (restR t l) := by
  unfold Asc restR
  rw [List.pairwise_map]
  exact h
/-- The reference's Release. -/
def relT : List CT → List ID → Option (List CT)
  | t, [] => some t
  | t, i :: l => if nAt t i = 0 then none else relT (putR t i (-1)) l
theorem relT_snoc (t : List CT) (l : List ID) (i : ID) : relT t (l ++ [i]) = (relT t l).bind (fun u => if nAt u i = 0 then none else some (putR u i (-1))) := by
  induction l generalizing t with
  | nil => simp [relT]
  | cons a l ih =>
    simp only [List.cons_append, relT]
    split
    · rfl
    · exact ih _
theorem nAt_putR {t : List CT} (h : Asc t) (a j : ID) (n : Int) : nAt (putR t a n) j = if a = j then nAt t j + n else nAt t j := by
  conv => lhs; unfold nAt
  rw [asc_putR h]
  split
  · rename_i e; rw [← e]; rfl
  · rfl
theorem relT_spec (l : List ID) : ∀ {t : List CT}, Asc t → (∀ i, 0 ≤ nAt t i) → relT t l = if enoughB t l then some (restR t l) else none := by
  induction l with
  | nil =>
    intro t h _
    have : restR t [] = t := by simp [restR]
    simp [relT, enoughB, this]
  | cons a l ih =>
    intro t h h0
    rw [relT]
    by_cases hz : nAt t a = 0
    · rw [if_pos hz, if_neg]
      simp only [enoughB, List.all_eq_true, decide_eq_true_eq]
      intro hh
      have := hh a (by simp)
      rw [List.count_cons_self] at this
      omega
    · rw [if_neg hz]
      have hp : ∀ i, nAt (putR t a (-1)) i = if a = i then nAt t i + (-1) else nAt t i := fun i => nAt_putR h a i (-1)
      rw [ih (putR_asc h a (-1)) (fun i => by rw [hp]; have := h0 i; split <;> (try subst a) <;> omega)]
      have e1 : enoughB (putR t a (-1)) l = enoughB t (a :: l) := by
        rw [Bool.eq_iff_iff]
        simp only [enoughB, List.all_eq_true, decide_eq_true_eq]
        have ha := h0 a
        constructor
        · intro hh i hi
          by_cases e : a = i
          · subst e
            rw [List.count_cons_self]
            by_cases hm : a ∈ l
            · have := hh a hm
              rw [hp, if_pos rfl] at this
              push_cast
              omega
            · rw [List.count_eq_zero_of_not_mem hm]
              simp only [Nat.zero_add]
              push_cast
              omega
          · have hm : i ∈ l := by
              rcases List.mem_cons.1 hi with h | h
              · exact absurd h.symm e
              · exact h
            have := hh i hm
            rw [hp, if_neg e] at this
            rw [List.count_cons]
            simpa [e] using this
        · intro hh i hi
          have := hh i (by simp [hi])
          rw [hp]
          by_cases e : a = i
          · subst e
            rw [List.count_cons_self] at this
            rw [if_pos rfl]
            push_cast at this
            omega
          · rw [List.count_cons] at this
            rw [if_neg e]
            simpa [e] using this
      have e2 : restR (putR t a (-1)) l = restR t (a :: l) := by
        refine asc_ext (restR_asc (putR_asc h a (-1)) l) (restR_asc h _) (fun i => ?_)
        rw [asc_restR, asc_restR, asc_putR h]
        by_cases e : a = i
        · subst e
          rw [if_pos rfl, List.count_cons_self]
          have hm : a ∈ t.map (·.1) := Classical.byContradiction (fun hh => hz (nAt_none hh))
          rw [asc_nAt hm]
          simp only [Option.map_some]
          congr 1
          push_cast
          omega
        · rw [if_neg e, List.count_cons]
          simp [e]
      rw [e1, e2]
theorem tbl_nAt {t : List CT} (h : tblE t = 0) (i : ID) : 0 ≤ nAt t i ∧ nAt t i ≤ 1073741824 := by
  by_cases hi : i ∈ t.map (·.1)
  · have := (rowB_iff _).1 (((tblE_iff t).1 h).2.2 (i, nAt t i) ((asc_some_iff (tbl_nodup h) _).2 (asc_nAt hi)))
    exact this.2
  · rw [nAt_none hi]; omega
theorem rel_eq (t : List CT) (m : Man) : (if tblE t = 0 then (if manE m = 0 then (match relT t m.ids with | some u => (u, 0) | none => ([], 282)) else ([], manE m)) else ([], tblE t)) = relP t m := by
  unfold relP
  split
  · rename_i h
    split
    · rw [relT_spec m.ids (tbl_asc h) (fun i => (tbl_nAt h i).1)]
      split <;> split <;> simp_all
    · rfl
  · rfl

/-- Dead, Sweep, N. -/
def deadP (t : List CT) : List ID := if tblE t = 0 then (t.filter (fun c => c.2 == 0)).map (·.1) else []
def sweepP (t : List CT) : List CT := if tblE t = 0 then t.filter (fun c => !(c.2 == 0)) else []
def nP (t : List CT) (i : ID) : Int × Bool := if tblE t = 0 then (match asc t i with | some n => (n, true) | none => (0, false)) else (0, false)
theorem sweep_eq (t : List CT) : (if tblE t = 0 then t.filter (fun c => decide (0 < c.2)) else []) = sweepP t := by
  unfold sweepP
  split
  · rename_i h
    refine List.filter_congr (fun c hc => ?_)
    have := (tbl_pos h c hc).2
    rw [Bool.eq_iff_iff]
    simp
    omega
  · rfl

/-- Verify. -/
def AscI (l : List ID) : Prop := l.Pairwise (fun a b => ltID a b = true)
theorem ascI_ext : ∀ {l k : List ID}, AscI l → AscI k → (∀ i, i ∈ l ↔ i ∈ k) → l = k
  | [], [], _, _, _ => rfl
  | [], d :: u, _, _, h => by have := (h d).2 (by simp); cases this
  | c :: t, [], _, _, h => by have := (h c).1 (by simp); cases this
  | c :: t, d :: u, h1, h2, h => by
    obtain ⟨a1, a2⟩ := List.pairwise_cons.1 h1
    obtain ⟨b1, b2⟩ := List.pairwise_cons.1 h2
    have hcd : c = d := by
      rcases List.mem_cons.1 ((h c).1 (by simp)) with e | e
      · exact e
      · rcases List.mem_cons.1 ((h d).2 (by simp)) with e2 | e2
        · exact e2.symm
        · have x1 := b1 c e
          have x2 := a1 d e2
          rw [ltID_asymm x1] at x2
          cases x2
    subst hcd
    rw [ascI_ext a2 b2 (fun i => by
      constructor
      · intro hi
        rcases List.mem_cons.1 ((h i).1 (List.mem_cons_of_mem _ hi)) with e | e
        · subst e; have := a1 i hi; rw [ltID_irrefl] at this; cases this
        · exact e
      · intro hi
        rcases List.mem_cons.1 ((h i).2 (List.mem_cons_of_mem _ hi)) with e | e
        · subst e; have := b1 i hi; rw [ltID_irrefl] at this; cases this
        · exact e)]
/-- The reference's Verify: real: the table of the manifests; both: the IDs of both tables. -/
def bothR (t real : List CT) : List CT := real.foldl (fun t c => putR t c.1 0) t
def wrongR (t real : List CT) : List ID := ((bothR t real).filter (fun c => !(nAt real c.1 == c.2))).map (·.1)
def verP (t : List CT) (ms : List Man) : List ID × Int := if tblE t = 0 then (if errM ms = 0 then (wrongR t (ofT ms), 0) else ([], errM ms)) else ([], tblE t)
theorem bothR_spec (u : List CT) : ∀ {t : List CT}, Asc t → Asc (bothR t u) ∧ ∀ i, asc (bothR t u) i = if i ∈ u.map (·.1) then some (nAt t i) else asc t i := by
  induction u with
  | nil => intro t h; exact ⟨h, fun i => by simp [bothR]⟩
  | cons c u ih =>
    intro t h
    have h1 := ih (putR_asc h c.1 0)
    refine ⟨h1.1, fun i => ?_⟩
    show asc (bothR (putR t c.1 0) u) i = _
    rw [h1.2 i, nAt_putR h, asc_putR h]
    simp only [List.map_cons, List.mem_cons]
    by_cases e : c.1 = i
    · subst e
      simp
    · have e' : ¬ i = c.1 := fun h => e h.symm
      simp only [if_neg e, e', false_or]
theorem wrongR_asc {t : List CT} (h : Asc t) (u : List CT) : AscI (wrongR t u) := by
  unfold AscI wrongR
  rw [List.pairwise_map]
  exact ((bothR_spec u h).1).filter _
theorem ofT_spec (ms : List Man) : Asc (ofT ms) ∧ ∀ i, asc (ofT ms) i = if i ∈ idsOf ms then some (((idsOf ms).count i : Nat) : Int) else none := by
  rw [ofT_eq]
  have hs := allR_spec (idsOf ms) (t := []) List.Pairwise.nil
  refine ⟨hs.1, fun i => ?_⟩
  rw [hs.2]
  simp [nAt, asc]
theorem nAt_ofT (ms : List Man) (i : ID) : nAt (ofT ms) i = ((idsOf ms).count i : Nat) := by
  rw [nAt, (ofT_spec ms).2 i]
  split
  · rfl
  · rename_i h; rw [List.count_eq_zero_of_not_mem h]; rfl
theorem mem_wrongR {t : List CT} (h : Asc t) (ms : List Man) (i : ID) : i ∈ wrongR t (ofT ms) ↔ (((idsOf ms).count i : Nat) : Int) ≠ nAt t i := by
  have hs := bothR_spec (ofT ms) h
  have key : i ∈ (ofT ms).map (·.1) ↔ i ∈ idsOf ms := by
    have h := (ofT_spec ms).2 i
    constructor
    · intro hm
      obtain ⟨n, e⟩ := asc_isSome hm
      rw [e] at h
      by_cases hi : i ∈ idsOf ms
      · exact hi
      · rw [if_neg hi] at h; cases h
    · intro hm
      rw [if_pos hm] at h
      exact key_of_asc h
  have hb : nAt (bothR t (ofT ms)) i = nAt t i := by
    conv => lhs; unfold nAt
    rw [hs.2]
    split
    · rfl
    · rfl
  unfold wrongR
  rw [List.mem_map]
  constructor
  · rintro ⟨c, hc, rfl⟩
    rw [List.mem_filter] at hc
    obtain ⟨hc, hne⟩ := hc
    have e := (asc_some_iff hs.1.nodup c).1 hc
    have e2 : nAt t c.1 = c.2 := by rw [← hb, nAt, e]; rfl
    rw [nAt_ofT] at hne
    rw [e2]
    simpa using hne
  · intro hne
    have hk : i ∈ (bothR t (ofT ms)).map (·.1) := by
      by_cases h1 : i ∈ idsOf ms
      · exact key_of_asc (by rw [hs.2, if_pos (key.2 h1)])
      · rw [List.count_eq_zero_of_not_mem h1] at hne
        have : i ∈ t.map (·.1) := Classical.byContradiction (fun hh => hne (by rw [nAt_none hh]; rfl))
        refine key_of_asc (n := nAt t i) ?_
        rw [hs.2, if_neg (fun hh => h1 (key.1 hh)), asc_nAt this]
    refine ⟨(i, nAt t i), ?_, rfl⟩
    rw [List.mem_filter]
    refine ⟨(asc_some_iff hs.1.nodup _).2 (by rw [asc_nAt hk, hb]), ?_⟩
    rw [nAt_ofT]
    simpa using hne
/-- The program's Verify: the counts less the table's; what is not 0, in any order, sorted. -/
def subN (L : List CT) (t : List CT) : List CT := t.foldl (fun L c => putN L c.1 (-c.2)) L
theorem subN_snoc (L t : List CT) (c : CT) : subN L (t ++ [c]) = putN (subN L t) c.1 (-c.2) := by simp [subN]
theorem subN_eq (L t : List CT) : subN L t = incl L (t.map (fun c => (c.1, -c.2))) := by simp [subN, incl, List.foldl_map]
theorem asc_neg (t : List CT) (i : ID) : asc (t.map (fun c => (c.1, -c.2))) i = (asc t i).map (fun n => -n) := by
  induction t with
  | nil => rfl
  | cons c t ih =>
    rw [List.map_cons, asc, asc]
    split
    · rfl
    · exact ih
theorem ver_eq {t : List CT} (h : Asc t) (ms : List Man) {l : List ID} (hl : AscI l) (hm : ∀ i, i ∈ l ↔ ∃ n, (i, n) ∈ subN (refs ms) t ∧ n ≠ 0) : l = wrongR t (ofT ms) := by
  refine ascI_ext hl (wrongR_asc h _) (fun i => ?_)
  rw [hm, mem_wrongR h]
  have hk : ((t.map (fun c : CT => (c.1, -c.2))).map (·.1)) = t.map (·.1) := by simp [Function.comp_def]
  have hs := incl_spec (t.map (fun c => (c.1, -c.2))) (refs_spec ms).1 (by rw [hk]; exact h.nodup)
  rw [hk] at hs
  rw [subN_eq]
  have hn : ∀ j, nAt (t.map (fun c => (c.1, -c.2))) j = - nAt t j := by
    intro j
    unfold nAt
    rw [asc_neg]
    cases asc t j <;> simp
  have hv : ∀ n, (i, n) ∈ incl (refs ms) (t.map (fun c => (c.1, -c.2))) ↔ (if i ∈ t.map (·.1) then some (nAt (refs ms) i + nAt (t.map (fun c => (c.1, -c.2))) i) else asc (refs ms) i) = some n := by
    intro n
    rw [asc_some_iff hs.1, hs.2]
  constructor
  · rintro ⟨n, hn1, hn0⟩ e
    rw [hv, hn, nAt_refs] at hn1
    split at hn1
    · injection hn1 with hn1; omega
    · rename_i hi
      rw [(refs_spec ms).2] at hn1
      rw [nAt_none hi] at e
      split at hn1
      · injection hn1 with hn1; omega
      · cases hn1
  · intro hne
    refine ⟨((idsOf ms).count i : Nat) - nAt t i, ?_, by omega⟩
    rw [hv, hn, nAt_refs, (refs_spec ms).2]
    by_cases hi : i ∈ t.map (·.1)
    · rw [if_pos hi]; congr 1
    · rw [if_neg hi, nAt_none hi]
      rw [nAt_none hi] at hne
      rw [if_pos]
      · simp
      · exact Classical.byContradiction (fun hh => hne (by rw [List.count_eq_zero_of_not_mem hh]; rfl))
end Go.Proofs.Ytjglpmcekbjoaaa
