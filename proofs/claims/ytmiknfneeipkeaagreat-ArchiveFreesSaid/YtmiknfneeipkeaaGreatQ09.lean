/- Contracts of the walk, part 9. -/
import Derived.Test.YtmiknfneeipkeaaGreatQ08
import Derived.Test.YtmiknfneeipkeaaGreatQ04
import Derived.Test.YtmiknfneeipkeaaGreatQ01
namespace Go.Proofs.YtmiknfneeipkeaaGreat
open Go.RowKit Go.MapKept Go.ChangeMaps
attribute [local go_sem] wext_cell
theorem putsR_spec (u : List CT) : ∀ {t : List CT}, Asc t → (u.map (·.1)).Nodup → Asc (u.foldl (fun t c => putR t c.1 c.2) t) ∧ ∀ i, asc (u.foldl (fun t c => putR t c.1 c.2) t) i = if i ∈ u.map (·.1) then some (nAt t i + nAt u i) else asc t i := by
  induction u with
  | nil => intro t h _; exact ⟨h, fun i => by simp⟩
  | cons c u ih =>
    intro t h hn
    simp only [List.map_cons, List.nodup_cons] at hn
    have h1 := ih (putR_asc h c.1 c.2) hn.2
    refine ⟨h1.1, fun i => ?_⟩
    rw [List.foldl_cons, h1.2 i]
    have hk : ∀ j, nAt (putR t c.1 c.2) j = if c.1 = j then nAt t j + c.2 else nAt t j := by
      intro j
      conv => lhs; unfold nAt
      rw [asc_putR h]
      split
      · rename_i e; rw [← e]; rfl
      · rfl
    by_cases hi : i ∈ u.map (·.1)
    · rw [if_pos hi, if_pos (by simp only [List.map_cons, List.mem_cons]; exact .inr hi), hk]
      have hne : c.1 ≠ i := fun e => hn.1 (e ▸ hi)
      rw [if_neg hne]
      simp only [nAt, asc, if_neg hne]
    · rw [if_neg hi, asc_putR h]
      by_cases e : c.1 = i
      · subst e
        rw [if_pos rfl, if_pos (by simp)]
        simp [nAt, asc]
      · rw [if_neg e, if_neg]
        simp only [List.map_cons, List.mem_cons]
        rintro (h | h)
        · exact e h.symm
        · exact hi h
/-- A valid table: its rows ascend and are good. -/
def rowB (c : CT) : Bool := chunkB c.1 && decide (0 ≤ c.2) && decide (c.2 ≤ 1073741824)
def okC (t : List CT) (k : Nat) : Bool := rowB (t.getD k ct0) && (k == 0 || ltID (t.getD (k - 1) ct0).1 (t.getD k ct0).1)
def tblB (t : List CT) : Bool := decide (t.length ≤ 4096) && (List.range t.length).all (okC t)
def tblE (t : List CT) : Int := if tblB t then 0 else 280
theorem rowB_iff (c : CT) : rowB c = true ↔ chunkB c.1 = true ∧ 0 ≤ c.2 ∧ c.2 ≤ 1073741824 := by simp [rowB, and_assoc]
theorem tblE_iff (t : List CT) : tblE t = 0 ↔ t.length ≤ 4096 ∧ Asc t ∧ ∀ c ∈ t, rowB c = true := by
  have e0 : tblE t = 0 ↔ tblB t = true := by unfold tblE; split <;> simp_all
  rw [e0]
  unfold tblB
  simp only [Bool.and_eq_true, decide_eq_true_eq, List.all_eq_true, List.mem_range]
  constructor
  · rintro ⟨h1, h2⟩
    refine ⟨h1, ?_, ?_⟩
    · have step : ∀ k, k + 1 < t.length → ltID (t.getD k ct0).1 (t.getD (k + 1) ct0).1 = true := by
        intro k hk
        have := h2 (k + 1) hk
        simp [okC] at this
        simpa using this.2
      have far : ∀ d k, k + d + 1 < t.length → ltID (t.getD k ct0).1 (t.getD (k + d + 1) ct0).1 = true := by
        intro d
        induction d with
        | zero => intro k hk; exact step k hk
        | succ d ih => intro k hk; exact mltID_trans (ih k (by omega)) (step (k + d + 1) hk)
      refine List.pairwise_iff_getElem.2 (fun i j hi hj hij => ?_)
      have := far (j - i - 1) i (by omega)
      rw [show i + (j - i - 1) + 1 = j by omega] at this
      simpa [List.getD_eq_getElem?_getD, hi, hj] using this
    · intro c hc
      obtain ⟨k, hk, rfl⟩ := List.mem_iff_getElem.1 hc
      have := h2 k hk
      simp [okC] at this
      simpa [hk] using this.1
  · rintro ⟨h1, h2, h3⟩
    refine ⟨h1, fun k hk => ?_⟩
    unfold okC
    rw [Bool.and_eq_true]
    refine ⟨h3 _ (getD_mem t ct0 k hk), ?_⟩
    rw [Bool.or_eq_true]
    by_cases h0 : k = 0
    · exact .inl (by simp [h0])
    · right
      have := List.pairwise_iff_getElem.1 h2 (k - 1) k (by omega) hk (by omega)
      simpa [List.getD_eq_getElem?_getD, hk, show k - 1 < t.length by omega] using this
theorem asc_some_iff {L : List CT} (hn : (L.map (·.1)).Nodup) (c : CT) : c ∈ L ↔ asc L c.1 = some c.2 := ⟨fun h => asc_mem hn h, fun h => mem_of_asc h⟩
theorem asc_isSome {L : List CT} {i : ID} (h : i ∈ L.map (·.1)) : ∃ n, asc L i = some n := by
  induction L with
  | nil => cases h
  | cons c L ih =>
    rw [asc]
    split
    · exact ⟨_, rfl⟩
    · rename_i e
      rw [List.map_cons, List.mem_cons] at h
      rcases h with h | h
      · exact absurd h.symm e
      · exact ih h
theorem key_of_asc {L : List CT} {i : ID} {n : Int} (h : asc L i = some n) : i ∈ L.map (·.1) := List.mem_map.2 ⟨_, mem_of_asc h, rfl⟩
theorem asc_none_iff {L : List CT} {i : ID} : asc L i = none ↔ i ∉ L.map (·.1) := by
  constructor
  · intro h hm
    obtain ⟨n, e⟩ := asc_isSome hm
    rw [h] at e; cases e
  · intro h
    exact asc_none (fun c hc e => h (e ▸ List.mem_map.2 ⟨c, hc, rfl⟩))
/-- The ascending table of a list of pairs. -/
def tabR (L : List CT) : List CT := L.foldl (fun t c => putR t c.1 c.2) []
theorem tabR_spec {L : List CT} (hn : (L.map (·.1)).Nodup) : Asc (tabR L) ∧ ∀ i, asc (tabR L) i = asc L i := by
  have h := putsR_spec L (t := []) List.Pairwise.nil hn
  refine ⟨h.1, fun i => ?_⟩
  rw [tabR, h.2 i]
  by_cases hi : i ∈ L.map (·.1)
  · obtain ⟨n, e⟩ := asc_isSome hi
    rw [if_pos hi]
    simp [nAt, asc, e]
  · rw [if_neg hi, asc_none_iff.2 hi]
    rfl
theorem tabR_perm {L : List CT} (hn : (L.map (·.1)).Nodup) : (tabR L).Perm L := by
  have h := tabR_spec hn
  have hn1 := h.1.nodup
  have d1 : (tabR L).Nodup := List.Pairwise.of_map (fun c : CT => c.1) (fun a b (hne : a.1 ≠ b.1) e => hne (by rw [e])) hn1
  have d2 : L.Nodup := List.Pairwise.of_map (fun c : CT => c.1) (fun a b (hne : a.1 ≠ b.1) e => hne (by rw [e])) hn
  exact (List.perm_ext_iff_of_nodup d1 d2).2 (fun c => by rw [asc_some_iff hn1, asc_some_iff hn, h.2])
/-- Any ascending order of the pairs is this one. -/
theorem tabR_uniq {L T : List CT} (hn : (L.map (·.1)).Nodup) (hp : T.Perm L) (ha : Asc T) : T = tabR L :=
  asc_ext ha (tabR_spec hn).1 (fun i => by rw [(tabR_spec hn).2 i, asc_permM hp hn])
theorem tabR_eq {L T : List CT} (hn : (L.map (·.1)).Nodup) (ha : Asc T) (h : ∀ i, asc T i = asc L i) : T = tabR L :=
  asc_ext ha (tabR_spec hn).1 (fun i => by rw [(tabR_spec hn).2 i, h])
/-- What 'table' answers. -/
def limP (L : List CT) : List CT × Int := if limB L then (tabR L, 0) else ([], 281)
theorem putN_nodup {L : List CT} (h : (L.map (·.1)).Nodup) (i : ID) (n : Int) : ((putN L i n).map (·.1)).Nodup := setL_nodup h _ _
theorem asc_putN (L : List CT) (i j : ID) (n : Int) : asc (putN L i n) j = if i = j then some (nAt L i + n) else asc L j := by unfold putN; rw [asc_setL]
theorem nAt_none {L : List CT} {i : ID} (h : i ∉ L.map (·.1)) : nAt L i = 0 := by rw [nAt, asc_none_iff.2 h]; rfl
theorem asc_nAt {L : List CT} {i : ID} (h : i ∈ L.map (·.1)) : asc L i = some (nAt L i) := by
  obtain ⟨n, e⟩ := asc_isSome h
  rw [nAt, e]; rfl
theorem addIDs_spec (l : List ID) : ∀ {L : List CT}, (L.map (·.1)).Nodup → ((addIDs L l).map (·.1)).Nodup ∧ ∀ i, asc (addIDs L l) i = if i ∈ l then some (nAt L i + (l.count i : Nat)) else asc L i := by
  induction l with
  | nil => intro L h; exact ⟨h, fun i => by simp [addIDs]⟩
  | cons a l ih =>
    intro L h
    have h1 := ih (putN_nodup h a 1)
    refine ⟨h1.1, fun i => ?_⟩
    show asc (addIDs (putN L a 1) l) i = _
    rw [h1.2 i, nAt_putN, asc_putN]
    by_cases e : a = i
    · subst e
      simp only [if_true, List.mem_cons, true_or, List.count_cons_self]
      by_cases ha : a ∈ l
      · rw [if_pos ha]; congr 1; push_cast; omega
      · rw [if_neg ha, List.count_eq_zero_of_not_mem ha]; rfl
    · have e' : ¬ i = a := fun h => e h.symm
      have ec : (a :: l).count i = l.count i := by rw [List.count_cons]; simp [e]
      simp only [if_neg e, List.mem_cons, e', false_or, ec]
theorem allR_spec (l : List ID) : ∀ {t : List CT}, Asc t → Asc (allR t l) ∧ ∀ i, asc (allR t l) i = if i ∈ l then some (nAt t i + (l.count i : Nat)) else asc t i := by
  induction l with
  | nil => intro t h; exact ⟨h, fun i => by simp [allR]⟩
  | cons a l ih =>
    intro t h
    have h1 := ih (putR_asc h a 1)
    refine ⟨h1.1, fun i => ?_⟩
    show asc (allR (putR t a 1) l) i = _
    have hk : nAt (putR t a 1) i = if a = i then nAt t i + 1 else nAt t i := by
      conv => lhs; unfold nAt
      rw [asc_putR h]
      split
      · rename_i e; rw [← e]; rfl
      · rfl
    rw [h1.2 i, hk, asc_putR h]
    by_cases e : a = i
    · subst e
      simp only [if_true, List.mem_cons, true_or, List.count_cons_self]
      by_cases ha : a ∈ l
      · rw [if_pos ha]; congr 1; push_cast; omega
      · rw [if_neg ha, List.count_eq_zero_of_not_mem ha]; rfl
    · have e' : ¬ i = a := fun h => e h.symm
      have ec : (a :: l).count i = l.count i := by rw [List.count_cons]; simp [e]
      simp only [if_neg e, List.mem_cons, e', false_or, ec]
/-- The chunks of manifests. -/
def idsOf (ms : List Man) : List ID := ms.flatMap (·.ids)
theorem refsFrom_eq (ms : List Man) : ∀ L, refsFrom L ms = addIDs L (idsOf ms) := by
  induction ms with
  | nil => intro L; rfl
  | cons m ms ih =>
    intro L
    show refsFrom (addIDs L m.ids) ms = _
    rw [ih]
    simp [addIDs, idsOf]
theorem refs_eq (ms : List Man) : refs ms = addIDs [] (idsOf ms) := refsFrom_eq ms []
theorem refs_spec (ms : List Man) : ((refs ms).map (·.1)).Nodup ∧ ∀ i, asc (refs ms) i = if i ∈ idsOf ms then some (((idsOf ms).count i : Nat) : Int) else none := by
  have h := addIDs_spec (idsOf ms) (L := []) (by simp)
  rw [refs_eq]
  refine ⟨h.1, fun i => ?_⟩
  rw [h.2 i]
  simp [nAt, asc]
theorem nAt_refs (ms : List Man) (i : ID) : nAt (refs ms) i = ((idsOf ms).count i : Nat) := by
  rw [nAt, (refs_spec ms).2 i]
  split
  · rfl
  · rename_i h; rw [List.count_eq_zero_of_not_mem h]; rfl
theorem refs_keys (ms : List Man) (i : ID) : i ∈ (refs ms).map (·.1) ↔ i ∈ idsOf ms := by
  have h := (refs_spec ms).2 i
  constructor
  · intro hm
    obtain ⟨n, e⟩ := asc_isSome hm
    rw [e] at h
    by_cases hi : i ∈ idsOf ms
    · exact hi
    · rw [if_neg hi] at h; cases h
  · intro hm
    rw [if_pos hm] at h
    exact key_of_asc h
theorem chunk_of_err {ms : List Man} (h : errM ms = 0) : ∀ i ∈ idsOf ms, chunkB i = true := by
  induction ms with
  | nil => simp [idsOf]
  | cons m ms ih =>
    simp only [errM] at h
    split at h
    · rename_i e
      intro i hi
      rw [idsOf, List.flatMap_cons, List.mem_append] at hi
      rcases hi with hi | hi
      · exact List.all_eq_true.1 (manE_all e) i hi
      · exact ih h i hi
    · rename_i e; exact absurd h e
theorem limB_iff (L : List CT) : limB L = true ↔ L.length ≤ 4096 ∧ ∀ c ∈ L, c.2 ≤ 1073741824 := by simp [limB]
/-- 'limited' of an ascending table and 'table' of the pairs. -/
theorem lim_eq {L T : List CT} (hn : (L.map (·.1)).Nodup) (ha : Asc T) (h : ∀ i, asc T i = asc L i) (hc : ∀ c ∈ L, chunkB c.1 = true ∧ 0 ≤ c.2) : (if tblE T = 0 then (T, 0) else ([], 281)) = limP L := by
  have e := tabR_eq hn ha h
  have hp := tabR_perm hn
  rw [← e] at hp
  unfold limP
  rw [← e]
  by_cases hl : limB L = true
  · rw [if_pos hl, if_pos]
    rw [tblE_iff]
    rw [limB_iff] at hl
    exact ⟨by rw [hp.length_eq]; exact hl.1, ha, fun c hcT => (rowB_iff c).2 ⟨(hc c (hp.mem_iff.1 hcT)).1, (hc c (hp.mem_iff.1 hcT)).2, hl.2 c (hp.mem_iff.1 hcT)⟩⟩
  · rw [if_neg hl, if_neg]
    rw [tblE_iff]
    rintro ⟨h1, _, h3⟩
    refine hl ((limB_iff L).2 ⟨by rw [← hp.length_eq]; exact h1, fun c hcL => ((rowB_iff c).1 (h3 c (hp.mem_iff.2 hcL))).2.2⟩)
/-- Of. -/
def ofP (ms : List Man) : List CT × Int := if errM ms = 0 then limP (refs ms) else ([], errM ms)
def ofT (ms : List Man) : List CT := ms.foldl (fun t m => allR t m.ids) []
theorem ofT_eq (ms : List Man) : ofT ms = allR [] (idsOf ms) := by
  have : ∀ t, ms.foldl (fun t m => allR t m.ids) t = allR t (idsOf ms) := by
    induction ms with
    | nil => intro t; rfl
    | cons m ms ih => intro t; rw [List.foldl_cons, ih]; simp [allR, idsOf]
  exact this []
theorem refs_pos {ms : List Man} (h : errM ms = 0) : ∀ c ∈ refs ms, chunkB c.1 = true ∧ 0 ≤ c.2 := by
  intro c hc
  have h1 := (asc_some_iff (refs_spec ms).1 c).1 hc
  refine ⟨chunk_of_err h _ ((refs_keys ms _).1 (List.mem_map.2 ⟨c, hc, rfl⟩)), ?_⟩
  rw [(refs_spec ms).2] at h1
  split at h1
  · injection h1 with h1; omega
  · cases h1
theorem ofT_spec (ms : List Man) : Asc (ofT ms) ∧ ∀ i, asc (ofT ms) i = if i ∈ idsOf ms then some (((idsOf ms).count i : Nat) : Int) else none := by
  rw [ofT_eq]
  have hs := allR_spec (idsOf ms) (t := []) List.Pairwise.nil
  refine ⟨hs.1, fun i => ?_⟩
  rw [hs.2]
  simp [nAt, asc]
theorem nAt_ofT (ms : List Man) (i : ID) : nAt (ofT ms) i = ((idsOf ms).count i : Nat) := by
  rw [nAt, (ofT_spec ms).2 i]
  split
  · rfl
  · rename_i h; rw [List.count_eq_zero_of_not_mem h]; rfl
theorem table_two {x : Nat} {L : List CT} {w : World} {e : Ending} {w' : World} (hn : (L.map (·.1)).Nodup) (h : TablePost x L w e w') : TwoC x (limP L) w e w' := by
  obtain ⟨hb, h | h⟩ := h
  · obtain ⟨hl, T, A, c, hp, ha, rfl, hr, hc, _⟩ := h
    have := tabR_uniq hn hp ha
    subst this
    unfold limP
    rw [if_pos hl]
    exact ⟨A, c, rfl, hr, hc, hb⟩
  · obtain ⟨hl, rfl⟩ := h
    exact twoC_err (by unfold limP; rw [if_neg (by rw [hl]; simp)]) hb
theorem TwoC.from {x : Nat} {p : List CT × Int} {w0 w : World} {e : Ending} {w' : World} (hb : Below w0.heap.size w0 w) (h : TwoC x p w e w') : TwoC x p w0 e w' := by
  obtain ⟨A, c, h1, h2, h3, h4⟩ := h
  exact ⟨A, c, h1, h2, h3, hb.trans (h4.mono hb.size)⟩
theorem addIDs_len (l : List ID) : ∀ L : List CT, (addIDs L l).length ≤ L.length + l.length := by
  induction l with
  | nil => intro L; simp [addIDs]
  | cons a l ih =>
    intro L
    have h1 := ih (putN L a 1)
    have h2 : (putN L a 1).length ≤ L.length + 1 := setL_length _ _ _
    have e : addIDs L (a :: l) = addIDs (putN L a 1) l := rfl
    rw [e, List.length_cons]
    omega
theorem incl_len (u : List CT) : ∀ L : List CT, (incl L u).length ≤ L.length + u.length := by
  induction u with
  | nil => intro L; simp [incl]
  | cons a l ih =>
    intro L
    have h1 := ih (putN L a.1 a.2)
    have h2 : (putN L a.1 a.2).length ≤ L.length + 1 := setL_length _ _ _
    have e : incl L (a :: l) = incl (putN L a.1 a.2) l := rfl
    rw [e, List.length_cons]
    omega
theorem idsOf_len {ms : List Man} (h : errM ms = 0) : (idsOf ms).length ≤ 1024 * ms.length := by
  induction ms with
  | nil => simp [idsOf]
  | cons m ms ih =>
    simp only [errM] at h
    split at h
    · rename_i e
      have h1 := ih h
      have h2 := manE_len e
      have : idsOf (m :: ms) = m.ids ++ idsOf ms := by simp [idsOf]
      rw [this, List.length_append, List.length_cons]
      omega
    · rename_i e; exact absurd h e
theorem refs_len {ms : List Man} (h : errM ms = 0) : (refs ms).length ≤ 1024 * ms.length := by
  have h1 := addIDs_len (idsOf ms) []
  have h2 := idsOf_len h
  rw [refs_eq]
  simp only [List.length_nil] at h1
  omega
theorem MapIs.two {w : World} {b : Nat} {L L' : List CT} (h : Mp w b L) (e : L = L') : Mp w b L' := e ▸ h
set_option maxHeartbeats 2000000 in
theorem mOf_any (x : Nat) (ms : List Man) (A : Option Addr) (c : Nat) (w : World) (hr : RdM w x A ms) (hx : x < w.heap.size) (hn : ms.length ≤ 1000000) (hi : ∀ m ∈ ms, m.ids.length ≤ 9223372036854775807) (hok : ∀ m ∈ ms, ∀ i ∈ m.ids, okID i) :
    Calls Tryz.prog 16 #[.slice A ms.length c] w (TwoC x (ofP ms) w) := by
  have Hr := Lib.hid hr
  have Hi := Lib.hid hi
  have Hok := Lib.hid hok
  clear hr hi hok
  obtain ⟨p, Hp⟩ : ∃ p, Hid (ofP ms = p) := ⟨_, rfl⟩
  rw [Hp.out]
  go_enter Tryz.func16, Tryz.ntmps16
  go_wp2_with fail
  refine (references_any x ms A c _ Hr.out hn Hi.out Hok.out).mono ?_
  rintro e w1 ⟨hb1, ⟨hE, b, hb, rfl, hm⟩ | ⟨hE, rfl⟩⟩
  · have hp := Hp.out
    rw [ofP, if_pos hE] at hp
    subst hp
    have hlen := refs_len hE
    have Hb1 := Lib.hid hb1
    have Hm := Lib.hid hm
    have hs1 := hb1.size
    clear hE hb1 hm
    go_wp2_with fail
    refine (table_any x b (refs ms) _ Hm.out (by omega) (by omega)).mono ?_
    intro e w2 h2
    obtain ⟨A2, c2, rfl, hr2, hc2, hb2⟩ := TwoC.from Hb1.out (table_two (refs_spec ms).1 h2)
    have Hr2 := Lib.hid hr2
    have Hb2 := Lib.hid hb2
    clear h2 hr2 hb2
    go_wp2_with fail
    go_ret2
    exact ⟨A2, c2, rfl, Hr2.out, hc2, Hb2.out⟩
  · have hp := Hp.out
    rw [ofP, if_neg hE] at hp
    have Hq := Lib.hid hp.symm
    have hbe : (errM ms != 0) = true := by rw [bne_iff_ne]; exact hE
    have Hb1 := Lib.hid hb1
    clear hE hb1 hp
    go_wp2_with fail
    go_ret2
    exact twoC_err Hq.out Hb1.out
end Go.Proofs.YtmiknfneeipkeaaGreat
namespace Go.Proofs.YtmiknfneeipkeaaGreat
open Go.RowKit Go.MapKept Go.ChangeMaps Go.Shelf Go.Sort
section
variable {α : Type} [Inhabited α] {enc : α → List Value} {k : Nat} {d : α}
theorem own_of_holds (hk : ∀ y, (enc y).length = k) {w : World} {base g n cap : Nat} {e : TypeId} {ys : List α} {cur : Array Value} (hb : base ≤ g) (hi : IsB w g e cur) (hc : n ≤ cap) (hm : cap ≤ maxLen) (hs : cur.size = cap * k) (hn : ys.length = n) (hH : HoldsK enc k w g 0 ys.toArray) :
    w.ownsRow base e k (.slice (some ⟨g, 0, none⟩) n cap) n (ys.flatMap enc) := by
  refine ⟨by rw [flat_len hk, hn], .inr ⟨g, cap, cur, rfl, hb, hi, hc, hm, hs, ?_⟩⟩
  have hnk : n * k ≤ cap * k := Nat.mul_le_mul_right _ hc
  refine List.ext_getElem? (fun j => ?_)
  by_cases hj : j < n * k
  · have hk0 : 0 < k := by
      rcases Nat.eq_zero_or_pos k with h | h
      · subst h; simp at hj
      · exact h
    have hq : j / k < ys.length := by rw [Nat.div_lt_iff_lt_mul hk0, hn]; exact hj
    have hm : j % k < k := Nat.mod_lt _ hk0
    have hdm : j / k * k + j % k = j := by rw [Nat.mul_comm]; exact Nat.div_add_mod j k
    have h0 := (hH.cell (i := j / k) (c := j % k) (by simpa using hq) hm).1
    rw [Nat.zero_add, hdm, hi.cell, bang_getD (d := default) ys _ hq] at h0
    have h1 := flat_at hk default ys (j / k) (j % k) hq hm
    rw [hdm] at h1
    have hlt : j % k < (enc (ys.getD (j / k) default)).length := by rw [hk]; exact hm
    rw [List.getElem?_take_of_lt hj, Array.getElem?_toList, h0, h1, List.getElem?_eq_getElem hlt, getElem!_pos (enc (ys.getD (j / k) default)) (j % k) hlt]
  · rw [List.getElem?_eq_none (by simp; omega), List.getElem?_eq_none (by rw [flat_len hk, hn]; omega)]
abbrev SortOwn (enc : α → List Value) (k : Nat) (cf : α → α → Int) (base g n cap : Nat) (e : TypeId) (xs : List α) (w : World) (en : Ending) (w' : World) : Prop :=
  en = .returned (.tuple #[]) ∧ ∃ ys : List α, ys.Perm xs ∧ ys.Pairwise (fun a b => ltOf cf b a = false) ∧ w'.ownsRow base e k (.slice (some ⟨g, 0, none⟩) n cap) n (ys.flatMap enc) ∧ w.grownBy w' (some g)
theorem sort_own (hk : ∀ y, (enc y).length = k) {cf : α → α → Int} {f : FuncId} {base g n cap : Nat} {e : TypeId} {xs : List α} {w : World} {gv : Value} (h : w.ownsRow base e k (.slice (some ⟨g, 0, none⟩) n cap) n (xs.flatMap enc)) (hk0 : 0 < k)
    (hcon : Calls Tryz.prog f #[.slice (some ⟨g, 0, none⟩) xs.toArray.size cap, gv] w fun e w' => e = .returned (.tuple #[]) ∧ ∃ d' m os, PermIn 0 xs.toArray.size xs.toArray d' ∧ SortedIn (ltOf cf) 0 xs.toArray.size d' ∧ w' = sortWorldK enc k w g 0 m d' os) :
    Calls Tryz.prog f #[.slice (some ⟨g, 0, none⟩) n cap, gv] w (SortOwn enc k cf base g n cap e xs w) := by
  have hl := h.1
  rw [flat_len hk] at hl
  have hnx : n = xs.toArray.size := by
    have : xs.length = n := Nat.eq_of_mul_eq_mul_right hk0 hl
    simp [this]
  have hg := h.lt g rfl
  rw [← hnx] at hcon
  refine Calls.mono hcon ?_
  rintro en w' ⟨he, d', m, os, hp, hs, rfl⟩
  obtain ⟨hsz, _, hperm⟩ := hp
  have hsz0 := hsz
  rw [hnx, Array.extract_size, show xs.toArray.size = d'.size from hsz.symm, Array.extract_size] at hperm
  have hH := holdsK_putRowK (enc := enc) (k := k) (Sort.ahead w m) g 0 xs.toArray d' (holdsK_of_own hk hk0 h) hsz
  have hgrow : w.grownBy (sortWorldK enc k w g 0 m d' os) (some g) := by
    refine ⟨rfl, rfl, rfl, by simp [sortWorldK, putRowK], fun j hj hne => ?_⟩
    unfold sortWorldK
    rw [heap_grow_old _ _ (by simpa [putRowK] using hj)]
    have : g ≠ j := fun e => hne (by rw [e])
    simp [putRowK, putRow, mapBlock, Sort.ahead, Array.getElem?_modify, this]
  have hH2 := holdsK_grow (enc := enc) (k := k) _ os _ _ _ (by simpa [putRowK] using hg.2) hH
  have hpm : d'.toList.Perm xs := by simpa using hperm
  obtain ⟨_, hown⟩ := h
  rcases hown with ⟨hv, _⟩ | ⟨g', cap', cur, hv, h0, hh, hc1, hc2, hcs, _⟩
  · cases hv
  · injection hv with e1 e2 e3
    injection e1 with e1
    injection e1 with e1
    subst e1 e3
    have hI : IsB (sortWorldK enc k w g 0 m d' os) g e (putCells id (0) (flatK enc k d') cur) := by
      unfold IsB sortWorldK
      rw [heap_grow_old _ _ (by simpa [putRowK] using hg.2)]
      simp [putRowK, putRow, mapBlock, Sort.ahead, Array.getElem?_modify, hh, onCells]
    refine ⟨he, d'.toList, hpm, ?_, own_of_holds hk h0 hI hc1 hc2 (by simp [putCells, hcs]) (by have := hpm.length_eq; rw [this, hnx]; simp) (by rw [show d'.toList.toArray = d' from by simp]; exact hH2), hgrow⟩
    rw [List.pairwise_iff_getElem]
    intro i j hi hj hij
    have hi' : i < d'.size := by simpa using hi
    have hj' : j < d'.size := by simpa using hj
    have := hs i j (Nat.zero_le _) hij (by omega)
    rw [getElem!_pos d' i hi', getElem!_pos d' j hj'] at this
    simpa using this
end
theorem sortP_any (base g n cap : Nat) (xs : List ID) (w : World) (h : w.ownsRow base 36 2 (.slice (some ⟨g, 0, none⟩) n cap) n (xs.flatMap encID)) (hn : xs.length ≤ 4294967296) :
    Calls Tryz.prog 82 #[.slice (some ⟨g, 0, none⟩) n cap, .func (.func 55) #[] #[]] w (SortOwn encID 2 cmpID base g n cap 36 xs w) := by
  have hg := h.lt g rfl
  have eg : ∀ args w, (callFunc 55 args).run Tryz.prog w = .ok (.enter 55 args) w := enters_of Tryz.func55 (by kernel_rfl) rfl
  exact sort_own encID_len h (by omega) (AnyQ.slices_SortFunc Tryz.lay82 2 Tryz.isAgg36 Tryz.sizeOf36 encID (fun _ => rfl) encID_one cmpID swoID 55 #[] g 0 cap xs.toArray w eg
    (fun _ _ _ _ x y => acmp_grow x.1 x.2 y.1 y.2 _) (holdsK_of_own encID_len (by omega) h) hg.2 (by simp; omega))
/-- A row of no elements is in order. -/
theorem sortP_none (p : Option Addr) (cap : Nat) (w : World) : Calls Tryz.prog 82 #[.slice p 0 cap, .func (.func 55) #[] #[]] w fun e w' => e = .returned (.tuple #[]) ∧ w' = w :=
  AnyF.slices_SortFunc_none { Tryz.lay82 with } p cap _ w
end Go.Proofs.YtmiknfneeipkeaaGreat
namespace Go.Proofs.YtmiknfneeipkeaaGreat
open Go.RowKit Go.MapKept Go.ChangeMaps
/-- A revision of the example with the action a. -/
abbrev vRa (a i : Int) : Value := .agg #[.string pA, .int .i64 i, .int .i64 (10 * i), .int .i64 a, .int .i64 1, .bool false, .bool false, .bool false, .int .u64 i, .int .i64 1, .string ⟨#[]⟩, .int .i64 0]
abbrev cRa (a i : Int) : Array Value := #[.string pA, .int .i64 i, .int .i64 (10 * i), .int .i64 a, .int .i64 1, .bool false, .bool false, .bool false, .int .u64 i, .int .i64 1, .string ⟨#[]⟩, .int .i64 0]
/-- The cells of a check. -/
abbrev ckC (R : Value) (n : Int) (E : Value) (ml me mi : Nat) : Array Value := #[R, .slice none 0 0, .int .i64 n, .string ⟨#[]⟩, .string ⟨#[]⟩, E, .slice none 0 0, .map (some ml), .map (some me), .map (some mi)]
section
variable {b : Nat} {w0 w : World} {l : List Ob} {R E : Value} {n : Int} {kb ml me mi : Nat} {L : List (Fi × Fi)}
theorem isLive_any (a : Int) (h3 : a ≠ 3) (h5 : a ≠ 5) (w : World) : Calls Tryz.prog 211 #[.int .i64 a] w (fun e w' => e = .returned (.bool true) ∧ w = w') := by
  have h3' : (a != 3) = true := by simpa using h3
  have h5' : (a != 5) = true := by simpa using h5
  clear h3 h5
  go_enter Tryz.func211, Tryz.ntmps211
  go_wp2_with fail
  go_ret
  exact ⟨by first | rfl | (rw [h5']; rfl), rfl⟩
theorem lineOf_add (kb : Nat) (w : World) : Calls Tryz.prog 131 #[vPtr kb, vRa 1 1] w (fun e w' => e = .returned (vF (pA, 1)) ∧ Below w.heap.size w w') := by
  go_enter Tryz.func131, Tryz.ntmps131
  go_wp2_with fail
  refine bodyPost_ret (v := vF (pA, 1)) ?_ rfl ⟨rfl, ((Below.refl _ _).alloc (Nat.le_refl _) _).alloc (by simp) _⟩
  simp [results, Tryz.results131, go_sem]
theorem look_F {w : World} {m : Nat} (h : MapIs okF vF vF w m L) {f : Fi} (hf : okF f) {g : Fi} (ha : asc L f = some g) (W : World) (hW : Below w.heap.size w W) : (Instr.lookup 207 (.map (some m)) (.agg #[.string f.1, .int .i64 f.2]) false).run Tryz.prog W = .ok (vF g) W := by
  have := MapIs.look mkF Tryz.underlying207 (zero168 W) (h.on hW) hf false
  rw [ha] at this
  exact this
/-- The line of a revision that is no first one. -/
theorem lineOf_edit (h : SW b w0 l w) (hk : cellOb kb 209 (ckC R n E ml me mi) ∈ l) (hm : mpOb okF vF vF mi L ∈ l) (i : Int) (hi : okF (pA, i - 1)) (ha : asc L (pA, i - 1) = some (pA, 1)) (h1 : -9223372036854775807 ≤ i) (h2 : i ≤ 9223372036854775807) : Calls Tryz.prog 131 #[vPtr kb, vRa 2 i] w (fun e w' => e = .returned (vF (pA, 1)) ∧ Below w.heap.size w w') := by
  have hkb : IsB w kb 209 (ckC R n E ml me mi) := h.1.holds (cellOb kb 209 (ckC R n E ml me mi)) hk
  have k9 : w.cell? ⟨kb, 9, none⟩ = some (.map (some mi)) := hkb.cell 9
  have hlt := hkb.lt
  have HL := Lib.hid (look_F (h.1.holds (mpOb okF vF vF mi L) hm) hi ha)
  clear h hk hm hkb hi ha
  go_enter Tryz.func131, Tryz.ntmps131
  go_upto_region 6 with fail
  generalize hW : (w.alloc _).alloc _ = W1
  have hb : Below w.heap.size w W1 := by rw [← hW]; exact ((Below.refl _ _).alloc (Nat.le_refl _) _).alloc (by simp) _
  have c0 : W1.cell? ⟨w.heap.size, 0, none⟩ = some (.string pA) := by rw [← hW]; simp [go_sem]
  have c1 : W1.cell? ⟨w.heap.size, 1, none⟩ = some (.int .i64 i) := by rw [← hW]; simp [go_sem]
  have d0 : W1.cell? ⟨w.heap.size + 1, 0, none⟩ = some (.string ⟨#[]⟩) := by rw [← hW]; simp [go_sem]
  have d1 : W1.cell? ⟨w.heap.size + 1, 1, none⟩ = some (.int .i64 0) := by rw [← hW]; simp [go_sem]
  have f0 : W1.frozen? ⟨w.heap.size + 1, 0, none⟩ = false := by rw [← hW]; simp [go_sem]
  have f1 : W1.frozen? ⟨w.heap.size + 1, 1, none⟩ = false := by rw [← hW]; simp [go_sem]
  have k9 : W1.cell? ⟨kb, 9, none⟩ = some (.map (some mi)) := by rw [← hW]; simp [go_sem, hlt, k9]
  have hl0 : (Instr.lookup 207 (.map (some mi)) (.agg #[.string pA, .int .i64 (i - 1)]) false).run Tryz.prog W1.drew = .ok (vF (pA, 1)) W1.drew := HL.out W1.drew hb.drew
  have HB := Lib.hid hb
  have HSZ : Hid (w.heap.size + 2 ≤ W1.heap.size) := by rw [Hid, ← hW]; simp
  clear HL hW hb
  go_wp2_with fail
  go_region
  go_wp2_with fail
  refine bodyPost_ret (v := vF (pA, 1)) ?_ rfl ⟨rfl, ((HB.out.setCell (by simp) _).setCell (by simp) _).drew⟩
  simp [results, Tryz.results131, go_sem, d0, d1, f0, f1]
end
end Go.Proofs.YtmiknfneeipkeaaGreat
namespace Go.Proofs.YtmiknfneeipkeaaGreat
open Go.RowKit

/-- How a region is walked. -/
inductive Tr where
  | nil
  | take (k : Nat) (t : Tr)
  | one (k : Nat) (t : Tr)
  | two (k : Nat) (t : Tr) (k2 : Nat) (t2 : Tr)
  | three (k : Nat) (t : Tr) (k2 : Nat) (t2 : Tr) (k3 : Nat) (t3 : Tr)
section
variable {P : Program} {ops : Array Oper} {md : Region.Mode} {S : World → Prop} {Q : Exit → Act → World → Prop}
/-- An operation is run, then K. -/
def runC (P : Program) (ops : Array Oper) (Q : Exit → Act → World → Prop) (S : World → Prop) (o : Oper) (K : Act → World → Prop) (a : Act) (w : World) : Prop :=
  if Region.wanted o (yielded ops a.tmps) = true then Oper.wp P o a w (fun a' w' => S w' ∧ K a' w') Q else S w ∧ K (a.put o.dst undef) w
def wpTr (P : Program) (ops : Array Oper) (Q : Exit → Act → World → Prop) (S : World → Prop) (T : Act → World → Prop) : Tr → Act → World → Prop
  | .nil, a, w => T a w
  | .take k t, a, w => ∃ v, YieldsIf P ops S (ops.getD k default) v a ∧ wpTr P ops Q S T t (a.put (ops.getD k default).dst v) w
  | .one k t, a, w => runC P ops Q S (ops.getD k default) (wpTr P ops Q S T t) a w
  | .two k t k2 t2, a, w => runC P ops Q S (ops.getD k default) (wpTr P ops Q S T t) a w ∧ runC P ops Q S (ops.getD k2 default) (wpTr P ops Q S T t2) a w
  | .three k t k2 t2 k3 t3, a, w => runC P ops Q S (ops.getD k default) (wpTr P ops Q S T t) a w ∧ runC P ops Q S (ops.getD k2 default) (wpTr P ops Q S T t2) a w ∧ runC P ops Q S (ops.getD k3 default) (wpTr P ops Q S T t3) a w
def treeB (md : Region.Mode) (ops : Array Oper) (n g : Nat) : Nat → Tr → Array Bool → Bool
  | 0, .nil, listed => Region.seqB md ops g n listed
  | f + 1, .take k t, listed => decide (k < n) && (Region.ready md ops listed).contains k && Region.free md ops listed k && treeB md ops n g f t (listed.setIfInBounds k true)
  | f + 1, .one k t, listed => decide (k < n) && decide (Region.ready md ops listed = [k]) && treeB md ops n g f t (listed.setIfInBounds k true)
  | f + 1, .two k t k2 t2, listed => decide (k < n) && decide (k2 < n) && decide (Region.ready md ops listed = [k, k2]) && treeB md ops n g f t (listed.setIfInBounds k true) && treeB md ops n g f t2 (listed.setIfInBounds k2 true)
  | f + 1, .three k t k2 t2 k3 t3, listed => decide (k < n) && decide (k2 < n) && decide (k3 < n) && decide (Region.ready md ops listed = [k, k2, k3]) && treeB md ops n g f t (listed.setIfInBounds k true) && treeB md ops n g f t2 (listed.setIfInBounds k2 true) && treeB md ops n g f t3 (listed.setIfInBounds k3 true)
  | _, _, _ => false
theorem runC_op {k : Nat} {K : Act → World → Prop} {a : Act} {w : World} (hk : k < ops.size) (h : runC P ops Q S (ops.getD k default) K a w) : wpOp P ops Q k (fun a' w' => S w' ∧ K a' w') a w := by
  have h0 : ops[k]? = some (ops.getD k default) := by simp [Array.getD_eq_getD_getElem?, hk]
  unfold wpOp
  simp only [h0]
  unfold runC at h
  by_cases hwt : Region.wanted (ops.getD k default) (yielded ops a.tmps) = true
  · rw [if_pos hwt] at h ⊢
    exact .inl h
  · rw [if_neg hwt] at h ⊢
    exact h
theorem headH_of_tree {n g : Nat} {T : Act → World → Prop} (hsel : Region.noSelect ops = true) (hQ : ∀ c a d v w, Q (.panic c) (a.put d v) w → Q (.panic c) a w) (hs : Region.sinkB md ops n = true) (hc : Region.chainB md ops n = true) (hn : n < ops.size) :
    ∀ (f : Nat) (t : Tr) (listed : Array Bool) (a : Act) (w : World), HeadInv md ops n listed → S w →
    treeB md ops n g f t listed = true → wpTr P ops Q S T t a w →
    headH P md ops Q S n (fun listed' a' w' => Region.seqB md ops g n listed' = true ∧ T a' w') f listed a w
  | 0, .nil, listed, a, w, _, _, hB, h => ⟨by simpa [treeB] using hB, by simpa [wpTr] using h⟩
  | f + 1, .take k t, listed, a, w, inv, hS, hB, h => by
    simp only [treeB, Bool.and_eq_true, decide_eq_true_eq] at hB
    obtain ⟨⟨⟨hkn, hr⟩, hf⟩, hB'⟩ := hB
    have hk : k < ops.size := by omega
    have h0 : ops[k]? = some (ops.getD k default) := by simp [Array.getD_eq_getD_getElem?, hk]
    have hr' : k ∈ Region.ready md ops listed := by simpa using hr
    obtain ⟨v, hy, hK⟩ : ∃ v, YieldsIf P ops S (ops.getD k default) v a ∧ wpTr P ops Q S T t (a.put (ops.getD k default).dst v) w := h
    exact headH_first h0 (Region.noSelect_spec hsel) hQ hs hc hn hkn (fun listed' a' w' hL => seqB_ready hL.1) f listed a w inv (Region.free_spec h0 hf) hr' hy hS
      (headH_of_tree hsel hQ hs hc hn f t _ _ w (inv.set hr' hkn) hS hB' hK)
  | f + 1, .one k t, listed, a, w, inv, hS, hB, h => by
    simp only [treeB, Bool.and_eq_true, decide_eq_true_eq] at hB
    obtain ⟨⟨hkn, hr⟩, hB'⟩ := hB
    refine ⟨fun h1 => (by rw [hr] at h1; cases h1), fun i hi => ?_⟩
    have hr' : i ∈ Region.ready md ops listed := hi
    rw [hr] at hi
    obtain rfl : i = k := by simpa using hi
    exact ⟨hkn, wpOp_mono (fun a' w' h' => ⟨h'.1, headH_of_tree hsel hQ hs hc hn f t _ a' w' (inv.set hr' hkn) h'.1 hB' h'.2⟩) (runC_op (by omega) h)⟩
  | f + 1, .two k t k2 t2, listed, a, w, inv, hS, hB, h => by
    simp only [treeB, Bool.and_eq_true, decide_eq_true_eq] at hB
    obtain ⟨⟨⟨⟨hkn, hkn2⟩, hr⟩, hB'⟩, hB2⟩ := hB
    refine ⟨fun h1 => (by rw [hr] at h1; cases h1), fun i hi => ?_⟩
    have hr' : i ∈ Region.ready md ops listed := hi
    rw [hr] at hi
    simp only [List.mem_cons, List.not_mem_nil, or_false] at hi
    obtain ⟨h1, h2⟩ : runC P ops Q S (ops.getD k default) (wpTr P ops Q S T t) a w ∧ runC P ops Q S (ops.getD k2 default) (wpTr P ops Q S T t2) a w := h
    rcases hi with rfl | rfl
    · exact ⟨hkn, wpOp_mono (fun a' w' h' => ⟨h'.1, headH_of_tree hsel hQ hs hc hn f t _ a' w' (inv.set hr' hkn) h'.1 hB' h'.2⟩) (runC_op (by omega) h1)⟩
    · exact ⟨hkn2, wpOp_mono (fun a' w' h' => ⟨h'.1, headH_of_tree hsel hQ hs hc hn f t2 _ a' w' (inv.set hr' hkn2) h'.1 hB2 h'.2⟩) (runC_op (by omega) h2)⟩
  | f + 1, .three k t k2 t2 k3 t3, listed, a, w, inv, hS, hB, h => by
    simp only [treeB, Bool.and_eq_true, decide_eq_true_eq] at hB
    obtain ⟨⟨⟨⟨⟨⟨hkn, hkn2⟩, hkn3⟩, hr⟩, hB'⟩, hB2⟩, hB3⟩ := hB
    refine ⟨fun h1 => (by rw [hr] at h1; cases h1), fun i hi => ?_⟩
    have hr' : i ∈ Region.ready md ops listed := hi
    rw [hr] at hi
    simp only [List.mem_cons, List.not_mem_nil, or_false] at hi
    obtain ⟨h1, h2, h3⟩ : runC P ops Q S (ops.getD k default) (wpTr P ops Q S T t) a w ∧ runC P ops Q S (ops.getD k2 default) (wpTr P ops Q S T t2) a w ∧ runC P ops Q S (ops.getD k3 default) (wpTr P ops Q S T t3) a w := h
    rcases hi with rfl | rfl | rfl
    · exact ⟨hkn, wpOp_mono (fun a' w' h' => ⟨h'.1, headH_of_tree hsel hQ hs hc hn f t _ a' w' (inv.set hr' hkn) h'.1 hB' h'.2⟩) (runC_op (by omega) h1)⟩
    · exact ⟨hkn2, wpOp_mono (fun a' w' h' => ⟨h'.1, headH_of_tree hsel hQ hs hc hn f t2 _ a' w' (inv.set hr' hkn2) h'.1 hB2 h'.2⟩) (runC_op (by omega) h2)⟩
    · exact ⟨hkn3, wpOp_mono (fun a' w' h' => ⟨h'.1, headH_of_tree hsel hQ hs hc hn f t3 _ a' w' (inv.set hr' hkn3) h'.1 hB3 h'.2⟩) (runC_op (by omega) h3)⟩
  | 0, .take _ _, _, _, _, _, _, hB, _ => by simp [treeB] at hB
  | 0, .one _ _, _, _, _, _, _, hB, _ => by simp [treeB] at hB
  | 0, .two _ _ _ _, _, _, _, _, _, hB, _ => by simp [treeB] at hB
  | 0, .three _ _ _ _ _ _, _, _, _, _, _, hB, _ => by simp [treeB] at hB
  | f + 1, .nil, _, _, _, _, _, hB, _ => by simp [treeB] at hB
def treeTailB (md : Region.Mode) (ops : Array Oper) (n : Nat) (t : Tr) : Bool :=
  Region.noSelect ops && decide (n < ops.size) && Region.sinkB md ops n && Region.chainB md ops n && treeB md ops n (ops.size - n) n t (Array.replicate ops.size false)
/-- A region whose first n operations are walked by a tree, the others in one order behind them. -/
theorem wp_region_tree {id : Nat} {a : Act} {w : World} {l : List Oper} (n : Nat) (t : Tr) (S : World → Prop) (hm : P.follows .mixedOrders = true) (hQ : ∀ c a d v w, Q (.panic c) (a.put d v) w → Q (.panic c) a w) (hB : treeTailB .any l.toArray n t = true) (hS : S w.drew)
    (h : wpTr P l.toArray Q S (fun a' w' => wpList P l.toArray Q (l.drop n) a' w') t a w.drew) : (Code.region id l.toArray true).wp P Q a w := by
  simp only [treeTailB, Bool.and_eq_true, decide_eq_true_eq] at hB
  obtain ⟨⟨⟨⟨hsel, hn⟩, hs⟩, hc⟩, hlex⟩ := hB
  have hdl : (l.drop n).length = l.toArray.size - n := by simp
  have inv0 : HeadInv .any l.toArray n (Array.replicate l.toArray.size false) :=
    ⟨by simp, fun j oj _ hl => (by rw [getD_replicate_false] at hl; cases hl), fun t _ ht => getD_in (by simpa using ht) (getD_replicate_false _ _)⟩
  have H := headH_of_tree (md := .any) (g := l.toArray.size - n) hsel hQ hs hc hn n t _ a w.drew inv0 hS hlex h
  refine wp_region_any hm ?_
  have := any_of_headH (Q := Q) (S := S) (g := l.toArray.size - n) (fun listed a' w' hL => by
    have := wpAny_of_seq (md := .any) (Q' := Q) (l.drop n) n listed a' w' (fun j => by simp [List.getElem?_drop]) (by rw [hdl]; exact hL.1) hL.2
    rwa [hdl] at this) _ _ _ _ H
  rw [show n + (l.toArray.size - n) = l.toArray.size by omega] at this
  exact this
theorem wpTr_nil {T : Act → World → Prop} {a : Act} {w : World} (h : T a w) : wpTr P ops Q S T .nil a w := h
theorem wpTr_take {T : Act → World → Prop} {k : Nat} {t : Tr} {a : Act} {w : World} {o : Oper} (ho : ops.getD k default = o) (v : Value) (hy : YieldsIf P ops S o v a) (h : wpTr P ops Q S T t (a.put o.dst v) w) : wpTr P ops Q S T (.take k t) a w := by
  subst ho
  exact ⟨v, hy, h⟩
theorem wpTr_run {K : Act → World → Prop} {k : Nat} {a : Act} {w : World} {o : Oper} (ho : ops.getD k default = o) (h : ∀ K' : Act → World → Prop, Shut (∀ a w, S w → K a w → K' a w) → if Region.wanted o (yielded ops a.tmps) = true then Oper.wp P o a w K' Q else K' (a.put o.dst undef) w) : runC P ops Q S (ops.getD k default) K a w := by
  subst ho
  exact h _ (fun _ _ h1 h2 => ⟨h1, h2⟩)
theorem getD_lit {l : List Oper} {k : Nat} {o : Oper} (h : l[k]? = some o) : l.toArray.getD k default = o := by
  simp only [Array.getD_eq_getD_getElem?, List.getElem?_toArray, h, Option.getD_some]
theorem wpTr_runL {l : List Oper} {K : Act → World → Prop} {k : Nat} {a : Act} {w : World} {o : Oper} (ho : l[k]? = some o) (h : ∀ K' : Act → World → Prop, Shut (∀ a w, S w → K a w → K' a w) → if Region.wanted o (yielded l.toArray a.tmps) = true then Oper.wp P o a w K' Q else K' (a.put o.dst undef) w) : runC P l.toArray Q S (l.toArray.getD k default) K a w :=
  wpTr_run (getD_lit ho) h
theorem wpTr_takeL {l : List Oper} {T : Act → World → Prop} {k : Nat} {t : Tr} {a : Act} {w : World} {o : Oper} (ho : l[k]? = some o) (v : Value) (hy : YieldsIf P l.toArray S o v a) (h : wpTr P l.toArray Q S T t (a.put o.dst v) w) : wpTr P l.toArray Q S T (.take k t) a w :=
  wpTr_take (getD_lit ho) v hy h
theorem wpTr_one {T : Act → World → Prop} {k : Nat} {t : Tr} {a : Act} {w : World} (h : runC P ops Q S (ops.getD k default) (wpTr P ops Q S T t) a w) : wpTr P ops Q S T (.one k t) a w := h
theorem wpTr_two {T : Act → World → Prop} {k k2 : Nat} {t t2 : Tr} {a : Act} {w : World} (h : runC P ops Q S (ops.getD k default) (wpTr P ops Q S T t) a w) (h2 : runC P ops Q S (ops.getD k2 default) (wpTr P ops Q S T t2) a w) : wpTr P ops Q S T (.two k t k2 t2) a w := ⟨h, h2⟩
theorem wpTr_three {T : Act → World → Prop} {k k2 k3 : Nat} {t t2 t3 : Tr} {a : Act} {w : World} (h : runC P ops Q S (ops.getD k default) (wpTr P ops Q S T t) a w) (h2 : runC P ops Q S (ops.getD k2 default) (wpTr P ops Q S T t2) a w) (h3 : runC P ops Q S (ops.getD k3 default) (wpTr P ops Q S T t3) a w) : wpTr P ops Q S T (.three k t k2 t2 k3 t3) a w := ⟨h, h2, h3⟩
end
end Go.Proofs.YtmiknfneeipkeaaGreat
