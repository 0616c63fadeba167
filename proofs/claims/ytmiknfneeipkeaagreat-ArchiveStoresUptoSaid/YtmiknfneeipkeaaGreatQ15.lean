/- Contracts of the walk, part 15. -/
import Derived.Test.YtmiknfneeipkeaaGreatQ14
import Derived.Test.YtmiknfneeipkeaaGreatQ11
import Derived.Test.YtmiknfneeipkeaaGreatQ06
namespace Go.Proofs.YtmiknfneeipkeaaGreat
open Go.RowKit Go.MapKept Go.ChangeMaps
attribute [local go_sem] wext_cell
theorem putsR_spec (u : List CT) : ∀ {t : List CT}, Asc t → (u.map (·.1)).Nodup → Asc (u.foldl (fun t c => putR t c.1 c.2) t) ∧ ∀ i, asc (u.foldl (fun t c => putR t c.1 c.2) t) i = if i ∈ u.map (·.1) then some (nAt t i + nAt u i) else asc t i := by
  induction u with
  | nil => intro t h _; exact ⟨h, fun i => by simp⟩
  | cons c u ih =>
    intro t h hn
    simp only [List.map_cons, List.nodup_cons] at hn
    have h1 := ih (putR_asc h c.1 c.2) hn.2
    refine ⟨h1.1, fun i => ?_⟩
    rw [List.foldl_cons, h1.2 i]
    have hk : ∀ j, nAt (putR t c.1 c.2) j = if c.1 = j then nAt t j + c.2 else nAt t j := by
      intro j
      conv => lhs; unfold nAt
      rw [asc_putR h]
      split
      · rename_i e; rw [← e]; rfl
      · rfl
    by_cases hi : i ∈ u.map (·.1)
    · rw [if_pos hi, if_pos (by simp only [List.map_cons, List.mem_cons]; exact .inr hi), hk]
      have hne : c.1 ≠ i := fun e => hn.1 (e ▸ hi)
      rw [if_neg hne]
      simp only [nAt, asc, if_neg hne]
    · rw [if_neg hi, asc_putR h]
      by_cases e : c.1 = i
      · subst e
        rw [if_pos rfl, if_pos (by simp)]
        simp [nAt, asc]
      · rw [if_neg e, if_neg]
        simp only [List.map_cons, List.mem_cons]
        rintro (h | h)
        · exact e h.symm
        · exact hi h
/-- A valid table: its rows ascend and are good. -/
def rowB (c : CT) : Bool := chunkB c.1 && decide (0 ≤ c.2) && decide (c.2 ≤ 1073741824)
def okC (t : List CT) (k : Nat) : Bool := rowB (t.getD k ct0) && (k == 0 || ltID (t.getD (k - 1) ct0).1 (t.getD k ct0).1)
def tblB (t : List CT) : Bool := decide (t.length ≤ 4096) && (List.range t.length).all (okC t)
def tblE (t : List CT) : Int := if tblB t then 0 else 280
theorem rowB_iff (c : CT) : rowB c = true ↔ chunkB c.1 = true ∧ 0 ≤ c.2 ∧ c.2 ≤ 1073741824 := by simp [rowB, and_assoc]
theorem tblE_iff (t : List CT) : tblE t = 0 ↔ t.length ≤ 4096 ∧ Asc t ∧ ∀ c ∈ t, rowB c = true := by
  have e0 : tblE t = 0 ↔ tblB t = true := by unfold tblE; split <;> simp_all
  rw [e0]
  unfold tblB
  simp only [Bool.and_eq_true, decide_eq_true_eq, List.all_eq_true, List.mem_range]
  constructor
  · rintro ⟨h1, h2⟩
    refine ⟨h1, ?_, ?_⟩
    · have step : ∀ k, k + 1 < t.length → ltID (t.getD k ct0).1 (t.getD (k + 1) ct0).1 = true := by
        intro k hk
        have := h2 (k + 1) hk
        simp [okC] at this
        simpa using this.2
      have far : ∀ d k, k + d + 1 < t.length → ltID (t.getD k ct0).1 (t.getD (k + d + 1) ct0).1 = true := by
        intro d
        induction d with
        | zero => intro k hk; exact step k hk
        | succ d ih => intro k hk; exact mltID_trans (ih k (by omega)) (step (k + d + 1) hk)
      refine List.pairwise_iff_getElem.2 (fun i j hi hj hij => ?_)
      have := far (j - i - 1) i (by omega)
      rw [show i + (j - i - 1) + 1 = j by omega] at this
      simpa [List.getD_eq_getElem?_getD, hi, hj] using this
    · intro c hc
      obtain ⟨k, hk, rfl⟩ := List.mem_iff_getElem.1 hc
      have := h2 k hk
      simp [okC] at this
      simpa [hk] using this.1
  · rintro ⟨h1, h2, h3⟩
    refine ⟨h1, fun k hk => ?_⟩
    unfold okC
    rw [Bool.and_eq_true]
    refine ⟨h3 _ (getD_mem t ct0 k hk), ?_⟩
    rw [Bool.or_eq_true]
    by_cases h0 : k = 0
    · exact .inl (by simp [h0])
    · right
      have := List.pairwise_iff_getElem.1 h2 (k - 1) k (by omega) hk (by omega)
      simpa [List.getD_eq_getElem?_getD, hk, show k - 1 < t.length by omega] using this
theorem asc_some_iff {L : List CT} (hn : (L.map (·.1)).Nodup) (c : CT) : c ∈ L ↔ asc L c.1 = some c.2 := ⟨fun h => asc_mem hn h, fun h => mem_of_asc h⟩
theorem asc_isSome {L : List CT} {i : ID} (h : i ∈ L.map (·.1)) : ∃ n, asc L i = some n := by
  induction L with
  | nil => cases h
  | cons c L ih =>
    rw [asc]
    split
    · exact ⟨_, rfl⟩
    · rename_i e
      rw [List.map_cons, List.mem_cons] at h
      rcases h with h | h
      · exact absurd h.symm e
      · exact ih h
theorem key_of_asc {L : List CT} {i : ID} {n : Int} (h : asc L i = some n) : i ∈ L.map (·.1) := List.mem_map.2 ⟨_, mem_of_asc h, rfl⟩
theorem asc_none_iff {L : List CT} {i : ID} : asc L i = none ↔ i ∉ L.map (·.1) := by
  constructor
  · intro h hm
    obtain ⟨n, e⟩ := asc_isSome hm
    rw [h] at e; cases e
  · intro h
    exact asc_none (fun c hc e => h (e ▸ List.mem_map.2 ⟨c, hc, rfl⟩))
/-- The ascending table of a list of pairs. -/
def tabR (L : List CT) : List CT := L.foldl (fun t c => putR t c.1 c.2) []
theorem tabR_spec {L : List CT} (hn : (L.map (·.1)).Nodup) : Asc (tabR L) ∧ ∀ i, asc (tabR L) i = asc L i := by
  have h := putsR_spec L (t := []) List.Pairwise.nil hn
  refine ⟨h.1, fun i => ?_⟩
  rw [tabR, h.2 i]
  by_cases hi : i ∈ L.map (·.1)
  · obtain ⟨n, e⟩ := asc_isSome hi
    rw [if_pos hi]
    simp [nAt, asc, e]
  · rw [if_neg hi, asc_none_iff.2 hi]
    rfl
theorem tabR_perm {L : List CT} (hn : (L.map (·.1)).Nodup) : (tabR L).Perm L := by
  have h := tabR_spec hn
  have hn1 := h.1.nodup
  have d1 : (tabR L).Nodup := List.Pairwise.of_map (fun c : CT => c.1) (fun a b (hne : a.1 ≠ b.1) e => hne (by rw [e])) hn1
  have d2 : L.Nodup := List.Pairwise.of_map (fun c : CT => c.1) (fun a b (hne : a.1 ≠ b.1) e => hne (by rw [e])) hn
  exact (List.perm_ext_iff_of_nodup d1 d2).2 (fun c => by rw [asc_some_iff hn1, asc_some_iff hn, h.2])
/-- Any ascending order of the pairs is this one. -/
theorem tabR_uniq {L T : List CT} (hn : (L.map (·.1)).Nodup) (hp : T.Perm L) (ha : Asc T) : T = tabR L :=
  asc_ext ha (tabR_spec hn).1 (fun i => by rw [(tabR_spec hn).2 i, asc_permM hp hn])
theorem tabR_eq {L T : List CT} (hn : (L.map (·.1)).Nodup) (ha : Asc T) (h : ∀ i, asc T i = asc L i) : T = tabR L :=
  asc_ext ha (tabR_spec hn).1 (fun i => by rw [(tabR_spec hn).2 i, h])
/-- What 'table' answers. -/
def limP (L : List CT) : List CT × Int := if limB L then (tabR L, 0) else ([], 281)
theorem putN_nodup {L : List CT} (h : (L.map (·.1)).Nodup) (i : ID) (n : Int) : ((putN L i n).map (·.1)).Nodup := setL_nodup h _ _
theorem asc_putN (L : List CT) (i j : ID) (n : Int) : asc (putN L i n) j = if i = j then some (nAt L i + n) else asc L j := by unfold putN; rw [asc_setL]
theorem nAt_none {L : List CT} {i : ID} (h : i ∉ L.map (·.1)) : nAt L i = 0 := by rw [nAt, asc_none_iff.2 h]; rfl
theorem asc_nAt {L : List CT} {i : ID} (h : i ∈ L.map (·.1)) : asc L i = some (nAt L i) := by
  obtain ⟨n, e⟩ := asc_isSome h
  rw [nAt, e]; rfl
theorem addIDs_spec (l : List ID) : ∀ {L : List CT}, (L.map (·.1)).Nodup → ((addIDs L l).map (·.1)).Nodup ∧ ∀ i, asc (addIDs L l) i = if i ∈ l then some (nAt L i + (l.count i : Nat)) else asc L i := by
  induction l with
  | nil => intro L h; exact ⟨h, fun i => by simp [addIDs]⟩
  | cons a l ih =>
    intro L h
    have h1 := ih (putN_nodup h a 1)
    refine ⟨h1.1, fun i => ?_⟩
    show asc (addIDs (putN L a 1) l) i = _
    rw [h1.2 i, nAt_putN, asc_putN]
    by_cases e : a = i
    · subst e
      simp only [if_true, List.mem_cons, true_or, List.count_cons_self]
      by_cases ha : a ∈ l
      · rw [if_pos ha]; congr 1; push_cast; omega
      · rw [if_neg ha, List.count_eq_zero_of_not_mem ha]; rfl
    · have e' : ¬ i = a := fun h => e h.symm
      have ec : (a :: l).count i = l.count i := by rw [List.count_cons]; simp [e]
      simp only [if_neg e, List.mem_cons, e', false_or, ec]
theorem allR_spec (l : List ID) : ∀ {t : List CT}, Asc t → Asc (allR t l) ∧ ∀ i, asc (allR t l) i = if i ∈ l then some (nAt t i + (l.count i : Nat)) else asc t i := by
  induction l with
  | nil => intro t h; exact ⟨h, fun i => by simp [allR]⟩
  | cons a l ih =>
    intro t h
    have h1 := ih (putR_asc h a 1)
    refine ⟨h1.1, fun i => ?_⟩
    show asc (allR (putR t a 1) l) i = _
    have hk : nAt (putR t a 1) i = if a = i then nAt t i + 1 else nAt t i := by
      conv => lhs; unfold nAt
      rw [asc_putR h]
      split
      · rename_i e; rw [← e]; rfl
      · rfl
    rw [h1.2 i, hk, asc_putR h]
    by_cases e : a = i
    · subst e
      simp only [if_true, List.mem_cons, true_or, List.count_cons_self]
      by_cases ha : a ∈ l
      · rw [if_pos ha]; congr 1; push_cast; omega
      · rw [if_neg ha, List.count_eq_zero_of_not_mem ha]; rfl
    · have e' : ¬ i = a := fun h => e h.symm
      have ec : (a :: l).count i = l.count i := by rw [List.count_cons]; simp [e]
      simp only [if_neg e, List.mem_cons, e', false_or, ec]
/-- The chunks of manifests. -/
def idsOf (ms : List Man) : List ID := ms.flatMap (·.ids)
theorem refsFrom_eq (ms : List Man) : ∀ L, refsFrom L ms = addIDs L (idsOf ms) := by
  induction ms with
  | nil => intro L; rfl
  | cons m ms ih =>
    intro L
    show refsFrom (addIDs L m.ids) ms = _
    rw [ih]
    simp [addIDs, idsOf]
theorem refs_eq (ms : List Man) : refs ms = addIDs [] (idsOf ms) := refsFrom_eq ms []
theorem refs_spec (ms : List Man) : ((refs ms).map (·.1)).Nodup ∧ ∀ i, asc (refs ms) i = if i ∈ idsOf ms then some (((idsOf ms).count i : Nat) : Int) else none := by
  have h := addIDs_spec (idsOf ms) (L := []) (by simp)
  rw [refs_eq]
  refine ⟨h.1, fun i => ?_⟩
  rw [h.2 i]
  simp [nAt, asc]
theorem nAt_refs (ms : List Man) (i : ID) : nAt (refs ms) i = ((idsOf ms).count i : Nat) := by
  rw [nAt, (refs_spec ms).2 i]
  split
  · rfl
  · rename_i h; rw [List.count_eq_zero_of_not_mem h]; rfl
theorem refs_keys (ms : List Man) (i : ID) : i ∈ (refs ms).map (·.1) ↔ i ∈ idsOf ms := by
  have h := (refs_spec ms).2 i
  constructor
  · intro hm
    obtain ⟨n, e⟩ := asc_isSome hm
    rw [e] at h
    by_cases hi : i ∈ idsOf ms
    · exact hi
    · rw [if_neg hi] at h; cases h
  · intro hm
    rw [if_pos hm] at h
    exact key_of_asc h
theorem chunk_of_err {ms : List Man} (h : errM ms = 0) : ∀ i ∈ idsOf ms, chunkB i = true := by
  induction ms with
  | nil => simp [idsOf]
  | cons m ms ih =>
    simp only [errM] at h
    split at h
    · rename_i e
      intro i hi
      rw [idsOf, List.flatMap_cons, List.mem_append] at hi
      rcases hi with hi | hi
      · exact List.all_eq_true.1 (manE_all e) i hi
      · exact ih h i hi
    · rename_i e; exact absurd h e
theorem limB_iff (L : List CT) : limB L = true ↔ L.length ≤ 4096 ∧ ∀ c ∈ L, c.2 ≤ 1073741824 := by simp [limB]
/-- 'limited' of an ascending table and 'table' of the pairs. -/
theorem lim_eq {L T : List CT} (hn : (L.map (·.1)).Nodup) (ha : Asc T) (h : ∀ i, asc T i = asc L i) (hc : ∀ c ∈ L, chunkB c.1 = true ∧ 0 ≤ c.2) : (if tblE T = 0 then (T, 0) else ([], 281)) = limP L := by
  have e := tabR_eq hn ha h
  have hp := tabR_perm hn
  rw [← e] at hp
  unfold limP
  rw [← e]
  by_cases hl : limB L = true
  · rw [if_pos hl, if_pos]
    rw [tblE_iff]
    rw [limB_iff] at hl
    exact ⟨by rw [hp.length_eq]; exact hl.1, ha, fun c hcT => (rowB_iff c).2 ⟨(hc c (hp.mem_iff.1 hcT)).1, (hc c (hp.mem_iff.1 hcT)).2, hl.2 c (hp.mem_iff.1 hcT)⟩⟩
  · rw [if_neg hl, if_neg]
    rw [tblE_iff]
    rintro ⟨h1, _, h3⟩
    refine hl ((limB_iff L).2 ⟨by rw [← hp.length_eq]; exact h1, fun c hcL => ((rowB_iff c).1 (h3 c (hp.mem_iff.2 hcL))).2.2⟩)
/-- Of. -/
def ofP (ms : List Man) : List CT × Int := if errM ms = 0 then limP (refs ms) else ([], errM ms)
def ofT (ms : List Man) : List CT := ms.foldl (fun t m => allR t m.ids) []
theorem ofT_eq (ms : List Man) : ofT ms = allR [] (idsOf ms) := by
  have : ∀ t, ms.foldl (fun t m => allR t m.ids) t = allR t (idsOf ms) := by
    induction ms with
    | nil => intro t; rfl
    | cons m ms ih => intro t; rw [List.foldl_cons, ih]; simp [allR, idsOf]
  exact this []
theorem refs_pos {ms : List Man} (h : errM ms = 0) : ∀ c ∈ refs ms, chunkB c.1 = true ∧ 0 ≤ c.2 := by
  intro c hc
  have h1 := (asc_some_iff (refs_spec ms).1 c).1 hc
  refine ⟨chunk_of_err h _ ((refs_keys ms _).1 (List.mem_map.2 ⟨c, hc, rfl⟩)), ?_⟩
  rw [(refs_spec ms).2] at h1
  split at h1
  · injection h1 with h1; omega
  · cases h1
theorem ofT_spec (ms : List Man) : Asc (ofT ms) ∧ ∀ i, asc (ofT ms) i = if i ∈ idsOf ms then some (((idsOf ms).count i : Nat) : Int) else none := by
  rw [ofT_eq]
  have hs := allR_spec (idsOf ms) (t := []) List.Pairwise.nil
  refine ⟨hs.1, fun i => ?_⟩
  rw [hs.2]
  simp [nAt, asc]
theorem nAt_ofT (ms : List Man) (i : ID) : nAt (ofT ms) i = ((idsOf ms).count i : Nat) := by
  rw [nAt, (ofT_spec ms).2 i]
  split
  · rfl
  · rename_i h; rw [List.count_eq_zero_of_not_mem h]; rfl
theorem table_two {x : Nat} {L : List CT} {w : World} {e : Ending} {w' : World} (hn : (L.map (·.1)).Nodup) (h : TablePost x L w e w') : TwoC x (limP L) w e w' := by
  obtain ⟨hb, h | h⟩ := h
  · obtain ⟨hl, T, A, c, hp, ha, rfl, hr, hc, _⟩ := h
    have := tabR_uniq hn hp ha
    subst this
    unfold limP
    rw [if_pos hl]
    exact ⟨A, c, rfl, hr, hc, hb⟩
  · obtain ⟨hl, rfl⟩ := h
    exact twoC_err (by unfold limP; rw [if_neg (by rw [hl]; simp)]) hb
theorem TwoC.from {x : Nat} {p : List CT × Int} {w0 w : World} {e : Ending} {w' : World} (hb : Below w0.heap.size w0 w) (h : TwoC x p w e w') : TwoC x p w0 e w' := by
  obtain ⟨A, c, h1, h2, h3, h4⟩ := h
  exact ⟨A, c, h1, h2, h3, hb.trans (h4.mono hb.size)⟩
theorem addIDs_len (l : List ID) : ∀ L : List CT, (addIDs L l).length ≤ L.length + l.length := by
  induction l with
  | nil => intro L; simp [addIDs]
  | cons a l ih =>
    intro L
    have h1 := ih (putN L a 1)
    have h2 : (putN L a 1).length ≤ L.length + 1 := setL_length _ _ _
    have e : addIDs L (a :: l) = addIDs (putN L a 1) l := rfl
    rw [e, List.length_cons]
    omega
theorem incl_len (u : List CT) : ∀ L : List CT, (incl L u).length ≤ L.length + u.length := by
  induction u with
  | nil => intro L; simp [incl]
  | cons a l ih =>
    intro L
    have h1 := ih (putN L a.1 a.2)
    have h2 : (putN L a.1 a.2).length ≤ L.length + 1 := setL_length _ _ _
    have e : incl L (a :: l) = incl (putN L a.1 a.2) l := rfl
    rw [e, List.length_cons]
    omega
theorem idsOf_len {ms : List Man} (h : errM ms = 0) : (idsOf ms).length ≤ 1024 * ms.length := by
  induction ms with
  | nil => simp [idsOf]
  | cons m ms ih =>
    simp only [errM] at h
    split at h
    · rename_i e
      have h1 := ih h
      have h2 := manE_len e
      have : idsOf (m :: ms) = m.ids ++ idsOf ms := by simp [idsOf]
      rw [this, List.length_append, List.length_cons]
      omega
    · rename_i e; exact absurd h e
theorem refs_len {ms : List Man} (h : errM ms = 0) : (refs ms).length ≤ 1024 * ms.length := by
  have h1 := addIDs_len (idsOf ms) []
  have h2 := idsOf_len h
  rw [refs_eq]
  simp only [List.length_nil] at h1
  omega
theorem MapIs.two {w : World} {b : Nat} {L L' : List CT} (h : Mp w b L) (e : L = L') : Mp w b L' := e ▸ h
set_option maxHeartbeats 2000000 in
theorem mOf_any (x : Nat) (ms : List Man) (A : Option Addr) (c : Nat) (w : World) (hr : RdM w x A ms) (hx : x < w.heap.size) (hn : ms.length ≤ 1000000) (hi : ∀ m ∈ ms, m.ids.length ≤ 9223372036854775807) (hok : ∀ m ∈ ms, ∀ i ∈ m.ids, okID i) :
    Calls Tryz.prog 16 #[.slice A ms.length c] w (TwoC x (ofP ms) w) := by
  have Hr := Lib.hid hr
  have Hi := Lib.hid hi
  have Hok := Lib.hid hok
  clear hr hi hok
  obtain ⟨p, Hp⟩ : ∃ p, Hid (ofP ms = p) := ⟨_, rfl⟩
  rw [Hp.out]
  go_enter Tryz.func16, Tryz.ntmps16
  go_wp2_with fail
  refine (references_any x ms A c _ Hr.out hn Hi.out Hok.out).mono ?_
  rintro e w1 ⟨hb1, ⟨hE, b, hb, rfl, hm⟩ | ⟨hE, rfl⟩⟩
  · have hp := Hp.out
    rw [ofP, if_pos hE] at hp
    subst hp
    have hlen := refs_len hE
    have Hb1 := Lib.hid hb1
    have Hm := Lib.hid hm
    have hs1 := hb1.size
    clear hE hb1 hm
    go_wp2_with fail
    refine (table_any x b (refs ms) _ Hm.out (by omega) (by omega)).mono ?_
    intro e w2 h2
    obtain ⟨A2, c2, rfl, hr2, hc2, hb2⟩ := TwoC.from Hb1.out (table_two (refs_spec ms).1 h2)
    have Hr2 := Lib.hid hr2
    have Hb2 := Lib.hid hb2
    clear h2 hr2 hb2
    go_wp2_with fail
    go_ret2
    exact ⟨A2, c2, rfl, Hr2.out, hc2, Hb2.out⟩
  · have hp := Hp.out
    rw [ofP, if_neg hE] at hp
    have Hq := Lib.hid hp.symm
    have hbe : (errM ms != 0) = true := by rw [bne_iff_ne]; exact hE
    have Hb1 := Lib.hid hb1
    clear hE hb1 hp
    go_wp2_with fail
    go_ret2
    exact twoC_err Hq.out Hb1.out
end Go.Proofs.YtmiknfneeipkeaaGreat
namespace Go.Proofs.YtmiknfneeipkeaaGreat
open Go.RowKit Go.MapKept Go.ChangeMaps Go.Shelf Go.Sort
section
variable {α : Type} [Inhabited α] {enc : α → List Value} {k : Nat} {d : α}
theorem own_of_holds (hk : ∀ y, (enc y).length = k) {w : World} {base g n cap : Nat} {e : TypeId} {ys : List α} {cur : Array Value} (hb : base ≤ g) (hi : IsB w g e cur) (hc : n ≤ cap) (hm : cap ≤ maxLen) (hs : cur.size = cap * k) (hn : ys.length = n) (hH : HoldsK enc k w g 0 ys.toArray) :
    w.ownsRow base e k (.slice (some ⟨g, 0, none⟩) n cap) n (ys.flatMap enc) := by
  refine ⟨by rw [flat_len hk, hn], .inr ⟨g, cap, cur, rfl, hb, hi, hc, hm, hs, ?_⟩⟩
  have hnk : n * k ≤ cap * k := Nat.mul_le_mul_right _ hc
  refine List.ext_getElem? (fun j => ?_)
  by_cases hj : j < n * k
  · have hk0 : 0 < k := by
      rcases Nat.eq_zero_or_pos k with h | h
      · subst h; simp at hj
      · exact h
    have hq : j / k < ys.length := by rw [Nat.div_lt_iff_lt_mul hk0, hn]; exact hj
    have hm : j % k < k := Nat.mod_lt _ hk0
    have hdm : j / k * k + j % k = j := by rw [Nat.mul_comm]; exact Nat.div_add_mod j k
    have h0 := (hH.cell (i := j / k) (c := j % k) (by simpa using hq) hm).1
    rw [Nat.zero_add, hdm, hi.cell, bang_getD (d := default) ys _ hq] at h0
    have h1 := flat_at hk default ys (j / k) (j % k) hq hm
    rw [hdm] at h1
    have hlt : j % k < (enc (ys.getD (j / k) default)).length := by rw [hk]; exact hm
    rw [List.getElem?_take_of_lt hj, Array.getElem?_toList, h0, h1, List.getElem?_eq_getElem hlt, getElem!_pos (enc (ys.getD (j / k) default)) (j % k) hlt]
  · rw [List.getElem?_eq_none (by simp; omega), List.getElem?_eq_none (by rw [flat_len hk, hn]; omega)]
abbrev SortOwn (enc : α → List Value) (k : Nat) (cf : α → α → Int) (base g n cap : Nat) (e : TypeId) (xs : List α) (w : World) (en : Ending) (w' : World) : Prop :=
  en = .returned (.tuple #[]) ∧ ∃ ys : List α, ys.Perm xs ∧ ys.Pairwise (fun a b => ltOf cf b a = false) ∧ w'.ownsRow base e k (.slice (some ⟨g, 0, none⟩) n cap) n (ys.flatMap enc) ∧ w.grownBy w' (some g)
theorem sort_own (hk : ∀ y, (enc y).length = k) {cf : α → α → Int} {f : FuncId} {base g n cap : Nat} {e : TypeId} {xs : List α} {w : World} {gv : Value} (h : w.ownsRow base e k (.slice (some ⟨g, 0, none⟩) n cap) n (xs.flatMap enc)) (hk0 : 0 < k)
    (hcon : Calls Tryz.prog f #[.slice (some ⟨g, 0, none⟩) xs.toArray.size cap, gv] w fun e w' => e = .returned (.tuple #[]) ∧ ∃ d' m os, PermIn 0 xs.toArray.size xs.toArray d' ∧ SortedIn (ltOf cf) 0 xs.toArray.size d' ∧ w' = sortWorldK enc k w g 0 m d' os) :
    Calls Tryz.prog f #[.slice (some ⟨g, 0, none⟩) n cap, gv] w (SortOwn enc k cf base g n cap e xs w) := by
  have hl := h.1
  rw [flat_len hk] at hl
  have hnx : n = xs.toArray.size := by
    have : xs.length = n := Nat.eq_of_mul_eq_mul_right hk0 hl
    simp [this]
  have hg := h.lt g rfl
  rw [← hnx] at hcon
  refine Calls.mono hcon ?_
  rintro en w' ⟨he, d', m, os, hp, hs, rfl⟩
  obtain ⟨hsz, _, hperm⟩ := hp
  have hsz0 := hsz
  rw [hnx, Array.extract_size, show xs.toArray.size = d'.size from hsz.symm, Array.extract_size] at hperm
  have hH := holdsK_putRowK (enc := enc) (k := k) (Sort.ahead w m) g 0 xs.toArray d' (holdsK_of_own hk hk0 h) hsz
  have hgrow : w.grownBy (sortWorldK enc k w g 0 m d' os) (some g) := by
    refine ⟨rfl, rfl, rfl, by simp [sortWorldK, putRowK], fun j hj hne => ?_⟩
    unfold sortWorldK
    rw [heap_grow_old _ _ (by simpa [putRowK] using hj)]
    have : g ≠ j := fun e => hne (by rw [e])
    simp [putRowK, putRow, mapBlock, Sort.ahead, Array.getElem?_modify, this]
  have hH2 := holdsK_grow (enc := enc) (k := k) _ os _ _ _ (by simpa [putRowK] using hg.2) hH
  have hpm : d'.toList.Perm xs := by simpa using hperm
  obtain ⟨_, hown⟩ := h
  rcases hown with ⟨hv, _⟩ | ⟨g', cap', cur, hv, h0, hh, hc1, hc2, hcs, _⟩
  · cases hv
  · injection hv with e1 e2 e3
    injection e1 with e1
    injection e1 with e1
    subst e1 e3
    have hI : IsB (sortWorldK enc k w g 0 m d' os) g e (putCells id (0) (flatK enc k d') cur) := by
      unfold IsB sortWorldK
      rw [heap_grow_old _ _ (by simpa [putRowK] using hg.2)]
      simp [putRowK, putRow, mapBlock, Sort.ahead, Array.getElem?_modify, hh, onCells]
    refine ⟨he, d'.toList, hpm, ?_, own_of_holds hk h0 hI hc1 hc2 (by simp [putCells, hcs]) (by have := hpm.length_eq; rw [this, hnx]; simp) (by rw [show d'.toList.toArray = d' from by simp]; exact hH2), hgrow⟩
    rw [List.pairwise_iff_getElem]
    intro i j hi hj hij
    have hi' : i < d'.size := by simpa using hi
    have hj' : j < d'.size := by simpa using hj
    have := hs i j (Nat.zero_le _) hij (by omega)
    rw [getElem!_pos d' i hi', getElem!_pos d' j hj'] at this
    simpa using this
end
theorem sortP_any (base g n cap : Nat) (xs : List ID) (w : World) (h : w.ownsRow base 36 2 (.slice (some ⟨g, 0, none⟩) n cap) n (xs.flatMap encID)) (hn : xs.length ≤ 4294967296) :
    Calls Tryz.prog 82 #[.slice (some ⟨g, 0, none⟩) n cap, .func (.func 55) #[] #[]] w (SortOwn encID 2 cmpID base g n cap 36 xs w) := by
  have hg := h.lt g rfl
  have eg : ∀ args w, (callFunc 55 args).run Tryz.prog w = .ok (.enter 55 args) w := enters_of Tryz.func55 (by kernel_rfl) rfl
  exact sort_own encID_len h (by omega) (AnyQ.slices_SortFunc Tryz.lay82 2 Tryz.isAgg36 Tryz.sizeOf36 encID (fun _ => rfl) encID_one cmpID swoID 55 #[] g 0 cap xs.toArray w eg
    (fun _ _ _ _ x y => acmp_grow x.1 x.2 y.1 y.2 _) (holdsK_of_own encID_len (by omega) h) hg.2 (by simp; omega))
/-- A row of no elements is in order. -/
theorem sortP_none (p : Option Addr) (cap : Nat) (w : World) : Calls Tryz.prog 82 #[.slice p 0 cap, .func (.func 55) #[] #[]] w fun e w' => e = .returned (.tuple #[]) ∧ w' = w :=
  AnyF.slices_SortFunc_none { Tryz.lay82 with } p cap _ w
end Go.Proofs.YtmiknfneeipkeaaGreat
namespace Go.Proofs.YtmiknfneeipkeaaGreat
open Go.RowKit Go.MapKept Go.ChangeMaps Go.Shelf Go.Sort
attribute [local go_sem] wext_cell
/-- A chunk: its ID, its bytes. -/
abbrev CH := ID × BS
def vBS (e : BS) : Value := .slice e.d.A e.d.len e.d.cap
def encCH (e : CH) : List Value := [.int .u64 e.1.1, .int .i64 e.1.2, vBS e.2]
def ch0 : CH := (id0, bs0)
theorem encCH_len (e : CH) : (encCH e).length = 3 := rfl
theorem encCH_one (e : CH) : ∀ u ∈ encCH e, u.oneCell' = true := by
  intro u hu
  simp [encCH, vBS] at hu
  rcases hu with rfl | rfl | rfl <;> rfl
/-- A list of chunks that is read. -/
def ckOb (A : Option Addr) (T : List CH) : Ob where
  own := fun _ => False
  rd := fun i => (0 < T.length ∧ A = some ⟨i, 0, none⟩) ∨ ∃ e ∈ T, blk e.2.d = some i
  holds := fun w => RowV w 42 3 A T.length (T.flatMap encCH) ∧ ∀ e ∈ T, RB w e.2.d e.2.bs
  stable := fun w w' h hs hk => by
    refine ⟨h.1.same (fun i hn e => hk i (.inr (.inl ⟨hn, e⟩))), fun e he => ?_⟩
    have hc : Ch w w' (fun i => ¬ blk e.2.d = some i) [] := ⟨hs.1, hs.2.1, hs.2.2.1, hs.2.2.2, fun i _ hn _ => hk i (.inr (.inr ⟨e, he, Classical.not_not.1 hn⟩)), by simp⟩
    exact (h.2 e he).ch hc (fun g hg hn => hn hg) (by simp)
theorem ckOb_at {w : World} {A : Option Addr} {T : List CH} (h : (ckOb A T).holds w) {j : Nat} (hj : j < T.length) {i : ID} {e : BS} (he : T.getD j ch0 = (i, e)) : ∃ g, A = some ⟨g, 0, none⟩ ∧ g < w.heap.size ∧ w.cell? ⟨g, j * 3, none⟩ = some (.int .u64 i.1) ∧ w.cell? ⟨g, j * 3 + 1, none⟩ = some (.int .i64 i.2) ∧ w.cell? ⟨g, j * 3 + 2, none⟩ = some (.slice e.d.A e.d.len e.d.cap) ∧ RB w e.d e.bs := by
  obtain ⟨g, e1, hlt, hc⟩ := h.1.at (by omega)
  have hf := fun a (ha : a < 3) => flat_at encCH_len ch0 T j a hj ha
  rw [he] at hf
  have hm : (i, e) ∈ T := by rw [← he]; exact getD_mem _ _ _ hj
  refine ⟨g, e1, hlt, ?_, ?_, ?_, h.2 (i, e) hm⟩
  · have := hf 0 (by omega)
    rw [Nat.add_zero] at this
    rw [hc (j * 3) (by omega), this]
    rfl
  · rw [hc (j * 3 + 1) (by omega), hf 1 (by omega)]
    rfl
  · rw [hc (j * 3 + 2) (by omega), hf 2 (by omega)]
    rfl
/-- Manifests whose IDs are read. -/
def msOb (rs : List MR) (ms : List Man) : Ob where
  own := fun _ => False
  rd := fun i => ∃ j, j < ms.length ∧ 0 < (ms.getD j man0).ids.length ∧ ∃ o, (rs.getD j mr0).A = some ⟨i, o, none⟩
  holds := fun w => rs.length = ms.length ∧ ∀ j, j < ms.length → Link w w.heap.size (rs.getD j mr0) (ms.getD j man0)
  stable := fun w w' h hs hk => by
    obtain ⟨h2, h3⟩ := h
    refine ⟨h2, fun j hj => ?_⟩
    obtain ⟨l1, l2, l3, l4⟩ := h3 j hj
    refine ⟨l1, l2, l3, fun hp => ?_⟩
    obtain ⟨b, o, e, hb, _, hc⟩ := l4 hp
    have hB := hk b (.inr ⟨j, hj, hp, o, e⟩)
    refine ⟨b, o, e, Nat.lt_of_lt_of_le hb hs.2.2.2, by have := hs.2.2.2; omega, fun j hj i v hv => ?_⟩
    rw [← hc j hj i v hv]
    simp [World.cell?, hB]
section
variable {b : Nat} {w0 w w' : World} {l t : List Ob} {o o' : Ob}
theorem SW.noMans (h : SW b w0 l w) : SW b w0 (msOb [] [] :: l) w := SW.fuse (pre := []) h ⟨rfl, fun j hj => by cases hj⟩ (fun _ h => h) (fun i hi => by
  obtain ⟨j, hj, _⟩ := hi
  cases hj)
theorem SW.fuseM {B : Option Addr} {ids : List ID} {rs : List MR} {ms : List Man} (h : SW b w0 (riOb B ids :: msOb rs ms :: l) w) (z : Int) (c : Nat) (hc : ids.length ≤ c) : SW b w0 (msOb (rs ++ [⟨z, B, ids.length, c⟩]) (ms ++ [⟨z, ids⟩]) :: l) w := by
  have hm : (msOb rs ms).holds w := h.get 1 (o := msOb rs ms) rfl
  refine SW.fuse (pre := [riOb B ids, msOb rs ms]) h ⟨by rw [List.length_append, List.length_append, hm.1]; rfl, fun j hj => ?_⟩ (fun _ h => h) (fun i hi => ?_)
  · rw [List.length_append] at hj
    by_cases hlt : j < ms.length
    · rw [getD_snoc_lt _ _ _ _ hlt, getD_snoc_lt _ _ _ _ (by rw [hm.1]; exact hlt)]
      exact hm.2 j hlt
    · have e : j = ms.length := by simp at hj; omega
      rw [getD_snoc_eq _ _ _ _ e, getD_snoc_eq _ _ _ _ (by rw [hm.1]; exact e)]
      exact ⟨rfl, rfl, hc, rdID_of (h.get 0 (o := riOb B ids) rfl)⟩
  · obtain ⟨j, hj, hp, o, e⟩ := hi
    rw [List.length_append] at hj
    by_cases hlt : j < ms.length
    · rw [getD_snoc_lt _ _ _ _ hlt] at hp
      rw [getD_snoc_lt _ _ _ _ (by rw [hm.1]; exact hlt)] at e
      exact ⟨msOb rs ms, by simp, .inr ⟨j, hlt, hp, o, e⟩⟩
    · have ej : j = ms.length := by simp at hj; omega
      rw [getD_snoc_eq _ _ _ _ (by rw [hm.1]; exact ej)] at e
      rw [getD_snoc_eq _ _ _ _ ej] at hp
      have hri : (riOb B ids).holds w := h.get 0 (o := riOb B ids) rfl
      refine ⟨riOb B ids, by simp, .inr ?_⟩
      obtain ⟨g, e2, _⟩ := hri.2 _ e
      injection e2 with e2 e3
      show B = some ⟨i, 0, none⟩
      have e : B = some ⟨i, o, none⟩ := e
      rw [e, e3]
end
/-- Manifests that are read. -/
def imOb (A : Option Addr) (rs : List MR) (ms : List Man) : Ob where
  own := fun _ => False
  rd := fun i => (0 < rs.length ∧ ∃ o, A = some ⟨i, o, none⟩) ∨ ∃ j, j < ms.length ∧ 0 < (ms.getD j man0).ids.length ∧ ∃ o, (rs.getD j mr0).A = some ⟨i, o, none⟩
  holds := fun w => Rd encMR 2 mr0 w w.heap.size A rs ∧ rs.length = ms.length ∧ ∀ j, j < ms.length → Link w w.heap.size (rs.getD j mr0) (ms.getD j man0)
  stable := fun w w' h hs hk => by
    obtain ⟨h1, h2, h3⟩ := h
    refine ⟨fun hp => ?_, h2, fun j hj => ?_⟩
    · obtain ⟨b, o, rfl, hb, _, hc⟩ := h1 hp
      have hB := hk b (.inr (.inl ⟨hp, o, rfl⟩))
      refine ⟨b, o, rfl, Nat.lt_of_lt_of_le hb hs.2.2.2, by have := hs.2.2.2; omega, fun j hj i v hv => ?_⟩
      rw [← hc j hj i v hv]
      simp [World.cell?, hB]
    · obtain ⟨l1, l2, l3, l4⟩ := h3 j hj
      refine ⟨l1, l2, l3, fun hp => ?_⟩
      obtain ⟨b, o, e, hb, _, hc⟩ := l4 hp
      have hB := hk b (.inr (.inr ⟨j, hj, hp, o, e⟩))
      refine ⟨b, o, e, Nat.lt_of_lt_of_le hb hs.2.2.2, by have := hs.2.2.2; omega, fun j hj i v hv => ?_⟩
      rw [← hc j hj i v hv]
      simp [World.cell?, hB]
section
variable {b : Nat} {w0 w w' : World} {l t : List Ob} {o o' : Ob}
theorem SW.fuseIm {A : Option Addr} {c : Nat} {rs : List MR} {ms : List Man} (h : SW b w0 (rowOb 33 2 (.slice A ms.length c) ms.length (rs.flatMap encMR) :: msOb rs ms :: l) w) : SW b w0 (imOb A rs ms :: l) w := by
  have hm : (msOb rs ms).holds w := h.get 1 (o := msOb rs ms) rfl
  have hr : w.ownsRow 0 33 2 (.slice A ms.length c) ms.length (rs.flatMap encMR) := h.get 0 rfl
  have hrd : Rd encMR 2 mr0 w w.heap.size A rs := by
    intro hp
    have hx : ∀ g, A = some ⟨g, 0, none⟩ → g < w.heap.size := fun g e => (hr.lt g (by rw [e]; rfl)).2
    rcases hr.2 with ⟨hv, h0⟩ | ⟨g, cap, cur, hv, _⟩
    · have := hm.1
      omega
    · injection hv with e1 e2 e3
      subst e1
      subst e3
      refine ⟨g, 0, rfl, hx g rfl, by have := hx g rfl; omega, fun j hj i v hi => ?_⟩
      have hi2 : i < 2 := by
        have := (List.getElem?_eq_some_iff.1 hi).1
        rwa [encMR_len] at this
      rw [Nat.zero_add, hr.cellAt (j * 2 + i) (by rw [← hm.1]; omega), flat_at encMR_len mr0 rs j i hj hi2]
      exact hi
  refine SW.fuse (pre := [rowOb 33 2 (.slice A ms.length c) ms.length (rs.flatMap encMR), msOb rs ms]) h ⟨hrd, hm.1, hm.2⟩ (fun _ h => h) (fun i hi => ?_)
  rcases hi with ⟨hp, o, e⟩ | hi
  · refine ⟨_, List.mem_cons_self .., .inl ?_⟩
    show (Value.slice A ms.length c).ownBlock = some i
    rw [e]
    rfl
  · exact ⟨msOb rs ms, by simp, .inr hi⟩
theorem rd_src {x : Nat} {A : Option Addr} {ids : List ID} (h : RdID w x A ids) : 0 < ids.length → ∃ ad, A = some ad ∧ ∀ j u, (ids.flatMap encID)[j]? = some u → w.cell? (ad.add j) = some u := fun hp => by
  obtain ⟨q, o, rfl, _, _, _⟩ := h hp
  exact ⟨_, rfl, (Rd.opt encID_len (by omega) h).2 _ rfl⟩
theorem own_slL {e : TypeId} {size n : Nat} {v : Value} {xs : List Value} (h : w.ownsRow 0 e size v n xs) : ∃ A c, v = .slice A n c := by
  rcases h.2 with ⟨hv, h2⟩ | ⟨g, cap, cur, hv, _⟩
  · exact ⟨none, 0, by rw [hv, h2]⟩
  · exact ⟨some ⟨g, 0, none⟩, cap, hv⟩
theorem rd_top {x : Nat} {A : Option Addr} {ids : List ID} (h : RdID w x A ids) : RdID w w.heap.size A ids := fun hp => by
  obtain ⟨q, o, e, hb, _, hc⟩ := h hp
  exact ⟨q, o, e, hb, by omega, hc⟩
theorem SW.fuseCk {A : Option Addr} {c : Nat} {K : List CH} (h : SW b w0 (rowOb 42 3 (.slice A K.length c) K.length (K.flatMap encCH) :: bufsOb (K.map (·.2)) :: l) w) : SW b w0 (ckOb A K :: l) w := by
  have hb : ∀ e ∈ K.map (fun x : CH => x.2), RB w e.d e.bs := h.get 1 (o := bufsOb (K.map (fun x : CH => x.2))) rfl
  have hr : w.ownsRow 0 42 3 (.slice A K.length c) K.length (K.flatMap encCH) := h.get 0 rfl
  have hv : RowV w 42 3 A K.length (K.flatMap encCH) := by
    refine ⟨hr.1, ?_⟩
    rcases hr.2 with ⟨_, h0⟩ | ⟨g, cap, cur, hv, _, hh, _, _, _, htk⟩
    · exact .inl h0
    · injection hv with e1
      exact .inr ⟨g, cur, e1, hh, htk⟩
  refine SW.fuse (pre := [rowOb 42 3 (.slice A K.length c) K.length (K.flatMap encCH), bufsOb (K.map (fun x : CH => x.2))]) h ⟨hv, fun e he => hb _ (List.mem_map.2 ⟨e, he, rfl⟩)⟩ (fun _ h => h) (fun i hi => ?_)
  rcases hi with ⟨hp, e⟩ | ⟨e, he, hbk⟩
  · refine ⟨_, List.mem_cons_self .., .inl ?_⟩
    show (Value.slice A K.length c).ownBlock = some i
    rw [e]
    rfl
  · exact ⟨bufsOb (K.map (fun x : CH => x.2)), by simp, .inr ⟨e.2, List.mem_map.2 ⟨e, he, rfl⟩, hbk⟩⟩
end
end Go.Proofs.YtmiknfneeipkeaaGreat
