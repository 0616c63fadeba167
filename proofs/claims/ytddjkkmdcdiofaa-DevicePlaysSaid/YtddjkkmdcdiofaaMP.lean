/- Maps as lists of pairs in the order in which their keys were laid: laws for the operations. -/
import Derived.Test.YtddjkkmdcdiofaaRB
import Derived.Maps.RangeWalk
import Derived.WideKeyEntry
namespace Go.Proofs.Ytddjkkmdcdiofaa
open Go.RowKit Go.MapKept Go.ChangeMaps
open Go.Maps (Keyed)

section
variable {α β : Type} [DecidableEq α]

/-- What the list has at a key. -/
def asc : List (α × β) → α → Option β
  | [], _ => none
  | c :: L, a => if c.1 = a then some c.2 else asc L a
/-- The list with v at a key. -/
def setL : List (α × β) → α → β → List (α × β)
  | [], a, v => [(a, v)]
  | c :: L, a, v => if c.1 = a then (a, v) :: L else c :: setL L a v
theorem asc_none {L : List (α × β)} {a : α} (h : ∀ c ∈ L, c.1 ≠ a) : asc L a = none := by
  induction L with
  | nil => rfl
  | cons c L ih => rw [asc, if_neg (h c (by simp)), ih (fun c hc => h c (by simp [hc]))]
theorem asc_at {L : List (α × β)} (hn : (L.map (·.1)).Nodup) {j : Nat} {c : α × β} (h : L[j]? = some c) : asc L c.1 = some c.2 := by
  induction L generalizing j with
  | nil => simp at h
  | cons d L ih =>
    simp only [List.map_cons, List.nodup_cons] at hn
    cases j with
    | zero => simp at h; subst h; simp [asc]
    | succ j =>
      simp only [List.getElem?_cons_succ] at h
      have : d.1 ≠ c.1 := fun e => hn.1 (by rw [e]; exact List.mem_map.2 ⟨c, List.mem_of_getElem? h, rfl⟩)
      rw [asc, if_neg this, ih hn.2 h]
theorem asc_mem {L : List (α × β)} (hn : (L.map (·.1)).Nodup) {c : α × β} (h : c ∈ L) : asc L c.1 = some c.2 := by
  obtain ⟨j, hj⟩ := List.mem_iff_getElem?.1 h
  exact asc_at hn hj
theorem mem_of_asc {L : List (α × β)} {a : α} {v : β} (h : asc L a = some v) : (a, v) ∈ L := by
  induction L with
  | nil => cases h
  | cons c L ih =>
    rw [asc] at h
    split at h
    · rename_i e
      injection h with h
      subst e h
      simp
    · exact List.mem_cons_of_mem _ (ih h)
theorem setL_none {L : List (α × β)} {a : α} (h : ∀ c ∈ L, c.1 ≠ a) (v : β) : setL L a v = L ++ [(a, v)] := by
  induction L with
  | nil => rfl
  | cons c L ih => rw [setL, if_neg (h c (by simp)), ih (fun c hc => h c (by simp [hc]))]; rfl
theorem setL_at {L : List (α × β)} (hn : (L.map (·.1)).Nodup) {j : Nat} {c : α × β} (h : L[j]? = some c) (v : β) : setL L c.1 v = L.set j (c.1, v) := by
  induction L generalizing j with
  | nil => simp at h
  | cons d L ih =>
    simp only [List.map_cons, List.nodup_cons] at hn
    cases j with
    | zero => simp at h; subst h; simp [setL]
    | succ j =>
      simp only [List.getElem?_cons_succ] at h
      have : d.1 ≠ c.1 := fun e => hn.1 (by rw [e]; exact List.mem_map.2 ⟨c, List.mem_of_getElem? h, rfl⟩)
      rw [setL, if_neg this, ih hn.2 h]
      rfl
theorem asc_setL (L : List (α × β)) (a a' : α) (v : β) : asc (setL L a v) a' = if a = a' then some v else asc L a' := by
  induction L with
  | nil => simp [setL, asc]
  | cons c L ih =>
    rw [setL]
    split
    · rename_i e
      subst e
      simp only [asc]
      split <;> rfl
    · rename_i e
      simp only [asc, ih]
      split
      · rename_i e2
        rw [if_neg (fun e3 => e (e2.trans e3.symm))]
      · rfl
theorem setL_keys (L : List (α × β)) (a : α) (v : β) (a' : α) : a' ∈ (setL L a v).map (·.1) ↔ a' = a ∨ a' ∈ L.map (·.1) := by
  induction L with
  | nil => simp [setL]
  | cons c L ih =>
    rw [setL]
    split
    · rename_i e; subst e; simp
    · rw [List.map_cons, List.mem_cons, ih, List.map_cons, List.mem_cons]
      constructor <;> rintro (h | h | h) <;> simp [h]
theorem setL_length (L : List (α × β)) (a : α) (v : β) : (setL L a v).length ≤ L.length + 1 := by
  induction L with
  | nil => simp [setL]
  | cons c L ih => rw [setL]; split <;> simp <;> omega
end

section
variable {α β : Type}
variable (P : Program) (k : TypeId) (ok : α → Prop) (kv : α → Value) (vv : β → Value)

/-- What a map's keys must be. -/
structure MK : Prop where
  K : Keyed P k
  key : ∀ a, ok a → ∃ l, keyOf P k (kv a) = some l
  inj : ∀ a b, kv a = kv b → a = b

/-- Block b is a map that holds the pairs L, in the order in which the keys were laid. -/
def MapIs (w : World) (b : Nat) (L : List (α × β)) : Prop :=
  ∃ es clock, w.heap[b]? = some (.map es clock) ∧ Stamped es clock ∧ es.toList.map (fun e => (e.key, e.val)) = L.map (fun c => (kv c.1, vv c.2)) ∧ ∀ c ∈ L, ok c.1

variable {P k ok kv vv}
theorem MapIs.lt {w : World} {b : Nat} {L : List (α × β)} (h : MapIs ok kv vv w b L) : b < w.heap.size := by
  obtain ⟨es, clock, hb, _⟩ := h
  exact (Array.getElem?_eq_some_iff.1 hb).1
theorem MapIs.made (w : World) : MapIs ok kv vv (w.alloc (.map #[] 0)) w.heap.size ([] : List (α × β)) :=
  ⟨#[], 0, (MapKept.heap_alloc w _).1, stamped_empty 0, rfl, by simp⟩
theorem MapIs.same {w w' : World} {b : Nat} {L : List (α × β)} (h : MapIs ok kv vv w b L) (hb : w'.heap[b]? = w.heap[b]?) : MapIs ok kv vv w' b L := by
  obtain ⟨es, clock, h1, h2⟩ := h
  exact ⟨es, clock, hb.trans h1, h2⟩
theorem MapIs.kept {w w' : World} {b : Nat} {L : List (α × β)} {row : Option Nat} (h : MapIs ok kv vv w b L) (hg : w.grownBy w' row) (hne : some b ≠ row) : MapIs ok kv vv w' b L := h.same (hg.block b h.lt hne)
theorem MapIs.on {w w' : World} {b : Nat} {L : List (α × β)} (h : MapIs ok kv vv w b L) (hb : Below w.heap.size w w') : MapIs ok kv vv w' b L := h.same (hb.block b h.lt)
theorem MapIs.alloc {w : World} {b : Nat} {L : List (α × β)} (h : MapIs ok kv vv w b L) (o : Obj) : MapIs ok kv vv (w.alloc o) b L := h.on ((Below.refl _ _).alloc (Nat.le_refl _) o)

theorem keys_nodup {es : Array MapEntry} {clock : Nat} (hs : Stamped es clock) {L : List (α × β)} (he : es.toList.map (fun e => (e.key, e.val)) = L.map (fun c => (kv c.1, vv c.2))) : (L.map (·.1)).Nodup := by
  have h1 : (L.map (fun c => kv c.1)).Nodup := by
    have : es.toList.map (·.key) = L.map (fun c => kv c.1) := by
      have := congrArg (List.map Prod.fst) he
      simpa [Function.comp_def] using this
    rw [← this]
    exact hs.2.2
  have h2 : L.map (fun c => kv c.1) = (L.map (·.1)).map kv := by simp
  rw [h2] at h1
  exact List.Pairwise.of_map kv (fun a b (hne : kv a ≠ kv b) e => hne (by rw [e])) h1
theorem MapIs.nodup {w : World} {b : Nat} {L : List (α × β)} (h : MapIs ok kv vv w b L) : (L.map (·.1)).Nodup := by
  obtain ⟨es, clock, h1, h2, h3, _⟩ := h
  exact keys_nodup h2 h3
theorem MapIs.oks {w : World} {b : Nat} {L : List (α × β)} (h : MapIs ok kv vv w b L) : ∀ c ∈ L, ok c.1 := by
  obtain ⟨es, clock, _, _, _, h4⟩ := h
  exact h4

theorem at_list {es : Array MapEntry} {L : List (α × β)} (he : es.toList.map (fun e => (e.key, e.val)) = L.map (fun c => (kv c.1, vv c.2))) {j : Nat} {e : MapEntry} (hj : es.toList[j]? = some e) : ∃ c, L[j]? = some c ∧ e.key = kv c.1 ∧ e.val = vv c.2 := by
  have := congrArg (fun l => l[j]?) he
  simp only [List.getElem?_map, hj, Option.map_some] at this
  cases hc : L[j]? with
  | none => rw [hc] at this; cases this
  | some c => rw [hc] at this; simp at this; exact ⟨c, rfl, this.1, this.2⟩
theorem in_list {es : Array MapEntry} {L : List (α × β)} (he : es.toList.map (fun e => (e.key, e.val)) = L.map (fun c => (kv c.1, vv c.2))) {c : α × β} (hc : c ∈ L) : ∃ e ∈ es.toList, e.key = kv c.1 ∧ e.val = vv c.2 := by
  have : (kv c.1, vv c.2) ∈ L.map (fun c => (kv c.1, vv c.2)) := List.mem_map.2 ⟨c, hc, rfl⟩
  rw [← he] at this
  obtain ⟨e, he, h⟩ := List.mem_map.1 this
  injection h with h1 h2
  exact ⟨e, he, h1, h2⟩
theorem keys_ok (M : MK P k ok kv) {es : Array MapEntry} {L : List (α × β)} (he : es.toList.map (fun e => (e.key, e.val)) = L.map (fun c => (kv c.1, vv c.2))) (hok : ∀ c ∈ L, ok c.1) : ∀ e ∈ es.toList, ∃ l, keyOf P k e.key = some l := by
  intro e hm
  obtain ⟨j, hj⟩ := List.mem_iff_getElem?.1 hm
  obtain ⟨c, hc, h1, _⟩ := at_list he hj
  rw [h1]
  exact M.key _ (hok c (List.mem_of_getElem? hc))

/-- Where a key is. -/
theorem MapIs.find (M : MK P k ok kv) {w : World} {es : Array MapEntry} {clock : Nat} (_hs : Stamped es clock) {L : List (α × β)} (he : es.toList.map (fun e => (e.key, e.val)) = L.map (fun c => (kv c.1, vv c.2))) (hok : ∀ c ∈ L, ok c.1) {a : α} (ha : ok a) :
    ((Instr.findKey k (kv a) es.toList).run P w = .ok none w ∧ (∀ e ∈ es.toList, e.key ≠ kv a) ∧ ∀ c ∈ L, c.1 ≠ a) ∨
    ∃ j e v, (Instr.findKey k (kv a) es.toList).run P w = .ok (some (j, e.val)) w ∧ es.toList[j]? = some e ∧ e.key = kv a ∧ L[j]? = some (a, v) ∧ e.val = vv v := by
  obtain ⟨l, hl⟩ := M.key a ha
  rcases M.K.find w hl es.toList (keys_ok M he hok) with ⟨h1, h2⟩ | ⟨j, e, h1, h2, h3⟩
  · refine Or.inl ⟨h1, h2, fun c hc e => ?_⟩
    obtain ⟨x, hx, hk, _⟩ := in_list he hc
    exact h2 x hx (by rw [hk, e])
  · obtain ⟨c, hc, hk, hv⟩ := at_list he h2
    have : c.1 = a := M.inj _ _ (by rw [← hk, h3])
    subst this
    exact Or.inr ⟨j, e, c.2, h1, h2, h3, hc, hv⟩

theorem MapIs.len {t e : TypeId} (ht : P.underlying t = some (.map k e)) {w : World} {b : Nat} {L : List (α × β)} (h : MapIs ok kv vv w b L) (ty : TypeId) : (Builtin.len_ #[t] ty #[.map (some b)]).run P w = .ok (.int .i64 L.length) w := by
  obtain ⟨es, clock, hb, hs, he, hok⟩ := h
  have hl : es.size = L.length := by
    have := congrArg List.length he
    simpa using this
  simp [Builtin.len_, run_underlying ht, MapKept.run_getObj_map hb, Result.andThen, hl, goInt]

variable [DecidableEq α]
/-- 'm[a]' and 'm[a]' with ok. -/
theorem MapIs.look (M : MK P k ok kv) {t e : TypeId} (ht : P.underlying t = some (.map k e)) {w : World} {z : Value} (hz : (zeroValue e).run P w = .ok z w) {b : Nat} {L : List (α × β)} (h : MapIs ok kv vv w b L) {a : α} (ha : ok a) (c : Bool) :
    (Instr.lookup t (.map (some b)) (kv a) c).run P w = .ok (match asc L a with | none => if c then .tuple #[z, .bool false] else z | some v => if c then .tuple #[vv v, .bool true] else vv v) w := by
  obtain ⟨es, clock, hb, hs, he, hok⟩ := h
  obtain ⟨l, hl⟩ := M.key a ha
  rcases MapIs.find (w := w) M hs he hok ha with ⟨h1, _, h2⟩ | ⟨j, x, v, h1, h2, h3, h4, h5⟩
  · rw [asc_none h2]
    simp [Instr.lookup, run_underlying ht, MapKept.run_getObj_map hb, M.K.check w _ hl, h1, hz, Result.andThen]
  · have ea : asc L a = some v := asc_at (keys_nodup hs he) h4
    simp only [ea]
    simp [Instr.lookup, run_underlying ht, MapKept.run_getObj_map hb, M.K.check w _ hl, h1, h5, Result.andThen]

theorem setL_enc {es : Array MapEntry} {clock : Nat} (hs : Stamped es clock) {L : List (α × β)} (he : es.toList.map (fun e => (e.key, e.val)) = L.map (fun c => (kv c.1, vv c.2))) {j : Nat} {a : α} {v0 : β} (h4 : L[j]? = some (a, v0)) (v : β) :
    (es.modify j (fun e' => { e' with key := kv a, val := vv v })).toList.map (fun e => (e.key, e.val)) = (setL L a v).map (fun c => (kv c.1, vv c.2)) := by
  rw [show setL L a v = L.set j (a, v) from setL_at (keys_nodup hs he) h4 v, Array.toList_modify]
  have hj : j < L.length := (List.getElem?_eq_some_iff.1 h4).1
  rw [List.map_set, ← he]
  apply List.ext_getElem?
  intro i
  rw [List.getElem?_map, List.getElem?_modify, List.getElem?_set]
  have hl : (es.toList.map (fun e => (e.key, e.val))).length = L.length := by rw [he]; simp
  by_cases hij : j = i
  · subst hij
    rw [if_pos rfl, if_pos (by rw [hl]; exact hj)]
    have hj' : j < es.toList.length := by rw [List.length_map] at hl; rw [hl]; exact hj
    rw [List.getElem?_eq_getElem hj']
    simp
  · rw [if_neg hij, List.getElem?_map]
    cases es.toList[i]? <;> simp [hij]

/-- 'm[a] op= v': the entry, and then the store into it, with nothing written into the map between. -/
theorem MapIs.entry (M : MK P k ok kv) {t e : TypeId} (ht : P.underlying t = some (.map k e)) {z : β} (hz : ∀ u : World, (zeroValue e).run P u = .ok (vv z) u) {w : World} {b : Nat} {L : List (α × β)} (h : MapIs ok kv vv w b L) {a : α} (ha : ok a) :
    ∃ (v0 : Value) (st : Nat) (w1 : World), (Instr.mapEntry t (.map (some b)) (kv a)).run P w = .ok (.tuple #[v0, .int .i64 st]) w1 ∧ w.grownBy w1 (some b) ∧ w1.heap.size = w.heap.size ∧ MapIs ok kv vv w1 b (setL L a ((asc L a).getD z)) ∧
      ∀ (w2 : World) (v : β), w2.heap[b]? = w1.heap[b]? → ∃ w3, (Instr.entryStore t (.map (some b)) (.int .i64 st) (vv v)).run P w2 = .ok () w3 ∧ MapIs ok kv vv w3 b (setL L a v) ∧ w2.grownBy w3 (some b) ∧ w3.heap.size = w2.heap.size := by
  obtain ⟨es, clock, hb, hs, he, hok⟩ := h
  obtain ⟨l, hl⟩ := M.key a ha
  have gset : ∀ (W : World) (o o' : Obj), W.heap[b]? = some o → W.grownBy (setBlock W b o') (some b) ∧ (setBlock W b o').heap.size = W.heap.size ∧ (setBlock W b o').heap[b]? = some o' := by
    intro W o o' ho
    have hlt : b < W.heap.size := (Array.getElem?_eq_some_iff.1 ho).1
    refine ⟨⟨rfl, rfl, rfl, by simp [setBlock], fun i hi hne => ?_⟩, by simp [setBlock], by simp [setBlock, hlt]⟩
    have : b ≠ i := fun e => hne (by rw [e])
    simp [setBlock, this]
  rcases MapIs.find (w := w) M hs he hok ha with ⟨h1, h0, h2⟩ | ⟨j, x, v0, h1, h2, h3, h4, h5⟩
  · refine ⟨vv z, clock, setBlock w b (.map (es.push ⟨kv a, vv z, clock⟩) (clock + 1)), ?_, (gset w _ _ hb).1, (gset w _ _ hb).2.1, ⟨_, _, (gset w _ _ hb).2.2, stamped_push hs h0, ?_, ?_⟩, fun w2 v hw2 => ?_⟩
    · simp [goInt, Instr.mapEntry, run_underlying ht, MapKept.run_getObj_map hb, M.K.check w false hl, h1, hz, MapKept.run_setObj_map _ hb, Result.andThen, setBlock]
    · rw [setL_none h2, asc_none h2]
      simp [he]
    · intro c hc
      rw [setL_none h2] at hc
      rcases List.mem_append.1 hc with hc | hc
      · exact hok c hc
      · simp at hc; subst hc; exact ha
    · rw [(gset w _ _ hb).2.2] at hw2
      have hidx : (es.push ⟨kv a, vv z, clock⟩).findIdx? (fun e => ((e.born : Nat) : Int) == ((clock : Nat) : Int)) = some es.size := by
        rw [WideElems.findIdx_arr]
        exact WideElems.findIdx_born (l := (es.push ⟨kv a, vv z, clock⟩).toList) (j := es.size) (e0 := ⟨kv a, vv z, clock⟩) (stamped_push hs h0).2.1 (by simp)
      have hmod : (es.push ⟨kv a, vv z, clock⟩).modify es.size (fun e => { e with val := vv v }) = es.push ⟨kv a, vv v, clock⟩ := by
        apply Array.ext'
        rw [Array.toList_modify, Array.toList_push, Array.toList_push, ← Array.length_toList, WideElems.modify_last]
      refine ⟨setBlock w2 b (.map (es.push ⟨kv a, vv v, clock⟩) (clock + 1)), ?_, ⟨_, _, (gset w2 _ _ hw2).2.2, stamped_push hs h0, ?_, ?_⟩, (gset w2 _ _ hw2).1, (gset w2 _ _ hw2).2.1⟩
      · simp [Instr.entryStore, MapKept.run_getObj_map hw2, asInt, asIntOf, hidx, hmod, MapKept.run_setObj_map _ hw2, Result.andThen, setBlock]
      · rw [setL_none h2]
        simp [he]
      · intro c hc
        rw [setL_none h2] at hc
        rcases List.mem_append.1 hc with hc | hc
        · exact hok c hc
        · simp at hc; subst hc; exact ha
  · have hj : es[j]? = some x := by simpa using h2
    have hsame : es.modify j (fun e => { e with key := kv a }) = es := by
      apply Array.ext'
      rw [Array.toList_modify, modify_eq_set _ _ _ _ h2]
      have : ({ x with key := kv a } : MapEntry) = x := by rw [← h3]
      rw [this]
      exact WideElems.set_self _ _ _ h2
    have ea : asc L a = some v0 := asc_at (keys_nodup hs he) h4
    have eL : setL L a ((asc L a).getD z) = L := by
      rw [ea, show setL L a ((some v0).getD z) = L.set j (a, v0) from setL_at (keys_nodup hs he) h4 v0]
      exact WideElems.set_self _ _ _ h4
    refine ⟨x.val, x.born, setBlock w b (.map es clock), ?_, (gset w _ _ hb).1, (gset w _ _ hb).2.1, by rw [eL]; exact ⟨es, clock, (gset w _ _ hb).2.2, hs, he, hok⟩, fun w2 v hw2 => ?_⟩
    · simp [goInt, Instr.mapEntry, run_underlying ht, MapKept.run_getObj_map hb, M.K.check w false hl, h1, hj, h3, M.K.stays w hl, hsame, MapKept.run_setObj_map _ hb, Result.andThen, setBlock]
    · rw [(gset w _ _ hb).2.2] at hw2
      have hidx : es.findIdx? (fun e => ((e.born : Nat) : Int) == ((x.born : Nat) : Int)) = some j := by
        rw [WideElems.findIdx_arr]
        exact WideElems.findIdx_born hs.2.1 h2
      have hmod : es.modify j (fun e => { e with val := vv v }) = es.modify j (fun e' => { e' with key := kv a, val := vv v }) := by
        apply Array.ext'
        rw [Array.toList_modify, Array.toList_modify, modify_eq_set _ _ _ _ h2, modify_eq_set _ _ _ _ h2, ← h3]
      refine ⟨setBlock w2 b (.map (es.modify j (fun e' => { e' with key := kv a, val := vv v })) clock), ?_, ⟨_, _, (gset w2 _ _ hw2).2.2, ?_, setL_enc hs he h4 v, ?_⟩, (gset w2 _ _ hw2).1, (gset w2 _ _ hw2).2.1⟩
      · simp [Instr.entryStore, MapKept.run_getObj_map hw2, asInt, asIntOf, hidx, hmod, MapKept.run_setObj_map _ hw2, Result.andThen, setBlock]
      · refine stamped_modify hs _ _ (fun _ _ => rfl) (fun e' _ he' => ?_)
        rw [hj] at he'
        cases he'
        exact h3.symm
      · intro c hc
        have : c.1 ∈ (setL L a v).map (·.1) := List.mem_map.2 ⟨c, hc, rfl⟩
        rcases (setL_keys L a v c.1).1 this with h | h
        · rw [h]; exact ha
        · obtain ⟨d, hd, e⟩ := List.mem_map.1 h
          rw [← e]
          exact hok d hd
end
end Go.Proofs.Ytddjkkmdcdiofaa
