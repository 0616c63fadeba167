/- Contracts of the walk, part 2. -/
import Derived.Maps.RangeWalk
import Derived.WideKeyEntry
import Derived.WalkKit
import Derived.Laws.AppendOwn
import Derived.Laws.OwnMore
import Derived.OwnWalk
import Derived.ArgAppend
import Derived.Test.YtmiknfneeipkeaaGreatQ01
namespace Go.Proofs.YtmiknfneeipkeaaGreat
open Go.RowKit Go.MapKept Go.ChangeMaps
open Go.Maps (Keyed)

section
variable {α β : Type} [DecidableEq α]

/-- What the list has at a key. -/
def asc : List (α × β) → α → Option β
  | [], _ => none
  | c :: L, a => if c.1 = a then some c.2 else asc L a
/-- The list with v at a key. -/
def setL : List (α × β) → α → β → List (α × β)
  | [], a, v => [(a, v)]
  | c :: L, a, v => if c.1 = a then (a, v) :: L else c :: setL L a v
theorem asc_none {L : List (α × β)} {a : α} (h : ∀ c ∈ L, c.1 ≠ a) : asc L a = none := by
  induction L with
  | nil => rfl
  | cons c L ih => rw [asc, if_neg (h c (by simp)), ih (fun c hc => h c (by simp [hc]))]
theorem asc_at {L : List (α × β)} (hn : (L.map (·.1)).Nodup) {j : Nat} {c : α × β} (h : L[j]? = some c) : asc L c.1 = some c.2 := by
  induction L generalizing j with
  | nil => simp at h
  | cons d L ih =>
    simp only [List.map_cons, List.nodup_cons] at hn
    cases j with
    | zero => simp at h; subst h; simp [asc]
    | succ j =>
      simp only [List.getElem?_cons_succ] at h
      have : d.1 ≠ c.1 := fun e => hn.1 (by rw [e]; exact List.mem_map.2 ⟨c, List.mem_of_getElem? h, rfl⟩)
      rw [asc, if_neg this, ih hn.2 h]
theorem asc_mem {L : List (α × β)} (hn : (L.map (·.1)).Nodup) {c : α × β} (h : c ∈ L) : asc L c.1 = some c.2 := by
  obtain ⟨j, hj⟩ := List.mem_iff_getElem?.1 h
  exact asc_at hn hj
theorem mem_of_asc {L : List (α × β)} {a : α} {v : β} (h : asc L a = some v) : (a, v) ∈ L := by
  induction L with
  | nil => cases h
  | cons c L ih =>
    rw [asc] at h
    split at h
    · rename_i e
      injection h with h
      subst e h
      simp
    · exact List.mem_cons_of_mem _ (ih h)
theorem setL_none {L : List (α × β)} {a : α} (h : ∀ c ∈ L, c.1 ≠ a) (v : β) : setL L a v = L ++ [(a, v)] := by
  induction L with
  | nil => rfl
  | cons c L ih => rw [setL, if_neg (h c (by simp)), ih (fun c hc => h c (by simp [hc]))]; rfl
theorem setL_at {L : List (α × β)} (hn : (L.map (·.1)).Nodup) {j : Nat} {c : α × β} (h : L[j]? = some c) (v : β) : setL L c.1 v = L.set j (c.1, v) := by
  induction L generalizing j with
  | nil => simp at h
  | cons d L ih =>
    simp only [List.map_cons, List.nodup_cons] at hn
    cases j with
    | zero => simp at h; subst h; simp [setL]
    | succ j =>
      simp only [List.getElem?_cons_succ] at h
      have : d.1 ≠ c.1 := fun e => hn.1 (by rw [e]; exact List.mem_map.2 ⟨c, List.mem_of_getElem? h, rfl⟩)
      rw [setL, if_neg this, ih hn.2 h]
      rfl
theorem asc_setL (L : List (α × β)) (a a' : α) (v : β) : asc (setL L a v) a' = if a = a' then some v else asc L a' := by
  induction L with
  | nil => simp [setL, asc]
  | cons c L ih =>
    rw [setL]
    split
    · rename_i e
      subst e
      simp only [asc]
      split <;> rfl
    · rename_i e
      simp only [asc, ih]
      split
      · rename_i e2
        rw [if_neg (fun e3 => e (e2.trans e3.symm))]
      · rfl
theorem setL_keys (L : List (α × β)) (a : α) (v : β) (a' : α) : a' ∈ (setL L a v).map (·.1) ↔ a' = a ∨ a' ∈ L.map (·.1) := by
  induction L with
  | nil => simp [setL]
  | cons c L ih =>
    rw [setL]
    split
    · rename_i e; subst e; simp
    · rw [List.map_cons, List.mem_cons, ih, List.map_cons, List.mem_cons]
      constructor <;> rintro (h | h | h) <;> simp [h]
theorem setL_length (L : List (α × β)) (a : α) (v : β) : (setL L a v).length ≤ L.length + 1 := by
  induction L with
  | nil => simp [setL]
  | cons c L ih => rw [setL]; split <;> simp <;> omega
end

section
variable {α β : Type}
variable (P : Program) (k : TypeId) (ok : α → Prop) (kv : α → Value) (vv : β → Value)

/-- What a map's keys must be. -/
structure MK : Prop where
  K : Keyed P k
  key : ∀ a, ok a → ∃ l, keyOf P k (kv a) = some l
  inj : ∀ a b, kv a = kv b → a = b

/-- Block b is a map that holds the pairs L, in the order in which the keys were laid. -/
def MapIs (w : World) (b : Nat) (L : List (α × β)) : Prop :=
  ∃ es clock, w.heap[b]? = some (.map es clock) ∧ Stamped es clock ∧ es.toList.map (fun e => (e.key, e.val)) = L.map (fun c => (kv c.1, vv c.2)) ∧ ∀ c ∈ L, ok c.1

variable {P k ok kv vv}
theorem MapIs.lt {w : World} {b : Nat} {L : List (α × β)} (h : MapIs ok kv vv w b L) : b < w.heap.size := by
  obtain ⟨es, clock, hb, _⟩ := h
  exact (Array.getElem?_eq_some_iff.1 hb).1
theorem MapIs.made (w : World) : MapIs ok kv vv (w.alloc (.map #[] 0)) w.heap.size ([] : List (α × β)) :=
  ⟨#[], 0, (MapKept.heap_alloc w _).1, stamped_empty 0, rfl, by simp⟩
theorem MapIs.same {w w' : World} {b : Nat} {L : List (α × β)} (h : MapIs ok kv vv w b L) (hb : w'.heap[b]? = w.heap[b]?) : MapIs ok kv vv w' b L := by
  obtain ⟨es, clock, h1, h2⟩ := h
  exact ⟨es, clock, hb.trans h1, h2⟩
theorem MapIs.kept {w w' : World} {b : Nat} {L : List (α × β)} {row : Option Nat} (h : MapIs ok kv vv w b L) (hg : w.grownBy w' row) (hne : some b ≠ row) : MapIs ok kv vv w' b L := h.same (hg.block b h.lt hne)
theorem MapIs.on {w w' : World} {b : Nat} {L : List (α × β)} (h : MapIs ok kv vv w b L) (hb : Below w.heap.size w w') : MapIs ok kv vv w' b L := h.same (hb.block b h.lt)
theorem MapIs.alloc {w : World} {b : Nat} {L : List (α × β)} (h : MapIs ok kv vv w b L) (o : Obj) : MapIs ok kv vv (w.alloc o) b L := h.on ((Below.refl _ _).alloc (Nat.le_refl _) o)

theorem keys_nodup {es : Array MapEntry} {clock : Nat} (hs : Stamped es clock) {L : List (α × β)} (he : es.toList.map (fun e => (e.key, e.val)) = L.map (fun c => (kv c.1, vv c.2))) : (L.map (·.1)).Nodup := by
  have h1 : (L.map (fun c => kv c.1)).Nodup := by
    have : es.toList.map (·.key) = L.map (fun c => kv c.1) := by
      have := congrArg (List.map Prod.fst) he
      simpa [Function.comp_def] using this
    rw [← this]
    exact hs.2.2
  have h2 : L.map (fun c => kv c.1) = (L.map (·.1)).map kv := by simp
  rw [h2] at h1
  exact List.Pairwise.of_map kv (fun a b (hne : kv a ≠ kv b) e => hne (by rw [e])) h1
theorem MapIs.nodup {w : World} {b : Nat} {L : List (α × β)} (h : MapIs ok kv vv w b L) : (L.map (·.1)).Nodup := by
  obtain ⟨es, clock, h1, h2, h3, _⟩ := h
  exact keys_nodup h2 h3
theorem MapIs.oks {w : World} {b : Nat} {L : List (α × β)} (h : MapIs ok kv vv w b L) : ∀ c ∈ L, ok c.1 := by
  obtain ⟨es, clock, _, _, _, h4⟩ := h
  exact h4

theorem at_list {es : Array MapEntry} {L : List (α × β)} (he : es.toList.map (fun e => (e.key, e.val)) = L.map (fun c => (kv c.1, vv c.2))) {j : Nat} {e : MapEntry} (hj : es.toList[j]? = some e) : ∃ c, L[j]? = some c ∧ e.key = kv c.1 ∧ e.val = vv c.2 := by
  have := congrArg (fun l => l[j]?) he
  simp only [List.getElem?_map, hj, Option.map_some] at this
  cases hc : L[j]? with
  | none => rw [hc] at this; cases this
  | some c => rw [hc] at this; simp at this; exact ⟨c, rfl, this.1, this.2⟩
theorem in_list {es : Array MapEntry} {L : List (α × β)} (he : es.toList.map (fun e => (e.key, e.val)) = L.map (fun c => (kv c.1, vv c.2))) {c : α × β} (hc : c ∈ L) : ∃ e ∈ es.toList, e.key = kv c.1 ∧ e.val = vv c.2 := by
  have : (kv c.1, vv c.2) ∈ L.map (fun c => (kv c.1, vv c.2)) := List.mem_map.2 ⟨c, hc, rfl⟩
  rw [← he] at this
  obtain ⟨e, he, h⟩ := List.mem_map.1 this
  injection h with h1 h2
  exact ⟨e, he, h1, h2⟩
theorem keys_ok (M : MK P k ok kv) {es : Array MapEntry} {L : List (α × β)} (he : es.toList.map (fun e => (e.key, e.val)) = L.map (fun c => (kv c.1, vv c.2))) (hok : ∀ c ∈ L, ok c.1) : ∀ e ∈ es.toList, ∃ l, keyOf P k e.key = some l := by
  intro e hm
  obtain ⟨j, hj⟩ := List.mem_iff_getElem?.1 hm
  obtain ⟨c, hc, h1, _⟩ := at_list he hj
  rw [h1]
  exact M.key _ (hok c (List.mem_of_getElem? hc))

/-- Where a key is. -/
theorem MapIs.find (M : MK P k ok kv) {w : World} {es : Array MapEntry} {clock : Nat} (_hs : Stamped es clock) {L : List (α × β)} (he : es.toList.map (fun e => (e.key, e.val)) = L.map (fun c => (kv c.1, vv c.2))) (hok : ∀ c ∈ L, ok c.1) {a : α} (ha : ok a) :
    ((Instr.findKey k (kv a) es.toList).run P w = .ok none w ∧ (∀ e ∈ es.toList, e.key ≠ kv a) ∧ ∀ c ∈ L, c.1 ≠ a) ∨
    ∃ j e v, (Instr.findKey k (kv a) es.toList).run P w = .ok (some (j, e.val)) w ∧ es.toList[j]? = some e ∧ e.key = kv a ∧ L[j]? = some (a, v) ∧ e.val = vv v := by
  obtain ⟨l, hl⟩ := M.key a ha
  rcases M.K.find w hl es.toList (keys_ok M he hok) with ⟨h1, h2⟩ | ⟨j, e, h1, h2, h3⟩
  · refine Or.inl ⟨h1, h2, fun c hc e => ?_⟩
    obtain ⟨x, hx, hk, _⟩ := in_list he hc
    exact h2 x hx (by rw [hk, e])
  · obtain ⟨c, hc, hk, hv⟩ := at_list he h2
    have : c.1 = a := M.inj _ _ (by rw [← hk, h3])
    subst this
    exact Or.inr ⟨j, e, c.2, h1, h2, h3, hc, hv⟩

theorem MapIs.len {t e : TypeId} (ht : P.underlying t = some (.map k e)) {w : World} {b : Nat} {L : List (α × β)} (h : MapIs ok kv vv w b L) (ty : TypeId) : (Builtin.len_ #[t] ty #[.map (some b)]).run P w = .ok (.int .i64 L.length) w := by
  obtain ⟨es, clock, hb, hs, he, hok⟩ := h
  have hl : es.size = L.length := by
    have := congrArg List.length he
    simpa using this
  simp [Builtin.len_, run_underlying ht, MapKept.run_getObj_map hb, Result.andThen, hl, goInt]

variable [DecidableEq α]
/-- 'm[a]' and 'm[a]' with ok. -/
theorem MapIs.look (M : MK P k ok kv) {t e : TypeId} (ht : P.underlying t = some (.map k e)) {w : World} {z : Value} (hz : (zeroValue e).run P w = .ok z w) {b : Nat} {L : List (α × β)} (h : MapIs ok kv vv w b L) {a : α} (ha : ok a) (c : Bool) :
    (Instr.lookup t (.map (some b)) (kv a) c).run P w = .ok (match asc L a with | none => if c then .tuple #[z, .bool false] else z | some v => if c then .tuple #[vv v, .bool true] else vv v) w := by
  obtain ⟨es, clock, hb, hs, he, hok⟩ := h
  obtain ⟨l, hl⟩ := M.key a ha
  rcases MapIs.find (w := w) M hs he hok ha with ⟨h1, _, h2⟩ | ⟨j, x, v, h1, h2, h3, h4, h5⟩
  · rw [asc_none h2]
    simp [Instr.lookup, run_underlying ht, MapKept.run_getObj_map hb, M.K.check w _ hl, h1, hz, Result.andThen]
  · have ea : asc L a = some v := asc_at (keys_nodup hs he) h4
    simp only [ea]
    simp [Instr.lookup, run_underlying ht, MapKept.run_getObj_map hb, M.K.check w _ hl, h1, h5, Result.andThen]

theorem setL_enc {es : Array MapEntry} {clock : Nat} (hs : Stamped es clock) {L : List (α × β)} (he : es.toList.map (fun e => (e.key, e.val)) = L.map (fun c => (kv c.1, vv c.2))) {j : Nat} {a : α} {v0 : β} (h4 : L[j]? = some (a, v0)) (v : β) :
    (es.modify j (fun e' => { e' with key := kv a, val := vv v })).toList.map (fun e => (e.key, e.val)) = (setL L a v).map (fun c => (kv c.1, vv c.2)) := by
  rw [show setL L a v = L.set j (a, v) from setL_at (keys_nodup hs he) h4 v, Array.toList_modify]
  have hj : j < L.length := (List.getElem?_eq_some_iff.1 h4).1
  rw [List.map_set, ← he]
  apply List.ext_getElem?
  intro i
  rw [List.getElem?_map, List.getElem?_modify, List.getElem?_set]
  have hl : (es.toList.map (fun e => (e.key, e.val))).length = L.length := by rw [he]; simp
  by_cases hij : j = i
  · subst hij
    rw [if_pos rfl, if_pos (by rw [hl]; exact hj)]
    have hj' : j < es.toList.length := by rw [List.length_map] at hl; rw [hl]; exact hj
    rw [List.getElem?_eq_getElem hj']
    simp
  · rw [if_neg hij, List.getElem?_map]
    cases es.toList[i]? <;> simp [hij]

/-- 'm[a] op= v': the entry, and then the store into it, with nothing written into the map between. -/
theorem MapIs.entry (M : MK P k ok kv) {t e : TypeId} (ht : P.underlying t = some (.map k e)) {z : β} (hz : ∀ u : World, (zeroValue e).run P u = .ok (vv z) u) {w : World} {b : Nat} {L : List (α × β)} (h : MapIs ok kv vv w b L) {a : α} (ha : ok a) :
    ∃ (v0 : Value) (st : Nat) (w1 : World), (Instr.mapEntry t (.map (some b)) (kv a)).run P w = .ok (.tuple #[v0, .int .i64 st]) w1 ∧ w.grownBy w1 (some b) ∧ w1.heap.size = w.heap.size ∧ MapIs ok kv vv w1 b (setL L a ((asc L a).getD z)) ∧
      ∀ (w2 : World) (v : β), w2.heap[b]? = w1.heap[b]? → ∃ w3, (Instr.entryStore t (.map (some b)) (.int .i64 st) (vv v)).run P w2 = .ok () w3 ∧ MapIs ok kv vv w3 b (setL L a v) ∧ w2.grownBy w3 (some b) ∧ w3.heap.size = w2.heap.size := by
  obtain ⟨es, clock, hb, hs, he, hok⟩ := h
  obtain ⟨l, hl⟩ := M.key a ha
  have gset : ∀ (W : World) (o o' : Obj), W.heap[b]? = some o → W.grownBy (setBlock W b o') (some b) ∧ (setBlock W b o').heap.size = W.heap.size ∧ (setBlock W b o').heap[b]? = some o' := by
    intro W o o' ho
    have hlt : b < W.heap.size := (Array.getElem?_eq_some_iff.1 ho).1
    refine ⟨⟨rfl, rfl, rfl, by simp [setBlock], fun i hi hne => ?_⟩, by simp [setBlock], by simp [setBlock, hlt]⟩
    have : b ≠ i := fun e => hne (by rw [e])
    simp [setBlock, this]
  rcases MapIs.find (w := w) M hs he hok ha with ⟨h1, h0, h2⟩ | ⟨j, x, v0, h1, h2, h3, h4, h5⟩
  · refine ⟨vv z, clock, setBlock w b (.map (es.push ⟨kv a, vv z, clock⟩) (clock + 1)), ?_, (gset w _ _ hb).1, (gset w _ _ hb).2.1, ⟨_, _, (gset w _ _ hb).2.2, stamped_push hs h0, ?_, ?_⟩, fun w2 v hw2 => ?_⟩
    · simp [goInt, Instr.mapEntry, run_underlying ht, MapKept.run_getObj_map hb, M.K.check w false hl, h1, hz, MapKept.run_setObj_map _ hb, Result.andThen, setBlock]
    · rw [setL_none h2, asc_none h2]
      simp [he]
    · intro c hc
      rw [setL_none h2] at hc
      rcases List.mem_append.1 hc with hc | hc
      · exact hok c hc
      · simp at hc; subst hc; exact ha
    · rw [(gset w _ _ hb).2.2] at hw2
      have hidx : (es.push ⟨kv a, vv z, clock⟩).findIdx? (fun e => ((e.born : Nat) : Int) == ((clock : Nat) : Int)) = some es.size := by
        rw [WideElems.findIdx_arr]
        exact WideElems.findIdx_born (l := (es.push ⟨kv a, vv z, clock⟩).toList) (j := es.size) (e0 := ⟨kv a, vv z, clock⟩) (stamped_push hs h0).2.1 (by simp)
      have hmod : (es.push ⟨kv a, vv z, clock⟩).modify es.size (fun e => { e with val := vv v }) = es.push ⟨kv a, vv v, clock⟩ := by
        apply Array.ext'
        rw [Array.toList_modify, Array.toList_push, Array.toList_push, ← Array.length_toList, WideElems.modify_last]
      refine ⟨setBlock w2 b (.map (es.push ⟨kv a, vv v, clock⟩) (clock + 1)), ?_, ⟨_, _, (gset w2 _ _ hw2).2.2, stamped_push hs h0, ?_, ?_⟩, (gset w2 _ _ hw2).1, (gset w2 _ _ hw2).2.1⟩
      · simp [Instr.entryStore, MapKept.run_getObj_map hw2, asInt, asIntOf, hidx, hmod, MapKept.run_setObj_map _ hw2, Result.andThen, setBlock]
      · rw [setL_none h2]
        simp [he]
      · intro c hc
        rw [setL_none h2] at hc
        rcases List.mem_append.1 hc with hc | hc
        · exact hok c hc
        · simp at hc; subst hc; exact ha
  · have hj : es[j]? = some x := by simpa using h2
    have hsame : es.modify j (fun e => { e with key := kv a }) = es := by
      apply Array.ext'
      rw [Array.toList_modify, modify_eq_set _ _ _ _ h2]
      have : ({ x with key := kv a } : MapEntry) = x := by rw [← h3]
      rw [this]
      exact WideElems.set_self _ _ _ h2
    have ea : asc L a = some v0 := asc_at (keys_nodup hs he) h4
    have eL : setL L a ((asc L a).getD z) = L := by
      rw [ea, show setL L a ((some v0).getD z) = L.set j (a, v0) from setL_at (keys_nodup hs he) h4 v0]
      exact WideElems.set_self _ _ _ h4
    refine ⟨x.val, x.born, setBlock w b (.map es clock), ?_, (gset w _ _ hb).1, (gset w _ _ hb).2.1, by rw [eL]; exact ⟨es, clock, (gset w _ _ hb).2.2, hs, he, hok⟩, fun w2 v hw2 => ?_⟩
    · simp [goInt, Instr.mapEntry, run_underlying ht, MapKept.run_getObj_map hb, M.K.check w false hl, h1, hj, h3, M.K.stays w hl, hsame, MapKept.run_setObj_map _ hb, Result.andThen, setBlock]
    · rw [(gset w _ _ hb).2.2] at hw2
      have hidx : es.findIdx? (fun e => ((e.born : Nat) : Int) == ((x.born : Nat) : Int)) = some j := by
        rw [WideElems.findIdx_arr]
        exact WideElems.findIdx_born hs.2.1 h2
      have hmod : es.modify j (fun e => { e with val := vv v }) = es.modify j (fun e' => { e' with key := kv a, val := vv v }) := by
        apply Array.ext'
        rw [Array.toList_modify, Array.toList_modify, modify_eq_set _ _ _ _ h2, modify_eq_set _ _ _ _ h2, ← h3]
      refine ⟨setBlock w2 b (.map (es.modify j (fun e' => { e' with key := kv a, val := vv v })) clock), ?_, ⟨_, _, (gset w2 _ _ hw2).2.2, ?_, setL_enc hs he h4 v, ?_⟩, (gset w2 _ _ hw2).1, (gset w2 _ _ hw2).2.1⟩
      · simp [Instr.entryStore, MapKept.run_getObj_map hw2, asInt, asIntOf, hidx, hmod, MapKept.run_setObj_map _ hw2, Result.andThen, setBlock]
      · refine stamped_modify hs _ _ (fun _ _ => rfl) (fun e' _ he' => ?_)
        rw [hj] at he'
        cases he'
        exact h3.symm
      · intro c hc
        have : c.1 ∈ (setL L a v).map (·.1) := List.mem_map.2 ⟨c, hc, rfl⟩
        rcases (setL_keys L a v c.1).1 this with h | h
        · rw [h]; exact ha
        · obtain ⟨d, hd, e⟩ := List.mem_map.1 h
          rw [← e]
          exact hok d hd
end
end Go.Proofs.YtmiknfneeipkeaaGreat
namespace Go.Proofs.YtmiknfneeipkeaaGreat
open Go.RowKit Go.MapKept Go.ChangeMaps
open Go.Maps (Keyed)

theorem nodup_idx {γ : Type} {l : List γ} (hn : l.Nodup) {i j : Nat} (hi : i < l.length) (hj : j < l.length) (h : l[i]? = l[j]?) : i = j := by
  rw [List.getElem?_eq_getElem hi, List.getElem?_eq_getElem hj] at h
  injection h with h
  rcases Nat.lt_trichotomy i j with h1 | h1 | h1
  · exact absurd h (List.pairwise_iff_getElem.1 hn i j hi hj h1)
  · exact h1
  · exact absurd h.symm (List.pairwise_iff_getElem.1 hn j i hj hi h1)

section
variable {α β : Type}
variable {P : Program} {k : TypeId} {ok : α → Prop} {kv : α → Value} {vv : β → Value}

/-- Block r is an iterator over the map in block b, which holds L; 'done' has come out; cnt pairs are to come. -/
def RIs (ok : α → Prop) (kv : α → Value) (vv : β → Value) (w : World) (b r : Nat) (L done : List (α × β)) (cnt : Nat) : Prop :=
  ∃ (es : Array MapEntry) (clock since : Nat) (seen : Array Nat) (c0 : Nat) (is : List Nat), w.heap[b]? = some (.map es clock) ∧ Stamped es clock ∧ es.toList.map (fun e => (e.key, e.val)) = L.map (fun c => (kv c.1, vv c.2)) ∧ (∀ c ∈ L, ok c.1) ∧
    w.heap[r]? = some (.mapIter (some b) since seen c0) ∧ (∀ x ∈ es.toList, x.born < since) ∧ since ≤ c0 ∧ since ≤ clock ∧ (leftOf es seen).size = cnt ∧
    is.Nodup ∧ is.map (fun i => es.toList[i]?.map (·.born)) = seen.toList.map some ∧ is.map (fun i => L[i]?) = done.map some

theorem RIs.map {w : World} {b r : Nat} {L done : List (α × β)} {cnt : Nat} (h : RIs ok kv vv w b r L done cnt) : MapIs ok kv vv w b L := by
  obtain ⟨es, clock, since, seen, c0, is, h1, h2, h3, h4, _⟩ := h
  exact ⟨es, clock, h1, h2, h3, h4⟩
theorem RIs.lt {w : World} {b r : Nat} {L done : List (α × β)} {cnt : Nat} (h : RIs ok kv vv w b r L done cnt) : r < w.heap.size := by
  obtain ⟨es, clock, since, seen, c0, is, _, _, _, _, h5, _⟩ := h
  exact (Array.getElem?_eq_some_iff.1 h5).1
theorem RIs.ne {w : World} {b r : Nat} {L done : List (α × β)} {cnt : Nat} (h : RIs ok kv vv w b r L done cnt) : r ≠ b := by
  obtain ⟨es, clock, since, seen, c0, is, h1, _, _, _, h5, _⟩ := h
  rintro rfl
  rw [h1] at h5
  cases h5
theorem RIs.left_eq {w : World} {b r : Nat} {L done : List (α × β)} {cnt : Nat} (h : RIs ok kv vv w b r L done cnt) : w.rangeLeft b r = cnt := by
  obtain ⟨es, clock, since, seen, c0, is, h1, _, _, _, h5, _, _, _, h9, _⟩ := h
  simp only [World.rangeLeft, h1, h5]
  exact h9
theorem RIs.kept {w w' : World} {b r : Nat} {L done : List (α × β)} {cnt : Nat} {row : Option Nat} (h : RIs ok kv vv w b r L done cnt) (hg : w.grownBy w' row) (hb : some b ≠ row) (hr : some r ≠ row) : RIs ok kv vv w' b r L done cnt := by
  have l1 := h.map.lt
  have l2 := h.lt
  obtain ⟨es, clock, since, seen, c0, is, h1, h2, h3, h4, h5, h6⟩ := h
  exact ⟨es, clock, since, seen, c0, is, (hg.block b l1 hb).trans h1, h2, h3, h4, (hg.block r l2 hr).trans h5, h6⟩
theorem RIs.alloc {w : World} {b r : Nat} {L done : List (α × β)} {cnt : Nat} (h : RIs ok kv vv w b r L done cnt) (o : Obj) : RIs ok kv vv (w.alloc o) b r L done cnt := h.kept (World.grownBy_alloc w o none) (by simp) (by simp)
theorem RIs.on {w w' : World} {b r : Nat} {L done : List (α × β)} {cnt : Nat} (h : RIs ok kv vv w b r L done cnt) (hb : Below w.heap.size w w') : RIs ok kv vv w' b r L done cnt := h.kept (only_of_below hb none) (by simp) (by simp)

/-- 'range m'. -/
theorem MapIs.range {t e : TypeId} (ht : P.underlying t = some (.map k e)) {w : World} {b : Nat} {L : List (α × β)} (h : MapIs ok kv vv w b L) :
    ∃ w', (Instr.range t (.map (some b))).run P w = .ok (.pointer (some ⟨w.heap.size, 0, none⟩)) w' ∧ RIs ok kv vv w' b w.heap.size L [] L.length ∧ w.grownBy w' none ∧ w'.heap.size = w.heap.size + 1 := by
  have hlt := h.lt
  obtain ⟨es, clock, hb, hs, he, hok⟩ := h
  have hl : es.size = L.length := by
    have := congrArg List.length he
    simpa using this
  refine ⟨_, run_range_map w t k e b es clock ht hb, ⟨es, clock, clock, #[], clock, [], ((MapKept.heap_alloc w _).2 b hlt).trans hb, hs, he, hok, (MapKept.heap_alloc w _).1, hs.1, Nat.le_refl _, Nat.le_refl _, ?_, by simp, rfl, rfl⟩, World.grownBy_alloc w _ none, by simp⟩
  have : leftOf es #[] = es := by unfold leftOf; rw [Array.filter_eq_self]; intro x _; simp
  rw [this, hl]

/-- The step. -/
theorem RIs.next {w : World} {b r : Nat} {L done : List (α × β)} {cnt : Nat} (h : RIs ok kv vv w b r L done cnt) (ty : TypeId) :
    (done.Perm L ∧ (Instr.next (.pointer (some ⟨r, 0, none⟩)) false ty).run P w = .ok (.tuple #[.bool false]) w) ∨
    ∃ c w' cnt', c ∈ L ∧ (Instr.next (.pointer (some ⟨r, 0, none⟩)) false ty).run P w = .ok (.tuple #[.bool true, kv c.1, vv c.2]) w' ∧ RIs ok kv vv w' b r L (done ++ [c]) cnt' ∧ cnt' < cnt ∧ w.grownBy w' (some r) ∧ w'.heap.size = w.heap.size ∧
      (Instr.entry (.pointer (some ⟨r, 0, none⟩))).run P w' = .ok (.tuple #[kv c.1, vv c.2]) w' := by
  have hne := h.ne
  obtain ⟨es, clock, since, seen, c0, is, hb, hs, he, hok, hr, hold, hsc, hsk, rfl, hnd, hseen, hdone⟩ := h
  have hl : es.toList.length = L.length := by
    have := congrArg List.length he
    simpa using this
  rcases run_next_at (P := P) w ty r b since c0 seen es clock hr hb hold hsc with ⟨h0, hrun⟩ | ⟨e, hin, w1, hal, hrun⟩
  · refine Or.inl ⟨?_, hrun⟩
    have hall := all_seen es seen h0
    have hmem : ∀ i, i ∈ is ↔ i ∈ List.range L.length := by
      intro i
      rw [List.mem_range]
      constructor
      · intro hi
        have : L[i]? ∈ is.map (fun i => L[i]?) := List.mem_map.2 ⟨i, hi, rfl⟩
        rw [hdone] at this
        obtain ⟨c, _, hc⟩ := List.mem_map.1 this
        exact (List.getElem?_eq_some_iff.1 hc.symm).1
      · intro hi
        have hi' : i < es.toList.length := by omega
        have h1 := hall es.toList[i] (List.getElem_mem hi')
        have h2 : some (es.toList[i]).born ∈ seen.toList.map some := List.mem_map.2 ⟨_, by simpa using h1, rfl⟩
        rw [← hseen] at h2
        obtain ⟨i', hi'', e2⟩ := List.mem_map.1 h2
        obtain ⟨x, hx, hxb⟩ := Option.map_eq_some_iff.1 e2
        have e3 := born_inj hs.2.1 (List.mem_of_getElem? hx) (List.getElem_mem hi') hxb
        have e4 : es.toList[i']? = es.toList[i]? := by rw [hx, e3, List.getElem?_eq_getElem hi']
        have e5 : i' = i := by
          have hn : es.toList.Nodup := List.Pairwise.of_map (fun x : MapEntry => x.born) (fun a b (hne : a.born ≠ b.born) e => hne (by rw [e])) hs.2.1
          exact nodup_idx hn (List.getElem?_eq_some_iff.1 hx).1 hi' e4
        exact e5 ▸ hi''
    have hp := ((List.perm_ext_iff_of_nodup hnd List.nodup_range).2 hmem).map (fun i => L[i]?)
    have e1 : (List.range L.length).map (fun i => L[i]?) = L.map some := by
      apply List.ext_getElem?
      intro j
      by_cases hj : j < L.length
      · simp [hj]
      · simp [Nat.not_lt.1 hj]
    rw [hdone, e1] at hp
    have := hp.filterMap id
    simpa using this
  · right
    obtain ⟨hem, hes⟩ := mem_left hin
    obtain ⟨i, hi⟩ := List.mem_iff_getElem?.1 hem
    obtain ⟨c, hc, hk, hv⟩ := at_list he hi
    have hr1 : w1.heap[r]? = some (.mapIter (some b) since seen c0) := by rcases hal with rfl | rfl <;> exact hr
    have hb1 : w1.heap[b]? = some (.map es clock) := by rcases hal with rfl | rfl <;> exact hb
    have hset := heap_set (o' := .mapIter (some b) since (seen.push e.born) clock) hr1
    have hb' : (setBlock w1 r (.mapIter (some b) since (seen.push e.born) clock)).heap[b]? = some (.map es clock) := (hset.2 b (fun e1 => hne e1.symm)).trans hb1
    have hni : i ∉ is := by
      intro hmem
      have : es.toList[i]?.map (·.born) ∈ is.map (fun i => es.toList[i]?.map (·.born)) := List.mem_map.2 ⟨i, hmem, rfl⟩
      rw [hseen, hi] at this
      obtain ⟨y, hy, e⟩ := List.mem_map.1 this
      injection e with e
      subst e
      have : seen.contains _ = true := Array.contains_iff_mem.2 (Array.mem_toList_iff.1 hy)
      rw [hes] at this
      cases this
    refine ⟨c, _, _, List.mem_of_getElem? hc, by rw [hrun, hk, hv], ⟨es, clock, since, seen.push e.born, clock, is ++ [i], hb', hs, he, hok, hset.1, hold, hsk, hsk, rfl, ?_, ?_, ?_⟩, left_shrinks es seen e hin, ?_, ?_, ?_⟩
    · refine List.nodup_append.2 ⟨hnd, by simp, fun a ha d hd e => ?_⟩
      simp at hd
      subst hd e
      exact hni ha
    · rw [List.map_append, hseen, Array.toList_push, List.map_append, List.map_singleton, List.map_singleton, hi]
      rfl
    · rw [List.map_append, hdone, List.map_append]
      simp [hc]
    · rcases hal with rfl | rfl <;> exact ⟨rfl, rfl, rfl, by simp [setBlock], fun i _ hi => hset.2 i (fun e1 => hi (by rw [e1]))⟩
    · rcases hal with rfl | rfl <;> simp [setBlock]
    · rw [← hk, ← hv]
      exact run_entry_at _ r b since seen es clock e hset.1 hb' hem hs.2.1

variable (w : World) {ops : Array Oper} {rest : List Oper} {o : Oper} {a : Act} {Q : Exit → Act → World → Prop}
theorem wpList_range_is (hg : o.guard = none) (m : Operand) (t : TypeId) (hop : o.op = Op.range t m) (k e : TypeId) (ht : P.underlying t = some (.map k e)) (b : Nat) (L : List (α × β))
    (hm : a.eval m = .map (some b)) (hown : MapIs ok kv vv w b L)
    (hK : ∀ w', RIs ok kv vv w' b w.heap.size L [] L.length → w.grownBy w' none → w'.heap.size = w.heap.size + 1 → wpList P ops Q rest (a.put o.dst (.pointer (some ⟨w.heap.size, 0, none⟩))) w') :
    wpList P ops Q (o :: rest) a w := by
  refine wpList_plain hg fun K' hK' => ?_
  obtain ⟨w', hrun, r1, r2, r3⟩ := hown.range ht
  unfold Oper.wp
  simp [execOp, hop, hm, hrun, Result.andThen]
  exact hK' _ _ (hK w' r1 r2 r3)
theorem wpList_next_is (hg : o.guard = none) (it : Operand) (hop : o.op = Op.next it false) (b r : Nat) (L done : List (α × β)) (cnt : Nat)
    (hit : a.eval it = .pointer (some ⟨r, 0, none⟩)) (h : RIs ok kv vv w b r L done cnt)
    (hDone : done.Perm L → wpList P ops Q rest (a.put o.dst (.tuple #[.bool false])) w)
    (hMore : ∀ (c : α × β) (w' : World) (cnt' : Nat), c ∈ L → RIs ok kv vv w' b r L (done ++ [c]) cnt' → cnt' < cnt → w.grownBy w' (some r) → w'.heap.size = w.heap.size →
      (Instr.entry (.pointer (some ⟨r, 0, none⟩))).run P w' = .ok (.tuple #[kv c.1, vv c.2]) w' → wpList P ops Q rest (a.put o.dst (.tuple #[.bool true, kv c.1, vv c.2])) w') :
    wpList P ops Q (o :: rest) a w := by
  refine wpList_plain hg fun K' hK' => ?_
  unfold Oper.wp
  rcases h.next (P := P) o.type with ⟨hp, hrun⟩ | ⟨c, w', cnt', hc, hrun, h1, h2, h3, h4, h5⟩
  · simp [execOp, hop, hit, hrun, Result.andThen]
    exact hK' _ _ (hDone hp)
  · simp [execOp, hop, hit, hrun, Result.andThen]
    exact hK' _ _ (hMore c w' cnt' hc h1 h2 h3 h4 h5)
end
end Go.Proofs.YtmiknfneeipkeaaGreat
namespace Go.Proofs.YtmiknfneeipkeaaGreat
open Go.RowKit

section
variable {P : Program}
theorem append_nil_run (w : World) (base : Nat) (t ty e : TypeId) (i : TypeInfo) (size : Nat) (ht : P.underlying t = some (.slice e)) (hi : P.info? e = some i)
    (v : Value) (n : Nat) (xs : List Value) (hown : w.ownsRow base e size v n xs) (c : Nat) : (Builtin.append_ #[t, t] ty #[v, .slice none 0 c]).run P w = .ok v w := by
  rcases hown.2 with ⟨rfl, rfl⟩ | ⟨g, cap, cur, rfl, _, _, hnc, _⟩
  · simp [Builtin.append_, run_underlying ht, sizeOf, typeInfo, hi, Builtin.lenOf, Builtin.firstCells]
  · simp [Builtin.append_, run_underlying ht, sizeOf, typeInfo, hi, Builtin.lenOf, Builtin.firstCells, hnc, storeCells]

theorem wpList_append_opt {w : World} {ops : Array Oper} {rest : List Oper} {o : Oper} {a : Act} {Q : Exit → Act → World → Prop} (hgd : o.guard = none) (s x : Operand) (t : TypeId)
    (ho : o.op = .call { callee := .builtin .append, args := #[s, x], argTypes := #[t, t] })
    (base : Nat) (e : TypeId) (i : TypeInfo) (z : Value) (size bytes : Nat) (ht : P.underlying t = some (.slice e)) (hi : P.info? e = some i) (hz : i.zero = some z)
    (hsize : i.size = size) (hby : i.bytes = bytes) (hzs : z.cells.size = size) (hsz : 0 < size)
    (v : Value) (n : Nat) (xs : List Value) (hs : a.eval s = v) (hown : w.ownsRow base e size v n xs)
    (A : Option Addr) (m c : Nat) (news : List Value) (hx : a.eval x = .slice A m c) (hl : news.length = m * size)
    (hnil : A = none → m = 0) (hnews : ∀ ad, A = some ad → ∀ j u, news[j]? = some u → w.cell? (ad.add j) = some u) (h1 : ∀ u ∈ news, u.oneCell' = true)
    (h63 : n + m ≤ maxLen) (hbytes : (n + m) * bytes ≤ 140737488355328) (hbase : base ≤ w.heap.size)
    (h : ∀ v' w', w'.ownsRow base e size v' (n + m) (xs ++ news) → w.grownBy w' v.ownBlock → wpList P ops Q rest (a.put o.dst v') w') : wpList P ops Q (o :: rest) a w := by
  cases A with
  | none =>
    have hm : m = 0 := hnil rfl
    subst hm
    have hn : news = [] := List.eq_nil_of_length_eq_zero (by simpa using hl)
    subst hn
    refine wpList_plain hgd fun K hK => ?_
    have hrun := append_nil_run (P := P) w base t o.type e i size ht hi v n xs hown c
    unfold Oper.wp execOp
    simp only [ho, resolve, invoke, builtin, Sem.run_bind, Sem.run_pure, Result.andThen_ok, List.map_toArray, List.map_cons, List.map_nil, hs, hx, hrun]
    exact hK _ _ (h v w (by simpa using hown) ⟨rfl, rfl, rfl, Nat.le_refl _, fun _ _ _ => rfl⟩)
  | some ad =>
    exact wpList_append_own w hgd s x t ho base e i z size bytes ht hi hz hsize hby hzs hsz v n xs hs hown ad m c news hx hl (hnews ad rfl) h1 h63 hbytes hbase (fun v' w' h2 h3 _ => h v' w' h2 h3)
end
end Go.Proofs.YtmiknfneeipkeaaGreat
namespace Go.Proofs.YtmiknfneeipkeaaGreat
open Go.RowKit

/-- A slice of bytes, as a value. -/
structure BD where
  A : Option Addr
  len : Nat
  cap : Nat
def vB (d : BD) : Value := .slice d.A d.len d.cap
def blk (d : BD) : Option Nat := d.A.map (·.block)
def encU (b : UInt8) : Value := .int .u8 ((b.toNat : Nat) : Int)
theorem encU_one (bs : List UInt8) : ∀ u ∈ bs.map encU, u.oneCell' = true := by
  intro u hu
  obtain ⟨b, _, rfl⟩ := List.mem_map.1 hu
  rfl
/-- The slice d reads as bs; it lies at the head of a block of bytes. -/
def RB (w : World) (d : BD) (bs : List UInt8) : Prop :=
  bs.length = d.len ∧ d.len ≤ d.cap ∧ (d.A = none → d.cap = 0) ∧ ∀ ad, d.A = some ad → ∃ g cur, ad = ⟨g, 0, none⟩ ∧ IsB w g 5 cur ∧ d.cap ≤ cur.size ∧ ∀ (j : Nat) (u : Value), (bs.map encU)[j]? = some u → cur[j]? = some u
/-- A source of bytes. -/
def SB (w : World) (A : Option Addr) (bs : List UInt8) : Prop := (A = none → bs.length = 0) ∧ ∀ ad, A = some ad → ∀ (j : Nat) (u : Value), (bs.map encU)[j]? = some u → w.cell? (ad.add j) = some u
theorem lit_add (g o j : Nat) : (⟨g, o, none⟩ : Addr).add j = ⟨g, o + j, none⟩ := by unfold Addr.add; split <;> simp_all
theorem RB.src {w : World} {d : BD} {bs : List UInt8} (h : RB w d bs) : SB w d.A bs := by
  obtain ⟨h1, h2, h3, h4⟩ := h
  refine ⟨fun e => by have := h3 e; omega, fun ad e j u hu => ?_⟩
  obtain ⟨g, cur, rfl, hg, _, hc⟩ := h4 ad e
  rw [lit_add, hg.cell, Nat.zero_add]
  exact hc j u hu
/-- From w to w' only the blocks of M may change, and the blocks of G behind their limits. -/
structure Ch (w w' : World) (M : Nat → Prop) (G : List (Nat × Nat)) : Prop where
  os : w'.os = w.os
  tape : w'.tape = w.tape
  output : w'.output = w.output
  size : w.heap.size ≤ w'.heap.size
  block : ∀ i, i < w.heap.size → ¬ M i → (∀ p ∈ G, p.1 ≠ i) → w'.heap[i]? = w.heap[i]?
  bytes : ∀ p ∈ G, ¬ M p.1 → ∀ cur, IsB w p.1 5 cur → ∃ cur', IsB w' p.1 5 cur' ∧ cur'.size = cur.size ∧ ∀ j, j < p.2 → cur'[j]? = cur[j]?
theorem Ch.refl (w : World) (M : Nat → Prop) (G : List (Nat × Nat)) : Ch w w M G := ⟨rfl, rfl, rfl, Nat.le_refl _, fun _ _ _ _ => rfl, fun _ _ _ cur h => ⟨cur, h, rfl, fun _ _ => rfl⟩⟩
theorem Ch.below {w w' : World} (h : Below w.heap.size w w') (M : Nat → Prop) (G : List (Nat × Nat)) : Ch w w' M G := ⟨h.os, h.tape, h.output, h.size, fun i hi _ _ => h.block i hi, fun _ _ _ cur hc => ⟨cur, hc.on h, rfl, fun _ _ => rfl⟩⟩
theorem Ch.mono {w w' : World} {M M' : Nat → Prop} {G G' : List (Nat × Nat)} (h : Ch w w' M G) (hM : ∀ i, M i → M' i) (hG : ∀ p ∈ G, p ∈ G') (hG' : ∀ p ∈ G', (∀ q ∈ G, q.1 = p.1 → q = p)) : Ch w w' M' G' := by
  refine ⟨h.os, h.tape, h.output, h.size, fun i hi hm hg => h.block i hi (fun hh => hm (hM i hh)) (fun p hp => hg p (hG p hp)), fun p hp hm cur hc => ?_⟩
  by_cases hx : ∃ q ∈ G, q.1 = p.1
  · obtain ⟨q, hq, e⟩ := hx
    have := hG' p hp q hq e
    subst this
    exact h.bytes q hq (fun hh => hm (hM _ hh)) cur hc
  · refine ⟨cur, (h.block p.1 hc.lt (fun hh => hm (hM _ hh)) (fun q hq e => hx ⟨q, hq, e⟩)).trans hc, rfl, fun _ _ => rfl⟩
theorem RB.ch {w w' : World} {d : BD} {bs : List UInt8} {M : Nat → Prop} {G : List (Nat × Nat)} (h : RB w d bs) (hc : Ch w w' M G) (hM : ∀ g, blk d = some g → ¬ M g) (hG : ∀ p ∈ G, blk d = some p.1 → d.len ≤ p.2) : RB w' d bs := by
  obtain ⟨h1, h2, h3, h4⟩ := h
  refine ⟨h1, h2, h3, fun ad e => ?_⟩
  obtain ⟨g, cur, rfl, hg, hs, hcur⟩ := h4 ad e
  have hb : blk d = some g := by simp [blk, e]
  by_cases hx : ∃ p ∈ G, p.1 = g
  · obtain ⟨p, hp, rfl⟩ := hx
    obtain ⟨cur', c1, c2, c3⟩ := hc.bytes p hp (hM _ hb) cur hg
    refine ⟨p.1, cur', rfl, c1, by omega, fun j u hu => ?_⟩
    have hj : j < bs.length := by
      have := (List.getElem?_eq_some_iff.1 hu).1
      simpa using this
    rw [c3 j (by have := hG p hp hb; omega)]
    exact hcur j u hu
  · exact ⟨g, cur, rfl, (hc.block g hg.lt (hM _ hb) (fun p hp e => hx ⟨p, hp, e⟩)).trans hg, hs, hcur⟩
theorem RB.on {w w' : World} {d : BD} {bs : List UInt8} (h : RB w d bs) (hb : Below w.heap.size w w') : RB w' d bs := h.ch (Ch.below hb (fun _ => False) []) (fun _ _ h => h) (by simp)
theorem info5 : (Tryz.prog.info? 5).map (fun i => (i.zero, i.size, i.bytes)) = some (some (.int .u8 0), 1, 1) := by kernel_rfl
theorem RB.lt {w : World} {d : BD} {bs : List UInt8} (h : RB w d bs) {g : Nat} (hg : blk d = some g) : g < w.heap.size := by
  cases hA : d.A with
  | none => simp [blk, hA] at hg
  | some ad =>
    obtain ⟨g', cur, rfl, hb, _⟩ := h.2.2.2 ad hA
    simp [blk, hA] at hg
    subst hg
    exact hb.lt
/-- What a slice may be appended to in place. -/
def room (d : BD) : List (Nat × Nat) := match d.A with | some ad => if d.len < d.cap then [(ad.block, d.len)] else [] | none => []

theorem setCells_heap (b : Nat) : ∀ (vs : List Value) (o : Nat) (w : World) (i : Nat), i ≠ b → (w.setCells b o vs).heap[i]? = w.heap[i]?
  | [], _, _, _, _ => rfl
  | v :: r, o, w, i, h => by
    rw [World.setCells, setCells_heap b r (o + 1) _ i h]
    exact Below.heap_setCell w ⟨b, o, none⟩ v i (fun e => h e)
theorem setCells_is (b : Nat) {t : TypeId} : ∀ (vs : List Value) (o : Nat) (w : World) (cur : Array Value), IsB w b t cur → ∃ cur', IsB (w.setCells b o vs) b t cur' ∧ cur'.size = cur.size ∧ (∀ j, j < o → cur'[j]? = cur[j]?) ∧ ∀ j, j < vs.length → o + j < cur.size → cur'[o + j]? = vs[j]?
  | [], _, _, cur, h => ⟨cur, h, rfl, fun _ _ => rfl, fun j hj => absurd hj (by simp)⟩
  | v :: r, o, w, cur, h => by
    obtain ⟨cur', c1, c2, c3, c4⟩ := setCells_is b r (o + 1) (w.setCell ⟨b, o, none⟩ v) (cur.setIfInBounds o v) (h.set_ o v)
    refine ⟨cur', c1, by simpa using c2, fun j hj => ?_, fun j hj hs => ?_⟩
    · rw [c3 j (by omega), Array.getElem?_setIfInBounds_ne (by omega)]
    · cases j with
      | zero =>
        rw [Nat.add_zero, c3 o (by omega), Array.getElem?_setIfInBounds_self_of_lt (by omega)]
        rfl
      | succ j =>
        have := c4 j (by simpa using hj) (by simp; omega)
        rw [show o + (j + 1) = o + 1 + j by omega, this]
        rfl
theorem setCells_world (b : Nat) : ∀ (vs : List Value) (o : Nat) (w : World), (w.setCells b o vs).os = w.os ∧ (w.setCells b o vs).tape = w.tape ∧ (w.setCells b o vs).output = w.output ∧ (w.setCells b o vs).heap.size = w.heap.size
  | [], _, _ => ⟨rfl, rfl, rfl, rfl⟩
  | v :: r, o, w => by
    obtain ⟨a, b', c, d⟩ := setCells_world b r (o + 1) (w.setCell ⟨b, o, none⟩ v)
    exact ⟨a.trans rfl, b'.trans rfl, c.trans rfl, d.trans (by simp [World.setCell])⟩
theorem IsB.uniq {w : World} {g : Nat} {t : TypeId} {cs cs' : Array Value} (h : IsB w g t cs) (h' : IsB w g t cs') : cs = cs' := by
  have e : some (Obj.cells cs t (0, 0)) = some (Obj.cells cs' t (0, 0)) := h.symm.trans h'
  injection e with e
  injection e
/-- What append of bytes leaves. -/
def AppB (w : World) (d : BD) (bs : List UInt8) (d' : BD) (w' : World) : Prop :=
  RB w' d' bs ∧ ((blk d' = blk d ∧ d'.cap = d.cap ∧ d.len ≤ d'.len ∧ Ch w w' (fun _ => False) (room d)) ∨ (∃ H, blk d' = some H ∧ w.heap.size ≤ H ∧ Below w.heap.size w w'))
theorem take_get {α : Type} {l k : List α} {j : Nat} {u : α} (h : (l ++ k)[j]? = some u) : (j < l.length ∧ l[j]? = some u) ∨ (l.length ≤ j ∧ k[j - l.length]? = some u) := by
  by_cases hj : j < l.length
  · rw [List.getElem?_append_left hj] at h
    exact .inl ⟨hj, h⟩
  · rw [List.getElem?_append_right (by omega)] at h
    exact .inr ⟨by omega, h⟩
theorem new_bytes (w : World) (vs : Array Value) (H n cap : Nat) (bs : List UInt8) (hH : w.heap.size = H) (hl : bs.length = n) (hn : n ≤ cap) (hs : cap ≤ vs.size) (hv : ∀ (j : Nat) (u : Value), (bs.map encU)[j]? = some u → vs[j]? = some u) : RB (w.alloc (.cells vs 5)) ⟨some ⟨H, 0, none⟩, n, cap⟩ bs := by
  subst hH
  refine ⟨hl, hn, (fun e => by cases e), fun ad e => ?_⟩
  injection e with e
  subst e
  exact ⟨w.heap.size, vs, rfl, IsB.new _ _ _, hs, hv⟩
set_option maxHeartbeats 1000000 in
theorem run_append_bytes (w : World) (ty : TypeId) (d : BD) (bs : List UInt8) (h : RB w d bs) (A : Option Addr) (c : Nat) (ns : List UInt8) (hs : SB w A ns) (hb : bs.length + ns.length ≤ 1099511627776) :
    ∃ d' w', (Builtin.append_ #[40, 40] ty #[vB d, .slice A ns.length c]).run Tryz.prog w = .ok (vB d') w' ∧ d'.len = d.len + ns.length ∧ AppB w d (bs ++ ns) d' w' := by
  obtain ⟨i0, hi, hz0, hz1, hz2⟩ := info_parts info5
  obtain ⟨h1, h2, h3, h4⟩ := h
  have hR : RB w d bs := ⟨h1, h2, h3, h4⟩
  by_cases hm : ns.length = 0
  · have hns : ns = [] := List.eq_nil_of_length_eq_zero hm
    subst hns
    refine ⟨d, w, ?_, by simp, by simpa using hR, .inl ⟨rfl, rfl, Nat.le_refl _, Ch.refl _ _ _⟩⟩
    cases hA : A with
    | none =>
      simp [vB, Builtin.append_, run_underlying Tryz.underlying40, sizeOf, typeInfo, hi, Builtin.lenOf, Builtin.firstCells, h2, storeCells]
      cases d.A <;> simp
    | some a =>
      simp [vB, Builtin.append_, run_underlying Tryz.underlying40, sizeOf, typeInfo, hi, Builtin.lenOf, Builtin.firstCells, h2, storeCells, loadCells, loadCellsFrom]
      cases d.A <;> simp
  · cases hA : A with
    | none => exact absurd (hs.1 hA) hm
    | some a =>
      have hnews := hs.2 a hA
      have hl : (ns.map encU).length = ns.length * i0.size := by rw [hz1, List.length_map, Nat.mul_one]
      cases hd : d.A with
      | none =>
        have hc0 := h3 hd
        have hl0 : d.len = 0 := by omega
        have hb0 : bs = [] := List.eq_nil_of_length_eq_zero (by omega)
        subst hb0
        have hv : vB d = .slice none 0 0 := by simp [vB, hd, hl0, hc0]
        have hr := run_append_nil (P := Tryz.prog) w 40 ty 5 i0 _ Tryz.underlying40 hi hz0 a ns.length c (ns.map encU) hl hnews (by omega) (by simp at hb; omega) (by rw [hz2]; simp at hb; omega)
        have hge := grownCap_ge w ns.length 0 5
        refine ⟨⟨some ⟨w.heap.size, 0, none⟩, ns.length, grownCap w ns.length 0 5⟩, _, by rw [hv]; exact hr, by simp only [hl0]; omega, ?_, .inr ⟨w.heap.size, rfl, Nat.le_refl _, (Below.refl w.heap.size w).drew.alloc (by simp) _⟩⟩
        refine new_bytes w.drew _ _ _ _ _ (by simp) (by simp) hge ?_ (fun j u hu => ?_)
        · rw [Array.size_append, List.size_toArray, size_zeroCells]
          simp [Value.cells]
          omega
        · rw [List.nil_append] at hu
          have hj := (List.getElem?_eq_some_iff.1 hu).1
          rw [Array.getElem?_append_left (by simpa using hj), List.getElem?_toArray]
          exact hu
      | some ad =>
        obtain ⟨g, cur, rfl, hg, hcs, hcur⟩ := h4 ad hd
        have hv : vB d = .slice (some ⟨g, 0, none⟩) d.len d.cap := by simp [vB, hd]
        by_cases hroom : d.len + ns.length ≤ d.cap
        · have hr := run_append_room_cells (P := Tryz.prog) w 40 ty 5 i0 Tryz.underlying40 hi g 0 d.len d.cap a ns.length c (ns.map encU) hl hnews (encU_one ns) hroom
            (fun j hj => by
              rw [hz1, hg.cell]
              have hj' : j < ns.length := by simpa using hj
              have : 0 + d.len * 1 + j < cur.size := by omega
              rw [Array.getElem?_eq_getElem this]
              rfl) (fun j _ => hg.frozen _)
          rw [hz1, Nat.zero_add, Nat.mul_one] at hr
          obtain ⟨cur', c1, c2, c3, c4⟩ := setCells_is g (ns.map encU) d.len w cur hg
          obtain ⟨e1, e2, e3, e4⟩ := setCells_world g (ns.map encU) d.len w
          refine ⟨⟨some ⟨g, 0, none⟩, d.len + ns.length, d.cap⟩, _, by rw [hv]; exact hr, rfl, ⟨by simp; omega, hroom, (fun e => by cases e), fun ad e => ?_⟩, .inl ⟨by simp [blk, hd], rfl, by simp, ?_⟩⟩
          · injection e with e
            subst e
            refine ⟨g, cur', rfl, c1, by simp only; omega, fun j u hu => ?_⟩
            rw [List.map_append] at hu
            rcases take_get hu with ⟨hj, hu⟩ | ⟨hj, hu⟩
            · rw [c3 j (by simp at hj; omega)]
              exact hcur j u hu
            · have hj2 := (List.getElem?_eq_some_iff.1 hu).1
              simp only [List.length_map] at hj hj2 hu
              have := c4 (j - bs.length) (by simpa using hj2) (by omega)
              rw [show d.len + (j - bs.length) = j by omega] at this
              rw [this]
              exact hu
          · refine ⟨e1, e2, e3, by omega, fun i hi' _ hgi => setCells_heap g _ _ w i (fun e => ?_), fun p hp _ cur0 hcur0 => ?_⟩
            · subst e
              have hlt : d.len < d.cap := by omega
              exact hgi (i, d.len) (by simp [room, hd, hlt]) rfl
            · have hlt : d.len < d.cap := by omega
              simp [room, hd, hlt] at hp
              subst hp
              have : cur0 = cur := IsB.uniq hcur0 hg
              subst this
              exact ⟨cur', c1, c2, c3⟩
        · have hlo : (bs.map encU).length = d.len * i0.size := by rw [hz1, List.length_map, Nat.mul_one, h1]
          have hr := run_append_grow (P := Tryz.prog) w 40 ty 5 i0 _ Tryz.underlying40 hi hz0 ⟨g, 0, none⟩ d.len d.cap (bs.map encU) hlo (fun j u hu => by rw [lit_add, hg.cell, Nat.zero_add]; exact hcur j u hu) a ns.length c (ns.map encU) hl hnews (by omega) (by omega) (growslice_fits (by omega) (by rw [hz2]; omega))
          have hge := grownCap_ge w (d.len + ns.length) d.cap 5
          refine ⟨⟨some ⟨w.heap.size, 0, none⟩, d.len + ns.length, grownCap w (d.len + ns.length) d.cap 5⟩, _, by rw [hv]; exact hr, rfl, ?_, .inr ⟨w.heap.size, rfl, Nat.le_refl _, (Below.refl w.heap.size w).drew.alloc (by simp) _⟩⟩
          refine new_bytes w.drew _ _ _ _ _ (by simp) (by simp; omega) hge ?_ (fun j u hu => ?_)
          · rw [Array.size_append, Array.size_append, List.size_toArray, List.size_toArray, size_zeroCells]
            simp [Value.cells]
            omega
          · rw [List.map_append] at hu
            have hj := (List.getElem?_eq_some_iff.1 hu).1
            rw [Array.getElem?_append_left (by simpa using hj), List.append_toArray, List.getElem?_toArray]
            exact hu
end Go.Proofs.YtmiknfneeipkeaaGreat
