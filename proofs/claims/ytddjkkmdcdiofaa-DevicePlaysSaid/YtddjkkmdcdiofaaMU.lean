/- Maps as lists of pairs: m[k] = v, delete, maps.Clone. -/
import Derived.Test.YtddjkkmdcdiofaaMQ
namespace Go.Proofs.Ytddjkkmdcdiofaa
open Go.RowKit Go.MapKept Go.ChangeMaps
open Go.Maps (Keyed)

section
variable {α β : Type} [DecidableEq α]
/-- The list without a key. -/
def delL : List (α × β) → α → List (α × β)
  | [], _ => []
  | c :: L, a => if c.1 = a then L else c :: delL L a
theorem delL_none {L : List (α × β)} {a : α} (h : ∀ c ∈ L, c.1 ≠ a) : delL L a = L := by
  induction L with
  | nil => rfl
  | cons c L ih => rw [delL, if_neg (h c (by simp)), ih (fun c hc => h c (by simp [hc]))]
theorem delL_at {L : List (α × β)} (hn : (L.map (·.1)).Nodup) {j : Nat} {c : α × β} (h : L[j]? = some c) : delL L c.1 = L.eraseIdx j := by
  induction L generalizing j with
  | nil => simp at h
  | cons d L ih =>
    simp only [List.map_cons, List.nodup_cons] at hn
    cases j with
    | zero => simp at h; subst h; simp [delL]
    | succ j =>
      simp only [List.getElem?_cons_succ] at h
      have : d.1 ≠ c.1 := fun e => hn.1 (by rw [e]; exact List.mem_map.2 ⟨c, List.mem_of_getElem? h, rfl⟩)
      rw [delL, if_neg this, ih hn.2 h]
      rfl
theorem delL_sub (L : List (α × β)) (a : α) : ∀ c ∈ delL L a, c ∈ L := by
  induction L with
  | nil => simp [delL]
  | cons d L ih =>
    intro c hc
    rw [delL] at hc
    split at hc
    · exact List.mem_cons_of_mem _ hc
    · rcases List.mem_cons.1 hc with rfl | hc
      · simp
      · exact List.mem_cons_of_mem _ (ih c hc)
theorem asc_delL {L : List (α × β)} (hn : (L.map (·.1)).Nodup) (a a' : α) : asc (delL L a) a' = if a = a' then none else asc L a' := by
  induction L with
  | nil => simp [delL, asc]
  | cons c L ih =>
    simp only [List.map_cons, List.nodup_cons] at hn
    rw [delL]
    split
    · rename_i e
      subst e
      split
      · rename_i e2
        subst e2
        exact asc_none (fun d hd e3 => hn.1 (e3 ▸ List.mem_map.2 ⟨d, hd, rfl⟩))
      · rename_i e2
        rw [asc, if_neg e2]
    · rename_i e
      simp only [asc, ih hn.2]
      split
      · rename_i e2
        rw [if_neg (fun e3 => e (e2.trans e3.symm))]
      · rfl
theorem delL_pairwise {R : (α × β) → (α × β) → Prop} {L : List (α × β)} (h : L.Pairwise R) (a : α) : (delL L a).Pairwise R := by
  induction L with
  | nil => simp [delL]
  | cons c L ih =>
    obtain ⟨h1, h2⟩ := List.pairwise_cons.1 h
    rw [delL]
    split
    · exact h2
    · exact List.pairwise_cons.2 ⟨fun d hd => h1 d (delL_sub L a d hd), ih h2⟩
theorem setL_pairwise {R : (α × β) → (α × β) → Prop} {L : List (α × β)} (hn : (L.map (·.1)).Nodup) (h : L.Pairwise R) (a : α) (v : β) (hs : ∀ x y, R x y → R y x) (hv : ∀ c ∈ L, c.1 ≠ a → R c (a, v)) : (setL L a v).Pairwise R ∧ ∀ c ∈ setL L a v, c = (a, v) ∨ c ∈ L := by
  induction L with
  | nil => simp [setL]
  | cons c L ih =>
    obtain ⟨h1, h2⟩ := List.pairwise_cons.1 h
    simp only [List.map_cons, List.nodup_cons] at hn
    obtain ⟨i1, i2⟩ := ih hn.2 h2 (fun d hd => hv d (by simp [hd]))
    rw [setL]
    split
    · rename_i e
      refine ⟨List.pairwise_cons.2 ⟨fun d hd => ?_, h2⟩, fun d hd => ?_⟩
      · by_cases hd1 : d.1 = a
        · exact absurd (List.mem_map.2 ⟨d, hd, by rw [hd1, e]⟩) hn.1
        · exact hs _ _ (hv d (by simp [hd]) hd1)
      · rcases List.mem_cons.1 hd with rfl | hd
        · exact .inl rfl
        · exact .inr (by simp [hd])
    · rename_i e
      refine ⟨List.pairwise_cons.2 ⟨fun d hd => ?_, i1⟩, fun d hd => ?_⟩
      · rcases i2 d hd with rfl | hd
        · exact hv c (by simp) e
        · exact h1 d hd
      · rcases List.mem_cons.1 hd with rfl | hd
        · exact .inr (by simp)
        · rcases i2 d hd with h | h
          · exact .inl h
          · exact .inr (by simp [h])
end

section
variable {α β : Type} [DecidableEq α]
variable {P : Program} {k : TypeId} {ok : α → Prop} {kv : α → Value} {vv : β → Value}
theorem map_erase {γ δ : Type} (f : γ → δ) (l : List γ) (j : Nat) : (l.eraseIdx j).map f = (l.map f).eraseIdx j := by
  induction l generalizing j with
  | nil => simp
  | cons c l ih =>
    cases j with
    | zero => simp
    | succ j => simp [ih]
theorem set_block {W : World} {b : Nat} {o o' : Obj} (ho : W.heap[b]? = some o) : W.grownBy (setBlock W b o') (some b) ∧ (setBlock W b o').heap.size = W.heap.size ∧ (setBlock W b o').heap[b]? = some o' := by
  have hlt : b < W.heap.size := (Array.getElem?_eq_some_iff.1 ho).1
  refine ⟨⟨rfl, rfl, rfl, by simp [setBlock], fun i hi hne => ?_⟩, by simp [setBlock], by simp [setBlock, hlt]⟩
  have : b ≠ i := fun e => hne (by rw [e])
  simp [setBlock, this]
/-- 'm[a] = v'. -/
theorem MapIs.update (M : MK P k ok kv) {t e : TypeId} (ht : P.underlying t = some (.map k e)) {w : World} {b : Nat} {L : List (α × β)} (h : MapIs ok kv vv w b L) {a : α} (ha : ok a) (v : β) :
    ∃ w', (Instr.mapUpdate t (.map (some b)) (kv a) (vv v)).run P w = .ok () w' ∧ MapIs ok kv vv w' b (setL L a v) ∧ w.grownBy w' (some b) ∧ w'.heap.size = w.heap.size := by
  obtain ⟨es, clock, hb, hs, he, hok⟩ := h
  obtain ⟨l, hl⟩ := M.key a ha
  have hok' : ∀ c ∈ setL L a v, ok c.1 := by
    intro c hc
    have : c.1 ∈ (setL L a v).map (·.1) := List.mem_map.2 ⟨c, hc, rfl⟩
    rcases (setL_keys L a v c.1).1 this with h | h
    · rw [h]; exact ha
    · obtain ⟨d, hd, e⟩ := List.mem_map.1 h
      rw [← e]
      exact hok d hd
  rcases MapIs.find (w := w) M hs he hok ha with ⟨h1, h0, h2⟩ | ⟨j, x, v0, h1, h2, h3, h4, h5⟩
  · refine ⟨setBlock w b (.map (es.push ⟨kv a, vv v, clock⟩) (clock + 1)), ?_, ⟨_, _, (set_block hb).2.2, stamped_push hs h0, ?_, hok'⟩, (set_block hb).1, (set_block hb).2.1⟩
    · simp [Instr.mapUpdate, run_underlying ht, MapKept.run_getObj_map hb, M.K.check w false hl, h1, MapKept.run_setObj_map _ hb, Result.andThen, setBlock]
    · rw [setL_none h2]
      simp [he]
  · have hj : es[j]? = some x := by simpa using h2
    refine ⟨setBlock w b (.map (es.modify j (fun e' => { e' with key := kv a, val := vv v })) clock), ?_, ⟨_, _, (set_block hb).2.2, ?_, setL_enc hs he h4 v, hok'⟩, (set_block hb).1, (set_block hb).2.1⟩
    · simp [Instr.mapUpdate, run_underlying ht, MapKept.run_getObj_map hb, M.K.check w false hl, h1, hj, h3, M.K.stays w hl, MapKept.run_setObj_map _ hb, Result.andThen, setBlock]
    · refine stamped_modify hs _ _ (fun _ _ => rfl) (fun e' _ he' => ?_)
      rw [hj] at he'
      cases he'
      exact h3.symm
/-- 'delete(m, a)'. -/
theorem MapIs.delete (M : MK P k ok kv) {t e : TypeId} (ht : P.underlying t = some (.map k e)) {w : World} {b : Nat} {L : List (α × β)} (h : MapIs ok kv vv w b L) {a : α} (ha : ok a) (kt ty : TypeId) :
    ∃ w', (Builtin.delete_ #[t, kt] ty #[.map (some b), kv a]).run P w = .ok (.tuple #[]) w' ∧ MapIs ok kv vv w' b (delL L a) ∧ w.grownBy w' (some b) ∧ w'.heap.size = w.heap.size := by
  obtain ⟨es, clock, hb, hs, he, hok⟩ := h
  obtain ⟨l, hl⟩ := M.key a ha
  have hok' : ∀ c ∈ delL L a, ok c.1 := fun c hc => hok c (delL_sub L a c hc)
  rcases MapIs.find (w := w) M hs he hok ha with ⟨h1, h0, h2⟩ | ⟨j, x, v0, h1, h2, h3, h4, h5⟩
  · refine ⟨setBlock w b (.map es clock), ?_, ⟨_, _, (set_block hb).2.2, hs, by rw [delL_none h2]; exact he, hok'⟩, (set_block hb).1, (set_block hb).2.1⟩
    simp [Builtin.delete_, run_underlying ht, MapKept.run_getObj_map hb, M.K.check w _ hl, h1, MapKept.run_setObj_map _ hb, Result.andThen, setBlock]
  · refine ⟨setBlock w b (.map (es.eraseIdxIfInBounds j) clock), ?_, ⟨_, _, (set_block hb).2.2, stamped_erase hs j, ?_, hok'⟩, (set_block hb).1, (set_block hb).2.1⟩
    · simp [Builtin.delete_, run_underlying ht, MapKept.run_getObj_map hb, M.K.check w _ hl, h1, MapKept.run_setObj_map _ hb, Result.andThen, setBlock]
    · have e1 : delL L a = L.eraseIdx j := delL_at (keys_nodup hs he) h4
      have hjl : j < es.size := by
        have := (List.getElem?_eq_some_iff.1 h2).1
        simpa using this
      rw [e1, Array.eraseIdxIfInBounds, dif_pos hjl, Array.toList_eraseIdx, map_erase, map_erase, he]
end
end Go.Proofs.Ytddjkkmdcdiofaa
