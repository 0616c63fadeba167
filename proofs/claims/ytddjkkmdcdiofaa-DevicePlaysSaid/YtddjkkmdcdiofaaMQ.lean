/- Loops over a map that is a list of pairs. -/
import Derived.Test.YtddjkkmdcdiofaaMP
namespace Go.Proofs.Ytddjkkmdcdiofaa
open Go.RowKit Go.MapKept Go.ChangeMaps
open Go.Maps (Keyed)

theorem nodup_idx {γ : Type} {l : List γ} (hn : l.Nodup) {i j : Nat} (hi : i < l.length) (hj : j < l.length) (h : l[i]? = l[j]?) : i = j := by
  rw [List.getElem?_eq_getElem hi, List.getElem?_eq_getElem hj] at h
  injection h with h
  rcases Nat.lt_trichotomy i j with h1 | h1 | h1
  · exact absurd h (List.pairwise_iff_getElem.1 hn i j hi hj h1)
  · exact h1
  · exact absurd h.symm (List.pairwise_iff_getElem.1 hn j i hj hi h1)

section
variable {α β : Type}
variable {P : Program} {k : TypeId} {ok : α → Prop} {kv : α → Value} {vv : β → Value}

/-- Block r is an iterator over the map in block b, which holds L; 'done' has come out; cnt pairs are to come. -/
def RIs (ok : α → Prop) (kv : α → Value) (vv : β → Value) (w : World) (b r : Nat) (L done : List (α × β)) (cnt : Nat) : Prop :=
  ∃ (es : Array MapEntry) (clock since : Nat) (seen : Array Nat) (c0 : Nat) (is : List Nat), w.heap[b]? = some (.map es clock) ∧ Stamped es clock ∧ es.toList.map (fun e => (e.key, e.val)) = L.map (fun c => (kv c.1, vv c.2)) ∧ (∀ c ∈ L, ok c.1) ∧
    w.heap[r]? = some (.mapIter (some b) since seen c0) ∧ (∀ x ∈ es.toList, x.born < since) ∧ since ≤ c0 ∧ since ≤ clock ∧ (leftOf es seen).size = cnt ∧
    is.Nodup ∧ is.map (fun i => es.toList[i]?.map (·.born)) = seen.toList.map some ∧ is.map (fun i => L[i]?) = done.map some

theorem RIs.map {w : World} {b r : Nat} {L done : List (α × β)} {cnt : Nat} (h : RIs ok kv vv w b r L done cnt) : MapIs ok kv vv w b L := by
  obtain ⟨es, clock, since, seen, c0, is, h1, h2, h3, h4, _⟩ := h
  exact ⟨es, clock, h1, h2, h3, h4⟩
theorem RIs.lt {w : World} {b r : Nat} {L done : List (α × β)} {cnt : Nat} (h : RIs ok kv vv w b r L done cnt) : r < w.heap.size := by
  obtain ⟨es, clock, since, seen, c0, is, _, _, _, _, h5, _⟩ := h
  exact (Array.getElem?_eq_some_iff.1 h5).1
theorem RIs.ne {w : World} {b r : Nat} {L done : List (α × β)} {cnt : Nat} (h : RIs ok kv vv w b r L done cnt) : r ≠ b := by
  obtain ⟨es, clock, since, seen, c0, is, h1, _, _, _, h5, _⟩ := h
  rintro rfl
  rw [h1] at h5
  cases h5
theorem RIs.left_eq {w : World} {b r : Nat} {L done : List (α × β)} {cnt : Nat} (h : RIs ok kv vv w b r L done cnt) : w.rangeLeft b r = cnt := by
  obtain ⟨es, clock, since, seen, c0, is, h1, _, _, _, h5, _, _, _, h9, _⟩ := h
  simp only [World.rangeLeft, h1, h5]
  exact h9
theorem RIs.kept {w w' : World} {b r : Nat} {L done : List (α × β)} {cnt : Nat} {row : Option Nat} (h : RIs ok kv vv w b r L done cnt) (hg : w.grownBy w' row) (hb : some b ≠ row) (hr : some r ≠ row) : RIs ok kv vv w' b r L done cnt := by
  have l1 := h.map.lt
  have l2 := h.lt
  obtain ⟨es, clock, since, seen, c0, is, h1, h2, h3, h4, h5, h6⟩ := h
  exact ⟨es, clock, since, seen, c0, is, (hg.block b l1 hb).trans h1, h2, h3, h4, (hg.block r l2 hr).trans h5, h6⟩
theorem RIs.alloc {w : World} {b r : Nat} {L done : List (α × β)} {cnt : Nat} (h : RIs ok kv vv w b r L done cnt) (o : Obj) : RIs ok kv vv (w.alloc o) b r L done cnt := h.kept (World.grownBy_alloc w o none) (by simp) (by simp)
theorem RIs.on {w w' : World} {b r : Nat} {L done : List (α × β)} {cnt : Nat} (h : RIs ok kv vv w b r L done cnt) (hb : Below w.heap.size w w') : RIs ok kv vv w' b r L done cnt := h.kept (only_of_below hb none) (by simp) (by simp)

/-- 'range m'. -/
theorem MapIs.range {t e : TypeId} (ht : P.underlying t = some (.map k e)) {w : World} {b : Nat} {L : List (α × β)} (h : MapIs ok kv vv w b L) :
    ∃ w', (Instr.range t (.map (some b))).run P w = .ok (.pointer (some ⟨w.heap.size, 0, none⟩)) w' ∧ RIs ok kv vv w' b w.heap.size L [] L.length ∧ w.grownBy w' none ∧ w'.heap.size = w.heap.size + 1 := by
  have hlt := h.lt
  obtain ⟨es, clock, hb, hs, he, hok⟩ := h
  have hl : es.size = L.length := by
    have := congrArg List.length he
    simpa using this
  refine ⟨_, run_range_map w t k e b es clock ht hb, ⟨es, clock, clock, #[], clock, [], ((MapKept.heap_alloc w _).2 b hlt).trans hb, hs, he, hok, (MapKept.heap_alloc w _).1, hs.1, Nat.le_refl _, Nat.le_refl _, ?_, by simp, rfl, rfl⟩, World.grownBy_alloc w _ none, by simp⟩
  have : leftOf es #[] = es := by unfold leftOf; rw [Array.filter_eq_self]; intro x _; simp
  rw [this, hl]

/-- The step. -/
theorem RIs.next {w : World} {b r : Nat} {L done : List (α × β)} {cnt : Nat} (h : RIs ok kv vv w b r L done cnt) (ty : TypeId) :
    (done.Perm L ∧ (Instr.next (.pointer (some ⟨r, 0, none⟩)) false ty).run P w = .ok (.tuple #[.bool false]) w) ∨
    ∃ c w' cnt', c ∈ L ∧ (Instr.next (.pointer (some ⟨r, 0, none⟩)) false ty).run P w = .ok (.tuple #[.bool true, kv c.1, vv c.2]) w' ∧ RIs ok kv vv w' b r L (done ++ [c]) cnt' ∧ cnt' < cnt ∧ w.grownBy w' (some r) ∧ w'.heap.size = w.heap.size ∧
      (Instr.entry (.pointer (some ⟨r, 0, none⟩))).run P w' = .ok (.tuple #[kv c.1, vv c.2]) w' := by
  have hne := h.ne
  obtain ⟨es, clock, since, seen, c0, is, hb, hs, he, hok, hr, hold, hsc, hsk, rfl, hnd, hseen, hdone⟩ := h
  have hl : es.toList.length = L.length := by
    have := congrArg List.length he
    simpa using this
  rcases run_next_at (P := P) w ty r b since c0 seen es clock hr hb hold hsc with ⟨h0, hrun⟩ | ⟨e, hin, w1, hal, hrun⟩
  · refine Or.inl ⟨?_, hrun⟩
    have hall := all_seen es seen h0
    have hmem : ∀ i, i ∈ is ↔ i ∈ List.range L.length := by
      intro i
      rw [List.mem_range]
      constructor
      · intro hi
        have : L[i]? ∈ is.map (fun i => L[i]?) := List.mem_map.2 ⟨i, hi, rfl⟩
        rw [hdone] at this
        obtain ⟨c, _, hc⟩ := List.mem_map.1 this
        exact (List.getElem?_eq_some_iff.1 hc.symm).1
      · intro hi
        have hi' : i < es.toList.length := by omega
        have h1 := hall es.toList[i] (List.getElem_mem hi')
        have h2 : some (es.toList[i]).born ∈ seen.toList.map some := List.mem_map.2 ⟨_, by simpa using h1, rfl⟩
        rw [← hseen] at h2
        obtain ⟨i', hi'', e2⟩ := List.mem_map.1 h2
        obtain ⟨x, hx, hxb⟩ := Option.map_eq_some_iff.1 e2
        have e3 := born_inj hs.2.1 (List.mem_of_getElem? hx) (List.getElem_mem hi') hxb
        have e4 : es.toList[i']? = es.toList[i]? := by rw [hx, e3, List.getElem?_eq_getElem hi']
        have e5 : i' = i := by
          have hn : es.toList.Nodup := List.Pairwise.of_map (fun x : MapEntry => x.born) (fun a b (hne : a.born ≠ b.born) e => hne (by rw [e])) hs.2.1
          exact nodup_idx hn (List.getElem?_eq_some_iff.1 hx).1 hi' e4
        exact e5 ▸ hi''
    have hp := ((List.perm_ext_iff_of_nodup hnd List.nodup_range).2 hmem).map (fun i => L[i]?)
    have e1 : (List.range L.length).map (fun i => L[i]?) = L.map some := by
      apply List.ext_getElem?
      intro j
      by_cases hj : j < L.length
      · simp [hj]
      · simp [Nat.not_lt.1 hj]
    rw [hdone, e1] at hp
    have := hp.filterMap id
    simpa using this
  · right
    obtain ⟨hem, hes⟩ := mem_left hin
    obtain ⟨i, hi⟩ := List.mem_iff_getElem?.1 hem
    obtain ⟨c, hc, hk, hv⟩ := at_list he hi
    have hr1 : w1.heap[r]? = some (.mapIter (some b) since seen c0) := by rcases hal with rfl | rfl <;> exact hr
    have hb1 : w1.heap[b]? = some (.map es clock) := by rcases hal with rfl | rfl <;> exact hb
    have hset := heap_set (o' := .mapIter (some b) since (seen.push e.born) clock) hr1
    have hb' : (setBlock w1 r (.mapIter (some b) since (seen.push e.born) clock)).heap[b]? = some (.map es clock) := (hset.2 b (fun e1 => hne e1.symm)).trans hb1
    have hni : i ∉ is := by
      intro hmem
      have : es.toList[i]?.map (·.born) ∈ is.map (fun i => es.toList[i]?.map (·.born)) := List.mem_map.2 ⟨i, hmem, rfl⟩
      rw [hseen, hi] at this
      obtain ⟨y, hy, e⟩ := List.mem_map.1 this
      injection e with e
      subst e
      have : seen.contains _ = true := Array.contains_iff_mem.2 (Array.mem_toList_iff.1 hy)
      rw [hes] at this
      cases this
    refine ⟨c, _, _, List.mem_of_getElem? hc, by rw [hrun, hk, hv], ⟨es, clock, since, seen.push e.born, clock, is ++ [i], hb', hs, he, hok, hset.1, hold, hsk, hsk, rfl, ?_, ?_, ?_⟩, left_shrinks es seen e hin, ?_, ?_, ?_⟩
    · refine List.nodup_append.2 ⟨hnd, by simp, fun a ha d hd e => ?_⟩
      simp at hd
      subst hd e
      exact hni ha
    · rw [List.map_append, hseen, Array.toList_push, List.map_append, List.map_singleton, List.map_singleton, hi]
      rfl
    · rw [List.map_append, hdone, List.map_append]
      simp [hc]
    · rcases hal with rfl | rfl <;> exact ⟨rfl, rfl, rfl, by simp [setBlock], fun i _ hi => hset.2 i (fun e1 => hi (by rw [e1]))⟩
    · rcases hal with rfl | rfl <;> simp [setBlock]
    · rw [← hk, ← hv]
      exact run_entry_at _ r b since seen es clock e hset.1 hb' hem hs.2.1

variable (w : World) {ops : Array Oper} {rest : List Oper} {o : Oper} {a : Act} {Q : Exit → Act → World → Prop}
theorem wpList_range_is (hg : o.guard = none) (m : Operand) (t : TypeId) (hop : o.op = Op.range t m) (k e : TypeId) (ht : P.underlying t = some (.map k e)) (b : Nat) (L : List (α × β))
    (hm : a.eval m = .map (some b)) (hown : MapIs ok kv vv w b L)
    (hK : ∀ w', RIs ok kv vv w' b w.heap.size L [] L.length → w.grownBy w' none → w'.heap.size = w.heap.size + 1 → wpList P ops Q rest (a.put o.dst (.pointer (some ⟨w.heap.size, 0, none⟩))) w') :
    wpList P ops Q (o :: rest) a w := by
  refine wpList_plain hg fun K' hK' => ?_
  obtain ⟨w', hrun, r1, r2, r3⟩ := hown.range ht
  unfold Oper.wp
  simp [execOp, hop, hm, hrun, Result.andThen]
  exact hK' _ _ (hK w' r1 r2 r3)
theorem wpList_next_is (hg : o.guard = none) (it : Operand) (hop : o.op = Op.next it false) (b r : Nat) (L done : List (α × β)) (cnt : Nat)
    (hit : a.eval it = .pointer (some ⟨r, 0, none⟩)) (h : RIs ok kv vv w b r L done cnt)
    (hDone : done.Perm L → wpList P ops Q rest (a.put o.dst (.tuple #[.bool false])) w)
    (hMore : ∀ (c : α × β) (w' : World) (cnt' : Nat), c ∈ L → RIs ok kv vv w' b r L (done ++ [c]) cnt' → cnt' < cnt → w.grownBy w' (some r) → w'.heap.size = w.heap.size →
      (Instr.entry (.pointer (some ⟨r, 0, none⟩))).run P w' = .ok (.tuple #[kv c.1, vv c.2]) w' → wpList P ops Q rest (a.put o.dst (.tuple #[.bool true, kv c.1, vv c.2])) w') :
    wpList P ops Q (o :: rest) a w := by
  refine wpList_plain hg fun K' hK' => ?_
  unfold Oper.wp
  rcases h.next (P := P) o.type with ⟨hp, hrun⟩ | ⟨c, w', cnt', hc, hrun, h1, h2, h3, h4, h5⟩
  · simp [execOp, hop, hit, hrun, Result.andThen]
    exact hK' _ _ (hDone hp)
  · simp [execOp, hop, hit, hrun, Result.andThen]
    exact hK' _ _ (hMore c w' cnt' hc h1 h2 h3 h4 h5)
end
end Go.Proofs.Ytddjkkmdcdiofaa
