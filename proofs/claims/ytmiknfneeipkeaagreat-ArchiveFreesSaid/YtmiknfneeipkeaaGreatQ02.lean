/- Contracts of the walk, part 2. -/
import Derived.WalkKit
import Derived.Laws.AppendOwn
import Derived.Laws.OwnMore
import Derived.OwnWalk
import Derived.ArgAppend
import Derived.Maps.RangeWalk
import Derived.WideKeyEntry
import Derived.Test.YtmiknfneeipkeaaGreatQ01
namespace Go.Proofs.YtmiknfneeipkeaaGreat
open Go.RowKit

theorem perm_erase {α : Type} : ∀ (l : List α) (k : Nat) (o : α), l[k]? = some o → l.Perm (o :: l.eraseIdx k)
  | [], _, _, h => by simp at h
  | x :: l, 0, o, h => by
    simp at h
    subst h
    simp
  | x :: l, k + 1, o, h => by
    rw [List.getElem?_cons_succ] at h
    rw [List.eraseIdx_cons_succ]
    exact ((perm_erase l k o h).cons x).trans (List.Perm.swap _ _ _)
theorem erase_set {α : Type} : ∀ (l : List α) (k : Nat) (o : α), (l.set k o).eraseIdx k = l.eraseIdx k
  | [], _, _ => rfl
  | _ :: _, 0, _ => rfl
  | x :: l, k + 1, o => by rw [List.set_cons_succ, List.eraseIdx_cons_succ, List.eraseIdx_cons_succ, erase_set l k o]
/-- A thing in memory: the blocks that it may write, the blocks that it only reads, and what holds. -/
structure Ob where
  own : Nat → Prop
  rd : Nat → Prop
  holds : World → Prop
  stable : ∀ w w' : World, holds w → (w'.os = w.os ∧ w'.tape = w.tape ∧ w'.output = w.output ∧ w.heap.size ≤ w'.heap.size) → (∀ i, own i ∨ rd i → w'.heap[i]? = w.heap[i]?) → holds w'
/-- Neither of two things writes what the other one has. -/
def Apart (x y : Ob) : Prop := (∀ i, x.own i → ¬ y.own i ∧ ¬ y.rd i) ∧ ∀ i, y.own i → ¬ x.rd i
theorem Apart.symm {x y : Ob} (h : Apart x y) : Apart y x := ⟨fun i hi => ⟨fun hx => (h.1 i hx).1 hi, h.2 i hi⟩, fun i hi => (h.1 i hi).2⟩
/-- Only blocks of S change, and S' has beside them new ones alone. -/
structure Fr (w w' : World) (S S' : Nat → Prop) : Prop where
  os : w'.os = w.os
  tape : w'.tape = w.tape
  output : w'.output = w.output
  size : w.heap.size ≤ w'.heap.size
  block : ∀ i, i < w.heap.size → ¬ S i → w'.heap[i]? = w.heap[i]?
  own : ∀ i, S' i → S i ∨ w.heap.size ≤ i
theorem Fr.refl (w : World) (S : Nat → Prop) : Fr w w S S := ⟨rfl, rfl, rfl, Nat.le_refl _, fun _ _ _ => rfl, fun _ h => .inl h⟩
theorem Fr.of_below {w w' : World} (h : Below w.heap.size w w') (S : Nat → Prop) : Fr w w' S S := ⟨h.os, h.tape, h.output, h.size, fun i hi _ => h.block i hi, fun _ h => .inl h⟩
theorem Fr.new {w w' : World} (h : Below w.heap.size w w') {S S' : Nat → Prop} (hs : ∀ i, S' i → S i ∨ w.heap.size ≤ i) : Fr w w' S S' := ⟨h.os, h.tape, h.output, h.size, fun i hi _ => h.block i hi, hs⟩
theorem Fr.trans {w w1 w2 : World} {S S1 S2 : Nat → Prop} (h : Fr w w1 S S1) (k : Fr w1 w2 S1 S2) : Fr w w2 S S2 :=
  ⟨k.os.trans h.os, k.tape.trans h.tape, k.output.trans h.output, Nat.le_trans h.size k.size, fun i hi hn => (k.block i (Nat.lt_of_lt_of_le hi h.size) (fun h1 => by
    rcases h.own i h1 with h2 | h2
    · exact hn h2
    · omega)).trans (h.block i hi hn), fun i hi => by
    rcases k.own i hi with h1 | h1
    · exact h.own i h1
    · exact .inr (Nat.le_trans h.size h1)⟩
theorem Fr.wide {w w' : World} {S S' T T' : Nat → Prop} (h : Fr w w' S S') (hS : ∀ i, S i → T i) (hT : ∀ i, T' i → T i ∨ w.heap.size ≤ i) : Fr w w' T T' :=
  ⟨h.os, h.tape, h.output, h.size, fun i hi hn => h.block i hi (fun hs => hn (hS i hs)), hT⟩
theorem Fr.grown {w w' : World} {g : Nat} (h : w.grownBy w' (some g)) {S S' : Nat → Prop} (hg : S g) (hs : ∀ i, S' i → S i ∨ w.heap.size ≤ i) : Fr w w' S S' :=
  ⟨h.os, h.tape, h.output, h.size, fun i hi hn => h.block i hi (fun e => hn (by injection e with e; rw [e]; exact hg)), hs⟩
theorem Fr.below {w w' : World} {S S' : Nat → Prop} {b : Nat} (h : Fr w w' S S') (hb : ∀ i, S i → b ≤ i) (h0 : b ≤ w.heap.size) : Below b w w' :=
  ⟨h.os, h.tape, h.output, h.size, fun i hi => h.block i (by omega) (fun hs => by have := hb i hs; omega)⟩
/-- Things side by side, all that they write from b on. -/
structure Sep (b : Nat) (w : World) (l : List Ob) : Prop where
  base : b ≤ w.heap.size
  holds : ∀ o ∈ l, o.holds w
  own : ∀ o ∈ l, ∀ i, o.own i → b ≤ i ∧ i < w.heap.size
  rd : ∀ o ∈ l, ∀ i, o.rd i → i < w.heap.size
  apart : l.Pairwise Apart
section
variable {b : Nat} {w w' : World} {o o' x y : Ob} {l l' : List Ob}
theorem Sep.perm (h : Sep b w l) (hp : l'.Perm l) : Sep b w l' :=
  ⟨h.base, fun o ho => h.holds o (hp.mem_iff.1 ho), fun o ho => h.own o (hp.mem_iff.1 ho), fun o ho => h.rd o (hp.mem_iff.1 ho), (hp.pairwise_iff (fun h => h.symm)).2 h.apart⟩
theorem Sep.sub (h : Sep b w l) (hs : l'.Sublist l) : Sep b w l' :=
  ⟨h.base, fun o ho => h.holds o (hs.subset ho), fun o ho => h.own o (hs.subset ho), fun o ho => h.rd o (hs.subset ho), h.apart.sublist hs⟩
theorem Sep.tail (h : Sep b w (o :: l)) : Sep b w l := h.sub (List.sublist_cons_self _ _)
theorem Sep.swap (h : Sep b w (x :: y :: l)) : Sep b w (y :: x :: l) := h.perm (List.Perm.swap _ _ _)
theorem Sep.rot3 (h : Sep b w (x :: y :: o :: l)) : Sep b w (o :: x :: y :: l) := h.perm ((List.Perm.swap _ _ _).trans ((List.Perm.swap _ _ _).cons _))
theorem Sep.back3 (h : Sep b w (o :: x :: y :: l)) : Sep b w (x :: y :: o :: l) := h.perm (((List.Perm.swap _ _ _).cons _).trans (List.Perm.swap _ _ _))
theorem Sep.head (h : Sep b w (o :: l)) : o.holds w := h.holds o (by simp)
theorem Sep.nil (w : World) (h : b ≤ w.heap.size) : Sep b w [] := ⟨h, by simp, by simp, by simp, List.Pairwise.nil⟩
/-- The first thing is changed. -/
theorem Sep.step (h : Sep b w (o :: l)) (hf : Fr w w' o.own o'.own) (hr : ∀ i, o'.rd i → o.own i ∨ o.rd i ∨ w.heap.size ≤ i) (hh : o'.holds w') (hlt : ∀ i, o'.own i ∨ o'.rd i → i < w'.heap.size) : Sep b w' (o' :: l) ∧ Below b w w' := by
  have hown := h.own o (by simp)
  obtain ⟨ha, hp⟩ := List.pairwise_cons.1 h.apart
  have hb : Below b w w' := hf.below (fun i hi => (hown i hi).1) h.base
  refine ⟨⟨Nat.le_trans h.base hf.size, fun y hy => ?_, fun y hy i hi => ?_, fun y hy i hi => ?_, List.pairwise_cons.2 ⟨fun y hy => ?_, hp⟩⟩, hb⟩
  · rcases List.mem_cons.1 hy with rfl | hy
    · exact hh
    · refine y.stable w w' (h.holds y (by simp [hy])) ⟨hf.os, hf.tape, hf.output, hf.size⟩ (fun i hi => ?_)
      refine hf.block i ?_ (fun ho => ?_)
      · rcases hi with hi | hi
        · exact (h.own y (by simp [hy]) i hi).2
        · exact h.rd y (by simp [hy]) i hi
      · have := (ha y hy).1 i ho
        rcases hi with hi | hi
        · exact this.1 hi
        · exact this.2 hi
  · rcases List.mem_cons.1 hy with rfl | hy
    · refine ⟨?_, hlt i (.inl hi)⟩
      rcases hf.own i hi with h1 | h1
      · exact (hown i h1).1
      · have := h.base; omega
    · have := h.own y (by simp [hy]) i hi
      exact ⟨this.1, Nat.lt_of_lt_of_le this.2 hf.size⟩
  · rcases List.mem_cons.1 hy with rfl | hy
    · exact hlt i (.inr hi)
    · exact Nat.lt_of_lt_of_le (h.rd y (by simp [hy]) i hi) hf.size
  · have hyo := h.own y (by simp [hy])
    have hyr := h.rd y (by simp [hy])
    refine ⟨fun i hi => ?_, fun i hi hi' => ?_⟩
    · rcases hf.own i hi with h1 | h1
      · exact (ha y hy).1 i h1
      · exact ⟨fun h2 => by have := (hyo i h2).2; omega, fun h2 => by have := hyr i h2; omega⟩
    · rcases hr i hi' with h1 | h1 | h1
      · exact ((ha y hy).1 i h1).1 hi
      · exact (ha y hy).2 i hi h1
      · have := (hyo i hi).2; omega
/-- One thing more, in new memory. -/
theorem Sep.add (h : Sep b w l) (hb : Below w.heap.size w w') (hh : o'.holds w') (ho : ∀ i, o'.own i → w.heap.size ≤ i ∧ i < w'.heap.size) (hr : ∀ i, o'.rd i → i < w'.heap.size) (hn : ∀ i, o'.rd i → i < w.heap.size → ∀ y ∈ l, ¬ y.own i) : Sep b w' (o' :: l) ∧ Below b w w' := by
  refine ⟨⟨Nat.le_trans h.base hb.size, fun y hy => ?_, fun y hy i hi => ?_, fun y hy i hi => ?_, List.pairwise_cons.2 ⟨fun y hy => ⟨fun i hi => ⟨fun h2 => ?_, fun h2 => ?_⟩, fun i hi hi' => ?_⟩, h.apart⟩⟩, hb.mono h.base⟩
  · rcases List.mem_cons.1 hy with rfl | hy
    · exact hh
    · refine y.stable w w' (h.holds y hy) ⟨hb.os, hb.tape, hb.output, hb.size⟩ (fun i hi => hb.block i ?_)
      rcases hi with hi | hi
      · exact (h.own y hy i hi).2
      · exact h.rd y hy i hi
  · rcases List.mem_cons.1 hy with rfl | hy
    · have := ho i hi; have := h.base; omega
    · have := h.own y hy i hi; have := hb.size; omega
  · rcases List.mem_cons.1 hy with rfl | hy
    · exact hr i hi
    · have := h.rd y hy i hi; have := hb.size; omega
  · have := (ho i hi).1; have := (h.own y hy i h2).2; omega
  · have := (ho i hi).1; have := h.rd y hy i h2; omega
  · by_cases hlt : i < w.heap.size
    · exact hn i hi' hlt y hy hi
    · have := (h.own y hy i hi).2; omega
/-- Only new memory. -/
theorem Sep.on (h : Sep b w l) (hb : Below w.heap.size w w') : Sep b w' l :=
  ⟨Nat.le_trans h.base hb.size, fun y hy => y.stable w w' (h.holds y hy) ⟨hb.os, hb.tape, hb.output, hb.size⟩ (fun i hi => hb.block i (by
      rcases hi with hi | hi
      · exact (h.own y hy i hi).2
      · exact h.rd y hy i hi)), fun y hy i hi => ⟨(h.own y hy i hi).1, Nat.lt_of_lt_of_le (h.own y hy i hi).2 hb.size⟩, fun y hy i hi => Nat.lt_of_lt_of_le (h.rd y hy i hi) hb.size, h.apart⟩
/-- A thing that only reads what another one reads. -/
theorem Sep.view (h : Sep b w (o :: l)) (hh : o'.holds w) (ho : ∀ i, ¬ o'.own i) (hr : ∀ i, o'.rd i → o.rd i) (hx : ∀ i, o.own i → ¬ o.rd i) : Sep b w (o' :: o :: l) :=
  ⟨h.base, fun y hy => by
    rcases List.mem_cons.1 hy with rfl | hy
    · exact hh
    · exact h.holds y hy, fun y hy i hi => by
    rcases List.mem_cons.1 hy with rfl | hy
    · exact absurd hi (ho i)
    · exact h.own y hy i hi, fun y hy i hi => by
    rcases List.mem_cons.1 hy with rfl | hy
    · exact h.rd o (by simp) i (hr i hi)
    · exact h.rd y hy i hi, List.pairwise_cons.2 ⟨fun y hy => ⟨fun i hi => absurd hi (ho i), fun i hi hi' => by
      rcases List.mem_cons.1 hy with rfl | hy
      · exact hx i hi (hr i hi')
      · exact ((List.pairwise_cons.1 h.apart).1 y hy).2 i hi (hr i hi')⟩, h.apart⟩⟩
/-- The thing at place k is changed. -/
theorem Sep.pull (h : Sep b w l) {k : Nat} (hk : l[k]? = some o) : Sep b w (o :: l.eraseIdx k) := h.perm (perm_erase l k o hk).symm
theorem Sep.stepAt (h : Sep b w l) (k : Nat) (hk : l[k]? = some o) (hf : Fr w w' o.own o'.own) (hr : ∀ i, o'.rd i → o.own i ∨ o.rd i ∨ w.heap.size ≤ i) (hh : o'.holds w') (hlt : ∀ i, o'.own i ∨ o'.rd i → i < w'.heap.size) : Sep b w' (l.set k o') ∧ Below b w w' := by
  obtain ⟨h1, h2⟩ := (h.pull hk).step hf hr hh hlt
  refine ⟨h1.perm ?_, h2⟩
  have hl := (List.getElem?_eq_some_iff.1 hk).1
  have h3 := perm_erase (l.set k o') k o' (by rw [List.getElem?_set_self hl])
  rw [erase_set] at h3
  exact h3
theorem Sep.get (h : Sep b w l) {k : Nat} (hk : l[k]? = some o) : o.holds w := h.holds o (List.mem_of_getElem? hk)
theorem Sep.own_ge (h : Sep b w l) {k : Nat} (hk : l[k]? = some o) {i : Nat} (hi : o.own i) : b ≤ i ∧ i < w.heap.size := h.own o (List.mem_of_getElem? hk) i hi
end
/-- A block of cells. -/
def cellOb (g : Nat) (t : TypeId) (cs : Array Value) : Ob where
  own := fun i => i = g
  rd := fun _ => False
  holds := fun w => IsB w g t cs
  stable := fun w w' h _ hk => (hk g (.inl rfl)).trans h
theorem Sep.cell {b : Nat} {w : World} {l : List Ob} (h : Sep b w l) {k g : Nat} {t : TypeId} {cs : Array Value} (hk : l[k]? = some (cellOb g t cs)) : IsB w g t cs := h.get hk
/-- A cell is written. -/
theorem Sep.setAt {b : Nat} {w : World} {l : List Ob} (h : Sep b w l) (k : Nat) {g : Nat} {t : TypeId} {cs : Array Value} (hk : l[k]? = some (cellOb g t cs)) (j : Nat) (u : Value) : Sep b (w.setCell ⟨g, j, none⟩ u) (l.set k (cellOb g t (cs.setIfInBounds j u))) ∧ Below b w (w.setCell ⟨g, j, none⟩ u) := by
  have hc := h.cell hk
  have hg : w.grownBy (w.setCell ⟨g, j, none⟩ u) (some g) := g_set (p := ⟨g, j, none⟩) (g_refl _ _) (.inl rfl) _
  refine h.stepAt k hk (Fr.grown hg rfl (fun i hi => .inl hi)) (fun i hi => hi.elim) (hc.set_ j u) (fun i hi => ?_)
  rcases hi with hi | hi
  · have := hc.lt
    have e : i = g := hi
    rw [e]
    simpa [World.setCell] using this
  · exact hi.elim
/-- A new block of cells. -/
theorem Sep.newCell {b : Nat} {w : World} {l : List Ob} (h : Sep b w l) (t : TypeId) (cs : Array Value) : Sep b (w.alloc (.cells cs t)) (cellOb w.heap.size t cs :: l) ∧ Below b w (w.alloc (.cells cs t)) :=
  h.add ((Below.refl _ _).alloc (Nat.le_refl _) _) (IsB.new w t cs) (fun i hi => by have e : i = w.heap.size := hi; simp [e]) (fun i hi => hi.elim) (fun i hi => hi.elim)
end Go.Proofs.YtmiknfneeipkeaaGreat
namespace Go.Proofs.YtmiknfneeipkeaaGreat
open Go.RowKit

section
variable {P : Program}
theorem append_nil_run (w : World) (base : Nat) (t ty e : TypeId) (i : TypeInfo) (size : Nat) (ht : P.underlying t = some (.slice e)) (hi : P.info? e = some i)
    (v : Value) (n : Nat) (xs : List Value) (hown : w.ownsRow base e size v n xs) (c : Nat) : (Builtin.append_ #[t, t] ty #[v, .slice none 0 c]).run P w = .ok v w := by
  rcases hown.2 with ⟨rfl, rfl⟩ | ⟨g, cap, cur, rfl, _, _, hnc, _⟩
  · simp [Builtin.append_, run_underlying ht, sizeOf, typeInfo, hi, Builtin.lenOf, Builtin.firstCells]
  · simp [Builtin.append_, run_underlying ht, sizeOf, typeInfo, hi, Builtin.lenOf, Builtin.firstCells, hnc, storeCells]

theorem wpList_append_opt {w : World} {ops : Array Oper} {rest : List Oper} {o : Oper} {a : Act} {Q : Exit → Act → World → Prop} (hgd : o.guard = none) (s x : Operand) (t : TypeId)
    (ho : o.op = .call { callee := .builtin .append, args := #[s, x], argTypes := #[t, t] })
    (base : Nat) (e : TypeId) (i : TypeInfo) (z : Value) (size bytes : Nat) (ht : P.underlying t = some (.slice e)) (hi : P.info? e = some i) (hz : i.zero = some z)
    (hsize : i.size = size) (hby : i.bytes = bytes) (hzs : z.cells.size = size) (hsz : 0 < size)
    (v : Value) (n : Nat) (xs : List Value) (hs : a.eval s = v) (hown : w.ownsRow base e size v n xs)
    (A : Option Addr) (m c : Nat) (news : List Value) (hx : a.eval x = .slice A m c) (hl : news.length = m * size)
    (hnil : A = none → m = 0) (hnews : ∀ ad, A = some ad → ∀ j u, news[j]? = some u → w.cell? (ad.add j) = some u) (h1 : ∀ u ∈ news, u.oneCell' = true)
    (h63 : n + m ≤ maxLen) (hbytes : (n + m) * bytes ≤ 140737488355328) (hbase : base ≤ w.heap.size)
    (h : ∀ v' w', w'.ownsRow base e size v' (n + m) (xs ++ news) → w.grownBy w' v.ownBlock → wpList P ops Q rest (a.put o.dst v') w') : wpList P ops Q (o :: rest) a w := by
  cases A with
  | none =>
    have hm : m = 0 := hnil rfl
    subst hm
    have hn : news = [] := List.eq_nil_of_length_eq_zero (by simpa using hl)
    subst hn
    refine wpList_plain hgd fun K hK => ?_
    have hrun := append_nil_run (P := P) w base t o.type e i size ht hi v n xs hown c
    unfold Oper.wp execOp
    simp only [ho, resolve, invoke, builtin, Sem.run_bind, Sem.run_pure, Result.andThen_ok, List.map_toArray, List.map_cons, List.map_nil, hs, hx, hrun]
    exact hK _ _ (h v w (by simpa using hown) ⟨rfl, rfl, rfl, Nat.le_refl _, fun _ _ _ => rfl⟩)
  | some ad =>
    exact wpList_append_own w hgd s x t ho base e i z size bytes ht hi hz hsize hby hzs hsz v n xs hs hown ad m c news hx hl (hnews ad rfl) h1 h63 hbytes hbase (fun v' w' h2 h3 _ => h v' w' h2 h3)
end
end Go.Proofs.YtmiknfneeipkeaaGreat
namespace Go.Proofs.YtmiknfneeipkeaaGreat
open Go.RowKit

section
variable {P : Program}
theorem append_block (w : World) (t ty e : TypeId) (i : TypeInfo) (z : Value) (ht : P.underlying t = some (.slice e)) (hi : P.info? e = some i) (hz : i.zero = some z)
    (v : Value) (n : Nat) (xs : List Value) (hown : w.ownsRow 0 e i.size v n xs) (a : Addr) (m c : Nat) (news : List Value) (hl : news.length = m * i.size) (hnews : ∀ j u, news[j]? = some u → w.cell? (a.add j) = some u)
    (h1 : ∀ u ∈ news, u.oneCell' = true) (hm : 0 < m) (h63 : n + m ≤ maxLen) (hbytes : (n + m) * i.bytes ≤ 140737488355328) {v' : Value} {w' : World}
    (hr : (Builtin.append_ #[t, t] ty #[v, .slice (some a) m c]).run P w = .ok v' w') : v'.ownBlock = v.ownBlock ∨ v'.ownBlock = some w.heap.size := by
  unfold maxLen at h63
  rcases hown.2 with ⟨rfl, rfl⟩ | ⟨g, cap, cur, rfl, _, hg, hnc, _, hcs, htk⟩
  · rw [run_append_nil w t ty e i z ht hi hz a m c news hl hnews hm (by omega) (by rw [Nat.zero_add] at hbytes; omega)] at hr
    injection hr with hv _
    subst hv
    exact .inr rfl
  · by_cases hroom : n + m ≤ cap
    · have hsz : (n + m) * i.size ≤ cap * i.size := Nat.mul_le_mul_right _ hroom
      rw [Nat.add_mul] at hsz
      rw [run_append_room_cells w t ty e i ht hi g 0 n cap a m c news hl hnews h1 hroom (fun j hj => by
        rw [cell_of_row w g _ cur e (0, 0) hg, Array.getElem?_eq_getElem (by omega)]
        rfl) (fun j hj => by simp [World.frozen?, hg])] at hr
      injection hr with hv _
      subst hv
      exact .inl rfl
    · rw [run_append_grow w t ty e i z ht hi hz ⟨g, 0, none⟩ n cap xs hown.1 (fun j u hu => by
        have hj : j < n * i.size := by
          have := (List.getElem?_eq_some_iff.1 hu).1
          rw [hown.1] at this
          exact this
        rw [show (⟨g, 0, none⟩ : Addr).add j = ⟨g, j, none⟩ by unfold Addr.add; split <;> simp_all, cell_of_row w g _ cur e (0, 0) hg, ← Array.getElem?_toList, ← hu, ← htk, List.getElem?_take_of_lt hj]) a m c news hl hnews (by omega) (by omega) (growslice_fits (by omega) hbytes)] at hr
      injection hr with hv _
      subst hv
      exact .inr rfl
theorem step_append_row {w : World} {ops : Array Oper} {o : Oper} {a : Act} {K : Act → World → Prop} {Q : Exit → Act → World → Prop} {E : Prop} (hgd : o.guard = none) (s x : Operand) (t : TypeId)
    (ho : o.op = .call { callee := .builtin .append, args := #[s, x], argTypes := #[t, t] })
    (e : TypeId) (i : TypeInfo) (z : Value) (size bytes : Nat) (ht : P.underlying t = some (.slice e)) (hi : P.info? e = some i) (hz : i.zero = some z)
    (hsize : i.size = size) (hby : i.bytes = bytes) (hzs : z.cells.size = size) (hsz : 0 < size)
    (v : Value) (n : Nat) (xs : List Value) (hs : a.eval s = v) (hown : w.ownsRow 0 e size v n xs)
    (ad : Addr) (m c : Nat) (news : List Value) (hx : a.eval x = .slice (some ad) m c) (hl : news.length = m * size) (hnews : ∀ j u, news[j]? = some u → w.cell? (ad.add j) = some u) (h1 : ∀ u ∈ news, u.oneCell' = true)
    (hm : 0 < m) (h63 : n + m ≤ maxLen) (hbytes : (n + m) * bytes ≤ 140737488355328)
    (h : ∀ v' w', w'.ownsRow 0 e size v' (n + m) (xs ++ news) → w.grownBy w' v.ownBlock → v'.ownBlock = v.ownBlock ∨ v'.ownBlock = some w.heap.size → K (a.put o.dst v') w') :
    if Region.wanted o (yielded ops a.tmps) = true then Oper.wp P o a w K Q else E := by
  have hw : Region.wanted o (yielded ops a.tmps) = true := by simp [Region.wanted, hgd]
  rw [if_pos hw]
  subst hsize hby
  obtain ⟨v', w', hr, h2, h3, _⟩ := run_append_own (P := P) w 0 t o.type e i z i.size i.bytes ht hi hz rfl rfl hzs hsz v n xs hown ad m c news hl hnews h1 h63 hbytes (Nat.zero_le _)
  have h4 := append_block w t o.type e i z ht hi hz v n xs hown ad m c news hl hnews h1 hm h63 hbytes hr
  unfold Oper.wp execOp
  simp only [ho, resolve, invoke, builtin, Sem.run_bind, Sem.run_pure, Result.andThen_ok, List.map_toArray, List.map_cons, List.map_nil, hs, hx, hr]
  exact h v' w' h2 h3 h4
end
end Go.Proofs.YtmiknfneeipkeaaGreat
namespace Go.Proofs.YtmiknfneeipkeaaGreat
open Go.RowKit Go.MapKept Go.ChangeMaps
open Go.Maps (Keyed)

section
variable {α β : Type} [DecidableEq α]

/-- What the list has at a key. -/
def asc : List (α × β) → α → Option β
  | [], _ => none
  | c :: L, a => if c.1 = a then some c.2 else asc L a
/-- The list with v at a key. -/
def setL : List (α × β) → α → β → List (α × β)
  | [], a, v => [(a, v)]
  | c :: L, a, v => if c.1 = a then (a, v) :: L else c :: setL L a v
theorem asc_none {L : List (α × β)} {a : α} (h : ∀ c ∈ L, c.1 ≠ a) : asc L a = none := by
  induction L with
  | nil => rfl
  | cons c L ih => rw [asc, if_neg (h c (by simp)), ih (fun c hc => h c (by simp [hc]))]
theorem asc_at {L : List (α × β)} (hn : (L.map (·.1)).Nodup) {j : Nat} {c : α × β} (h : L[j]? = some c) : asc L c.1 = some c.2 := by
  induction L generalizing j with
  | nil => simp at h
  | cons d L ih =>
    simp only [List.map_cons, List.nodup_cons] at hn
    cases j with
    | zero => simp at h; subst h; simp [asc]
    | succ j =>
      simp only [List.getElem?_cons_succ] at h
      have : d.1 ≠ c.1 := fun e => hn.1 (by rw [e]; exact List.mem_map.2 ⟨c, List.mem_of_getElem? h, rfl⟩)
      rw [asc, if_neg this, ih hn.2 h]
theorem asc_mem {L : List (α × β)} (hn : (L.map (·.1)).Nodup) {c : α × β} (h : c ∈ L) : asc L c.1 = some c.2 := by
  obtain ⟨j, hj⟩ := List.mem_iff_getElem?.1 h
  exact asc_at hn hj
theorem mem_of_asc {L : List (α × β)} {a : α} {v : β} (h : asc L a = some v) : (a, v) ∈ L := by
  induction L with
  | nil => cases h
  | cons c L ih =>
    rw [asc] at h
    split at h
    · rename_i e
      injection h with h
      subst e h
      simp
    · exact List.mem_cons_of_mem _ (ih h)
theorem setL_none {L : List (α × β)} {a : α} (h : ∀ c ∈ L, c.1 ≠ a) (v : β) : setL L a v = L ++ [(a, v)] := by
  induction L with
  | nil => rfl
  | cons c L ih => rw [setL, if_neg (h c (by simp)), ih (fun c hc => h c (by simp [hc]))]; rfl
theorem setL_at {L : List (α × β)} (hn : (L.map (·.1)).Nodup) {j : Nat} {c : α × β} (h : L[j]? = some c) (v : β) : setL L c.1 v = L.set j (c.1, v) := by
  induction L generalizing j with
  | nil => simp at h
  | cons d L ih =>
    simp only [List.map_cons, List.nodup_cons] at hn
    cases j with
    | zero => simp at h; subst h; simp [setL]
    | succ j =>
      simp only [List.getElem?_cons_succ] at h
      have : d.1 ≠ c.1 := fun e => hn.1 (by rw [e]; exact List.mem_map.2 ⟨c, List.mem_of_getElem? h, rfl⟩)
      rw [setL, if_neg this, ih hn.2 h]
      rfl
theorem asc_setL (L : List (α × β)) (a a' : α) (v : β) : asc (setL L a v) a' = if a = a' then some v else asc L a' := by
  induction L with
  | nil => simp [setL, asc]
  | cons c L ih =>
    rw [setL]
    split
    · rename_i e
      subst e
      simp only [asc]
      split <;> rfl
    · rename_i e
      simp only [asc, ih]
      split
      · rename_i e2
        rw [if_neg (fun e3 => e (e2.trans e3.symm))]
      · rfl
theorem setL_keys (L : List (α × β)) (a : α) (v : β) (a' : α) : a' ∈ (setL L a v).map (·.1) ↔ a' = a ∨ a' ∈ L.map (·.1) := by
  induction L with
  | nil => simp [setL]
  | cons c L ih =>
    rw [setL]
    split
    · rename_i e; subst e; simp
    · rw [List.map_cons, List.mem_cons, ih, List.map_cons, List.mem_cons]
      constructor <;> rintro (h | h | h) <;> simp [h]
theorem setL_length (L : List (α × β)) (a : α) (v : β) : (setL L a v).length ≤ L.length + 1 := by
  induction L with
  | nil => simp [setL]
  | cons c L ih => rw [setL]; split <;> simp <;> omega
end

section
variable {α β : Type}
variable (P : Program) (k : TypeId) (ok : α → Prop) (kv : α → Value) (vv : β → Value)

/-- What a map's keys must be. -/
structure MK : Prop where
  K : Keyed P k
  key : ∀ a, ok a → ∃ l, keyOf P k (kv a) = some l
  inj : ∀ a b, kv a = kv b → a = b

/-- Block b is a map that holds the pairs L, in the order in which the keys were laid. -/
def MapIs (w : World) (b : Nat) (L : List (α × β)) : Prop :=
  ∃ es clock, w.heap[b]? = some (.map es clock) ∧ Stamped es clock ∧ es.toList.map (fun e => (e.key, e.val)) = L.map (fun c => (kv c.1, vv c.2)) ∧ ∀ c ∈ L, ok c.1

variable {P k ok kv vv}
theorem MapIs.lt {w : World} {b : Nat} {L : List (α × β)} (h : MapIs ok kv vv w b L) : b < w.heap.size := by
  obtain ⟨es, clock, hb, _⟩ := h
  exact (Array.getElem?_eq_some_iff.1 hb).1
theorem MapIs.made (w : World) : MapIs ok kv vv (w.alloc (.map #[] 0)) w.heap.size ([] : List (α × β)) :=
  ⟨#[], 0, (MapKept.heap_alloc w _).1, stamped_empty 0, rfl, by simp⟩
theorem MapIs.same {w w' : World} {b : Nat} {L : List (α × β)} (h : MapIs ok kv vv w b L) (hb : w'.heap[b]? = w.heap[b]?) : MapIs ok kv vv w' b L := by
  obtain ⟨es, clock, h1, h2⟩ := h
  exact ⟨es, clock, hb.trans h1, h2⟩
theorem MapIs.kept {w w' : World} {b : Nat} {L : List (α × β)} {row : Option Nat} (h : MapIs ok kv vv w b L) (hg : w.grownBy w' row) (hne : some b ≠ row) : MapIs ok kv vv w' b L := h.same (hg.block b h.lt hne)
theorem MapIs.on {w w' : World} {b : Nat} {L : List (α × β)} (h : MapIs ok kv vv w b L) (hb : Below w.heap.size w w') : MapIs ok kv vv w' b L := h.same (hb.block b h.lt)
theorem MapIs.alloc {w : World} {b : Nat} {L : List (α × β)} (h : MapIs ok kv vv w b L) (o : Obj) : MapIs ok kv vv (w.alloc o) b L := h.on ((Below.refl _ _).alloc (Nat.le_refl _) o)

theorem keys_nodup {es : Array MapEntry} {clock : Nat} (hs : Stamped es clock) {L : List (α × β)} (he : es.toList.map (fun e => (e.key, e.val)) = L.map (fun c => (kv c.1, vv c.2))) : (L.map (·.1)).Nodup := by
  have h1 : (L.map (fun c => kv c.1)).Nodup := by
    have : es.toList.map (·.key) = L.map (fun c => kv c.1) := by
      have := congrArg (List.map Prod.fst) he
      simpa [Function.comp_def] using this
    rw [← this]
    exact hs.2.2
  have h2 : L.map (fun c => kv c.1) = (L.map (·.1)).map kv := by simp
  rw [h2] at h1
  exact List.Pairwise.of_map kv (fun a b (hne : kv a ≠ kv b) e => hne (by rw [e])) h1
theorem MapIs.nodup {w : World} {b : Nat} {L : List (α × β)} (h : MapIs ok kv vv w b L) : (L.map (·.1)).Nodup := by
  obtain ⟨es, clock, h1, h2, h3, _⟩ := h
  exact keys_nodup h2 h3
theorem MapIs.oks {w : World} {b : Nat} {L : List (α × β)} (h : MapIs ok kv vv w b L) : ∀ c ∈ L, ok c.1 := by
  obtain ⟨es, clock, _, _, _, h4⟩ := h
  exact h4

theorem at_list {es : Array MapEntry} {L : List (α × β)} (he : es.toList.map (fun e => (e.key, e.val)) = L.map (fun c => (kv c.1, vv c.2))) {j : Nat} {e : MapEntry} (hj : es.toList[j]? = some e) : ∃ c, L[j]? = some c ∧ e.key = kv c.1 ∧ e.val = vv c.2 := by
  have := congrArg (fun l => l[j]?) he
  simp only [List.getElem?_map, hj, Option.map_some] at this
  cases hc : L[j]? with
  | none => rw [hc] at this; cases this
  | some c => rw [hc] at this; simp at this; exact ⟨c, rfl, this.1, this.2⟩
theorem in_list {es : Array MapEntry} {L : List (α × β)} (he : es.toList.map (fun e => (e.key, e.val)) = L.map (fun c => (kv c.1, vv c.2))) {c : α × β} (hc : c ∈ L) : ∃ e ∈ es.toList, e.key = kv c.1 ∧ e.val = vv c.2 := by
  have : (kv c.1, vv c.2) ∈ L.map (fun c => (kv c.1, vv c.2)) := List.mem_map.2 ⟨c, hc, rfl⟩
  rw [← he] at this
  obtain ⟨e, he, h⟩ := List.mem_map.1 this
  injection h with h1 h2
  exact ⟨e, he, h1, h2⟩
theorem keys_ok (M : MK P k ok kv) {es : Array MapEntry} {L : List (α × β)} (he : es.toList.map (fun e => (e.key, e.val)) = L.map (fun c => (kv c.1, vv c.2))) (hok : ∀ c ∈ L, ok c.1) : ∀ e ∈ es.toList, ∃ l, keyOf P k e.key = some l := by
  intro e hm
  obtain ⟨j, hj⟩ := List.mem_iff_getElem?.1 hm
  obtain ⟨c, hc, h1, _⟩ := at_list he hj
  rw [h1]
  exact M.key _ (hok c (List.mem_of_getElem? hc))

/-- Where a key is. -/
theorem MapIs.find (M : MK P k ok kv) {w : World} {es : Array MapEntry} {clock : Nat} (_hs : Stamped es clock) {L : List (α × β)} (he : es.toList.map (fun e => (e.key, e.val)) = L.map (fun c => (kv c.1, vv c.2))) (hok : ∀ c ∈ L, ok c.1) {a : α} (ha : ok a) :
    ((Instr.findKey k (kv a) es.toList).run P w = .ok none w ∧ (∀ e ∈ es.toList, e.key ≠ kv a) ∧ ∀ c ∈ L, c.1 ≠ a) ∨
    ∃ j e v, (Instr.findKey k (kv a) es.toList).run P w = .ok (some (j, e.val)) w ∧ es.toList[j]? = some e ∧ e.key = kv a ∧ L[j]? = some (a, v) ∧ e.val = vv v := by
  obtain ⟨l, hl⟩ := M.key a ha
  rcases M.K.find w hl es.toList (keys_ok M he hok) with ⟨h1, h2⟩ | ⟨j, e, h1, h2, h3⟩
  · refine Or.inl ⟨h1, h2, fun c hc e => ?_⟩
    obtain ⟨x, hx, hk, _⟩ := in_list he hc
    exact h2 x hx (by rw [hk, e])
  · obtain ⟨c, hc, hk, hv⟩ := at_list he h2
    have : c.1 = a := M.inj _ _ (by rw [← hk, h3])
    subst this
    exact Or.inr ⟨j, e, c.2, h1, h2, h3, hc, hv⟩

theorem MapIs.len {t e : TypeId} (ht : P.underlying t = some (.map k e)) {w : World} {b : Nat} {L : List (α × β)} (h : MapIs ok kv vv w b L) (ty : TypeId) : (Builtin.len_ #[t] ty #[.map (some b)]).run P w = .ok (.int .i64 L.length) w := by
  obtain ⟨es, clock, hb, hs, he, hok⟩ := h
  have hl : es.size = L.length := by
    have := congrArg List.length he
    simpa using this
  simp [Builtin.len_, run_underlying ht, MapKept.run_getObj_map hb, Result.andThen, hl, goInt]

variable [DecidableEq α]
/-- 'm[a]' and 'm[a]' with ok. -/
theorem MapIs.look (M : MK P k ok kv) {t e : TypeId} (ht : P.underlying t = some (.map k e)) {w : World} {z : Value} (hz : (zeroValue e).run P w = .ok z w) {b : Nat} {L : List (α × β)} (h : MapIs ok kv vv w b L) {a : α} (ha : ok a) (c : Bool) :
    (Instr.lookup t (.map (some b)) (kv a) c).run P w = .ok (match asc L a with | none => if c then .tuple #[z, .bool false] else z | some v => if c then .tuple #[vv v, .bool true] else vv v) w := by
  obtain ⟨es, clock, hb, hs, he, hok⟩ := h
  obtain ⟨l, hl⟩ := M.key a ha
  rcases MapIs.find (w := w) M hs he hok ha with ⟨h1, _, h2⟩ | ⟨j, x, v, h1, h2, h3, h4, h5⟩
  · rw [asc_none h2]
    simp [Instr.lookup, run_underlying ht, MapKept.run_getObj_map hb, M.K.check w _ hl, h1, hz, Result.andThen]
  · have ea : asc L a = some v := asc_at (keys_nodup hs he) h4
    simp only [ea]
    simp [Instr.lookup, run_underlying ht, MapKept.run_getObj_map hb, M.K.check w _ hl, h1, h5, Result.andThen]

theorem setL_enc {es : Array MapEntry} {clock : Nat} (hs : Stamped es clock) {L : List (α × β)} (he : es.toList.map (fun e => (e.key, e.val)) = L.map (fun c => (kv c.1, vv c.2))) {j : Nat} {a : α} {v0 : β} (h4 : L[j]? = some (a, v0)) (v : β) :
    (es.modify j (fun e' => { e' with key := kv a, val := vv v })).toList.map (fun e => (e.key, e.val)) = (setL L a v).map (fun c => (kv c.1, vv c.2)) := by
  rw [show setL L a v = L.set j (a, v) from setL_at (keys_nodup hs he) h4 v, Array.toList_modify]
  have hj : j < L.length := (List.getElem?_eq_some_iff.1 h4).1
  rw [List.map_set, ← he]
  apply List.ext_getElem?
  intro i
  rw [List.getElem?_map, List.getElem?_modify, List.getElem?_set]
  have hl : (es.toList.map (fun e => (e.key, e.val))).length = L.length := by rw [he]; simp
  by_cases hij : j = i
  · subst hij
    rw [if_pos rfl, if_pos (by rw [hl]; exact hj)]
    have hj' : j < es.toList.length := by rw [List.length_map] at hl; rw [hl]; exact hj
    rw [List.getElem?_eq_getElem hj']
    simp
  · rw [if_neg hij, List.getElem?_map]
    cases es.toList[i]? <;> simp [hij]

/-- 'm[a] op= v': the entry, and then the store into it, with nothing written into the map between. -/
theorem MapIs.entry (M : MK P k ok kv) {t e : TypeId} (ht : P.underlying t = some (.map k e)) {z : β} (hz : ∀ u : World, (zeroValue e).run P u = .ok (vv z) u) {w : World} {b : Nat} {L : List (α × β)} (h : MapIs ok kv vv w b L) {a : α} (ha : ok a) :
    ∃ (v0 : Value) (st : Nat) (w1 : World), (Instr.mapEntry t (.map (some b)) (kv a)).run P w = .ok (.tuple #[v0, .int .i64 st]) w1 ∧ w.grownBy w1 (some b) ∧ w1.heap.size = w.heap.size ∧ MapIs ok kv vv w1 b (setL L a ((asc L a).getD z)) ∧
      ∀ (w2 : World) (v : β), w2.heap[b]? = w1.heap[b]? → ∃ w3, (Instr.entryStore t (.map (some b)) (.int .i64 st) (vv v)).run P w2 = .ok () w3 ∧ MapIs ok kv vv w3 b (setL L a v) ∧ w2.grownBy w3 (some b) ∧ w3.heap.size = w2.heap.size := by
  obtain ⟨es, clock, hb, hs, he, hok⟩ := h
  obtain ⟨l, hl⟩ := M.key a ha
  have gset : ∀ (W : World) (o o' : Obj), W.heap[b]? = some o → W.grownBy (setBlock W b o') (some b) ∧ (setBlock W b o').heap.size = W.heap.size ∧ (setBlock W b o').heap[b]? = some o' := by
    intro W o o' ho
    have hlt : b < W.heap.size := (Array.getElem?_eq_some_iff.1 ho).1
    refine ⟨⟨rfl, rfl, rfl, by simp [setBlock], fun i hi hne => ?_⟩, by simp [setBlock], by simp [setBlock, hlt]⟩
    have : b ≠ i := fun e => hne (by rw [e])
    simp [setBlock, this]
  rcases MapIs.find (w := w) M hs he hok ha with ⟨h1, h0, h2⟩ | ⟨j, x, v0, h1, h2, h3, h4, h5⟩
  · refine ⟨vv z, clock, setBlock w b (.map (es.push ⟨kv a, vv z, clock⟩) (clock + 1)), ?_, (gset w _ _ hb).1, (gset w _ _ hb).2.1, ⟨_, _, (gset w _ _ hb).2.2, stamped_push hs h0, ?_, ?_⟩, fun w2 v hw2 => ?_⟩
    · simp [goInt, Instr.mapEntry, run_underlying ht, MapKept.run_getObj_map hb, M.K.check w false hl, h1, hz, MapKept.run_setObj_map _ hb, Result.andThen, setBlock]
    · rw [setL_none h2, asc_none h2]
      simp [he]
    · intro c hc
      rw [setL_none h2] at hc
      rcases List.mem_append.1 hc with hc | hc
      · exact hok c hc
      · simp at hc; subst hc; exact ha
    · rw [(gset w _ _ hb).2.2] at hw2
      have hidx : (es.push ⟨kv a, vv z, clock⟩).findIdx? (fun e => ((e.born : Nat) : Int) == ((clock : Nat) : Int)) = some es.size := by
        rw [WideElems.findIdx_arr]
        exact WideElems.findIdx_born (l := (es.push ⟨kv a, vv z, clock⟩).toList) (j := es.size) (e0 := ⟨kv a, vv z, clock⟩) (stamped_push hs h0).2.1 (by simp)
      have hmod : (es.push ⟨kv a, vv z, clock⟩).modify es.size (fun e => { e with val := vv v }) = es.push ⟨kv a, vv v, clock⟩ := by
        apply Array.ext'
        rw [Array.toList_modify, Array.toList_push, Array.toList_push, ← Array.length_toList, WideElems.modify_last]
      refine ⟨setBlock w2 b (.map (es.push ⟨kv a, vv v, clock⟩) (clock + 1)), ?_, ⟨_, _, (gset w2 _ _ hw2).2.2, stamped_push hs h0, ?_, ?_⟩, (gset w2 _ _ hw2).1, (gset w2 _ _ hw2).2.1⟩
      · simp [Instr.entryStore, MapKept.run_getObj_map hw2, asInt, asIntOf, hidx, hmod, MapKept.run_setObj_map _ hw2, Result.andThen, setBlock]
      · rw [setL_none h2]
        simp [he]
      · intro c hc
        rw [setL_none h2] at hc
        rcases List.mem_append.1 hc with hc | hc
        · exact hok c hc
        · simp at hc; subst hc; exact ha
  · have hj : es[j]? = some x := by simpa using h2
    have hsame : es.modify j (fun e => { e with key := kv a }) = es := by
      apply Array.ext'
      rw [Array.toList_modify, modify_eq_set _ _ _ _ h2]
      have : ({ x with key := kv a } : MapEntry) = x := by rw [← h3]
      rw [this]
      exact WideElems.set_self _ _ _ h2
    have ea : asc L a = some v0 := asc_at (keys_nodup hs he) h4
    have eL : setL L a ((asc L a).getD z) = L := by
      rw [ea, show setL L a ((some v0).getD z) = L.set j (a, v0) from setL_at (keys_nodup hs he) h4 v0]
      exact WideElems.set_self _ _ _ h4
    refine ⟨x.val, x.born, setBlock w b (.map es clock), ?_, (gset w _ _ hb).1, (gset w _ _ hb).2.1, by rw [eL]; exact ⟨es, clock, (gset w _ _ hb).2.2, hs, he, hok⟩, fun w2 v hw2 => ?_⟩
    · simp [goInt, Instr.mapEntry, run_underlying ht, MapKept.run_getObj_map hb, M.K.check w false hl, h1, hj, h3, M.K.stays w hl, hsame, MapKept.run_setObj_map _ hb, Result.andThen, setBlock]
    · rw [(gset w _ _ hb).2.2] at hw2
      have hidx : es.findIdx? (fun e => ((e.born : Nat) : Int) == ((x.born : Nat) : Int)) = some j := by
        rw [WideElems.findIdx_arr]
        exact WideElems.findIdx_born hs.2.1 h2
      have hmod : es.modify j (fun e => { e with val := vv v }) = es.modify j (fun e' => { e' with key := kv a, val := vv v }) := by
        apply Array.ext'
        rw [Array.toList_modify, Array.toList_modify, modify_eq_set _ _ _ _ h2, modify_eq_set _ _ _ _ h2, ← h3]
      refine ⟨setBlock w2 b (.map (es.modify j (fun e' => { e' with key := kv a, val := vv v })) clock), ?_, ⟨_, _, (gset w2 _ _ hw2).2.2, ?_, setL_enc hs he h4 v, ?_⟩, (gset w2 _ _ hw2).1, (gset w2 _ _ hw2).2.1⟩
      · simp [Instr.entryStore, MapKept.run_getObj_map hw2, asInt, asIntOf, hidx, hmod, MapKept.run_setObj_map _ hw2, Result.andThen, setBlock]
      · refine stamped_modify hs _ _ (fun _ _ => rfl) (fun e' _ he' => ?_)
        rw [hj] at he'
        cases he'
        exact h3.symm
      · intro c hc
        have : c.1 ∈ (setL L a v).map (·.1) := List.mem_map.2 ⟨c, hc, rfl⟩
        rcases (setL_keys L a v c.1).1 this with h | h
        · rw [h]; exact ha
        · obtain ⟨d, hd, e⟩ := List.mem_map.1 h
          rw [← e]
          exact hok d hd
end
end Go.Proofs.YtmiknfneeipkeaaGreat
