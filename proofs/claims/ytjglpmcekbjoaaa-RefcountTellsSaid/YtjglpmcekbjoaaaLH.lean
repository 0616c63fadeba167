/- Walks of laws: for RefcountTells: the row of live manifests. -/
import Derived.Test.YtjglpmcekbjoaaaLF
namespace Go.Proofs.Ytjglpmcekbjoaaa
open Go.RowKit Go.MapKept Go.ChangeMaps
attribute [local go_sem] wext_cell

theorem step_append_own_ {P : Program} {w : World} {ops : Array Oper} {o : Oper} {a : Act} {K : Act → World → Prop} {Q : Exit → Act → World → Prop} {E : Prop} (hgd : o.guard = none) (s x : Operand) (t : TypeId)
    (ho : o.op = .call { callee := .builtin .append, args := #[s, x], argTypes := #[t, t] })
    (base : Nat) (e : TypeId) (i : TypeInfo) (z : Value) (size bytes : Nat) (ht : P.underlying t = some (.slice e)) (hi : P.info? e = some i) (hz : i.zero = some z)
    (hsize : i.size = size) (hby : i.bytes = bytes) (hzs : z.cells.size = size) (hsz : 0 < size)
    (v : Value) (n : Nat) (xs : List Value) (hs : a.eval s = v) (hown : w.ownsRow base e size v n xs)
    (ad : Addr) (m c : Nat) (news : List Value) (hx : a.eval x = .slice (some ad) m c) (hl : news.length = m * size) (hnews : ∀ j u, news[j]? = some u → w.cell? (ad.add j) = some u) (h1 : ∀ u ∈ news, u.oneCell' = true)
    (h63 : n + m ≤ maxLen) (hbytes : (n + m) * bytes ≤ 140737488355328) (hbase : base ≤ w.heap.size)
    (h : ∀ v' w', w'.ownsRow base e size v' (n + m) (xs ++ news) → w.grownBy w' v.ownBlock → K (a.put o.dst v') w') :
    if Region.wanted o (yielded ops a.tmps) = true then Oper.wp P o a w K Q else E := by
  have hw : Region.wanted o (yielded ops a.tmps) = true := by simp [Region.wanted, hgd]
  rw [if_pos hw]
  exact wp_append_own w s x t ho base e i z size bytes ht hi hz hsize hby hzs hsz v n xs hs hown ad m c news hx hl hnews h1 h63 hbytes hbase (fun v' w' h2 h3 _ => h v' w' h2 h3)
/-- The live manifests, as they lie in a row of their own. -/
def LiveR (B x : Nat) (ms : List Man) (qs : List MR) (A5 : Option Addr) (c5 : Nat) (wr : World) : Prop :=
  qs.length = ms.length ∧ wr.ownsRow B 38 2 (.slice A5 qs.length c5) qs.length (qs.flatMap encMR) ∧
    ∀ j, j < ms.length → Link wr x (qs.getD j mr0) (ms.getD j man0) ∧ ∀ b o, (qs.getD j mr0).A = some ⟨b, o, none⟩ → b < wr.heap.size ∧ some b ≠ (Value.slice A5 qs.length c5).ownBlock
theorem LiveR.on {B x : Nat} {ms : List Man} {qs : List MR} {A5 : Option Addr} {c5 : Nat} {w w' : World} (h : LiveR B x ms qs A5 c5 w) (hb : Below w.heap.size w w') : LiveR B x ms qs A5 c5 w' :=
  ⟨h.1, own_on h.2.1 hb, fun j hj => ⟨(h.2.2 j hj).1.on hb, fun b o e => ⟨Nat.lt_of_lt_of_le ((h.2.2 j hj).2 b o e).1 hb.size, ((h.2.2 j hj).2 b o e).2⟩⟩⟩
theorem LiveR.gr {B x : Nat} {ms : List Man} {qs : List MR} {A5 : Option Addr} {c5 : Nat} {w w' : World} (h : LiveR B x ms qs A5 c5 w) (hb : w.grownBy w' (some x)) (hx : x < B) : LiveR B x ms qs A5 c5 w' :=
  ⟨h.1, own_x h.2.1 hb hx, fun j hj => ⟨(h.2.2 j hj).1.gr hb, fun b o e => ⟨Nat.lt_of_lt_of_le ((h.2.2 j hj).2 b o e).1 hb.size, ((h.2.2 j hj).2 b o e).2⟩⟩⟩
theorem LiveR.rdm {B x : Nat} {ms : List Man} {qs : List MR} {A5 : Option Addr} {c5 : Nat} {w : World} (h : LiveR B x ms qs A5 c5 w) (hx : x < B) : RdM w x A5 ms :=
  ⟨qs, (Rd.of_own encMR_len (by omega) h.2.1 hx).2, h.1, fun j hj => (h.2.2 j hj).1⟩
def SepX (X : List CT) (A4 : Option Addr) (v : Value) : Prop := 0 < X.length → ∀ b o, A4 = some ⟨b, o, none⟩ → some b ≠ v.ownBlock
/-- One manifest more in the row. -/
theorem LiveR.push {B x : Nat} {ms : List Man} {qs : List MR} {A5 : Option Addr} {c5 : Nat} {W w' : World} (h : LiveR B x ms qs A5 c5 W) {r : MR} {m : Man} (hl : Link W x r m) (hr : ∀ b o, r.A = some ⟨b, o, none⟩ → b < W.heap.size ∧ some b ≠ (Value.slice A5 qs.length c5).ownBlock) {g c8 H : Nat}
    (hown : w'.ownsRow B 38 2 (.slice (some ⟨g, 0, none⟩) (qs.length + 1) c8) (qs.length + 1) (qs.flatMap encMR ++ encMR r)) (hg : W.grownBy w' (Value.slice A5 qs.length c5).ownBlock) (hat : (Value.slice A5 qs.length c5).ownBlock = some g ∨ g = H) (hH : W.heap.size ≤ H) : LiveR B x (ms ++ [m]) (qs ++ [r]) (some ⟨g, 0, none⟩) c8 w' := by
  have e9 : (qs ++ [r]).length = qs.length + 1 := by simp
  have hnew : ∀ b, b < W.heap.size → some b ≠ (Value.slice A5 qs.length c5).ownBlock → some b ≠ (Value.slice (some ⟨g, 0, none⟩) (qs.length + 1) c8).ownBlock := by
    intro b hb hne e
    have hbg : b = g := by simpa [Value.ownBlock] using e
    subst hbg
    rcases hat with h1 | h1
    · exact hne h1.symm
    · omega
  refine ⟨by simp [h.1], by rw [e9, List.flatMap_append]; simpa using hown, fun j hj => ?_⟩
  rw [e9]
  by_cases hjm : j < ms.length
  · rw [getD_snoc_lt _ _ _ _ hjm, getD_snoc_lt _ _ _ _ (by rw [h.1]; exact hjm)]
    obtain ⟨⟨a, b, c, d⟩, hs⟩ := h.2.2 j hjm
    exact ⟨⟨a, b, c, d.own hg (fun b o e => (hs b o e).2)⟩, fun b o e => ⟨Nat.lt_of_lt_of_le (hs b o e).1 hg.size, hnew b (hs b o e).1 (hs b o e).2⟩⟩
  · have hje : j = ms.length := by simp at hj; omega
    rw [getD_snoc_eq _ _ _ _ hje, getD_snoc_eq _ _ _ _ (by rw [h.1]; exact hje)]
    obtain ⟨a, b, c, d⟩ := hl
    exact ⟨⟨a, b, c, d.own hg (fun b o e => (hr b o e).2)⟩, fun b o e => ⟨Nat.lt_of_lt_of_le (hr b o e).1 hg.size, hnew b (hr b o e).1 (hr b o e).2⟩⟩
/-- A row anew, in new memory, of some of the manifests. -/
theorem LiveR.anew {B x : Nat} {ms : List Man} {qs : List MR} {A5 : Option Addr} {c5 : Nat} {W w' : World} (h : LiveR B x ms qs A5 c5 W) {ms' : List Man} {qs' : List MR} {v : Value} (hl : qs'.length = ms'.length) (hsub : ∀ j, j < ms'.length → ∃ i, i < ms.length ∧ qs'.getD j mr0 = qs.getD i mr0 ∧ ms'.getD j man0 = ms.getD i man0)
    (hown : w'.ownsRow W.heap.size 38 2 v qs'.length (qs'.flatMap encMR)) (hb : Below W.heap.size W w') (hB : B ≤ W.heap.size) : ∃ A c, v = .slice A qs'.length c ∧ LiveR B x ms' qs' A c w' := by
  obtain ⟨A, c, rfl⟩ := own_slice hown
  refine ⟨A, c, rfl, hl, own_le hown hB, fun j hj => ?_⟩
  obtain ⟨i, hi, e1, e2⟩ := hsub j hj
  rw [e1, e2]
  obtain ⟨hk, hs⟩ := h.2.2 i hi
  exact ⟨hk.on hb, fun b o e => ⟨Nat.lt_of_lt_of_le (hs b o e).1 hb.size, fun e' => by have := (hown.lt b e'.symm).1; have := (hs b o e).1; omega⟩⟩
theorem flat_take {α : Type} {enc : α → List Value} {k : Nat} (hk : ∀ y, (enc y).length = k) (l : List α) (i : Nat) : (l.take i).flatMap enc = (l.flatMap enc).take (i * k) := by
  induction l generalizing i with
  | nil => simp
  | cons y l ih =>
    cases i with
    | zero => simp
    | succ i =>
      rw [List.take_succ_cons, List.flatMap_cons, List.flatMap_cons, ih, show (i + 1) * k = (enc y).length + i * k by rw [hk, Nat.add_mul]; omega, List.take_length_add_append]
theorem flat_drop {α : Type} {enc : α → List Value} {k : Nat} (hk : ∀ y, (enc y).length = k) (l : List α) (i : Nat) : (l.drop i).flatMap enc = (l.flatMap enc).drop (i * k) := by
  induction l generalizing i with
  | nil => simp
  | cons y l ih =>
    cases i with
    | zero => simp
    | succ i =>
      rw [List.drop_succ_cons, List.flatMap_cons, ih, show (i + 1) * k = (enc y).length + i * k by rw [hk, Nat.add_mul]; omega, List.drop_length_add_append]
theorem cut_get {α : Type} (l : List α) (d : α) {i j : Nat} (hi : i < l.length) (hj : j < l.length - 1) : (l.take i ++ l.drop (i + 1)).getD j d = l.getD (if j < i then j else j + 1) d := by
  rw [List.getD_eq_getElem?_getD, List.getD_eq_getElem?_getD]
  split
  · rename_i h
    rw [List.getElem?_append_left (by rw [List.length_take]; omega), List.getElem?_take_of_lt h]
  · rename_i h
    rw [List.getElem?_append_right (by rw [List.length_take]; omega), List.length_take, List.getElem?_drop, Nat.min_eq_left (by omega), show i + 1 + (j - i) = j + 1 by omega]
theorem cut_eq {α : Type} (l : List α) (d : α) {i : Nat} (hi : i < l.length) : l = l.take i ++ l.getD i d :: l.drop (i + 1) := by
  rw [← drop_cons_getD l d i hi, List.take_append_drop]
theorem flatM_one' (t : List MR) : ∀ u ∈ t.flatMap encMR, u.oneCell' = true := by
  intro u hu
  obtain ⟨c, _, hc⟩ := List.mem_flatMap.1 hu
  exact encMR_one c u hc
end Go.Proofs.Ytjglpmcekbjoaaa
