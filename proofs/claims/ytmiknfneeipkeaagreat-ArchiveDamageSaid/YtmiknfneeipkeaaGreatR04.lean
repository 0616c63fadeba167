/- Contracts of the walk, part 4. -/
import Derived.Lib.Hide
import Derived.BigRegion
import Derived.BigQuiet
import Derived.Deep.Cut
import Derived.Deep.CutRange
import Derived.Deep.CutBlock
import Derived.Deep.LoopGhost
import Derived.IntWalk
import Derived.Laws.MakeOwn
import Derived.Laws.IdiomCopy
import Derived.Test.YtmiknfneeipkeaaGreatR03
import Derived.Test.YtmiknfneeipkeaaGreatR02
namespace Go.Proofs.YtmiknfneeipkeaaGreat
open Go.RowKit Go.MapKept Go.ChangeMaps
theorem halt_ {p : Prop} (h : Hid p) : p := h
abbrev vPtr (g : Nat) : Value := .pointer (some ⟨g, 0, none⟩)
theorem bel1q (w : World) (o : Obj) : Below w.heap.size w (w.alloc o) := (Below.refl _ _).alloc (Nat.le_refl _) o
section
variable {b : Nat} {w0 w w' : World} {t l l' : List Ob} {o o' : Ob}
theorem set_self {α : Type} : ∀ (L : List α) (i : Nat) (v : α), L[i]? = some v → L.set i v = L
  | [], _, _, h => by simp at h
  | x :: L, 0, v, h => by
    have h : x = v := by simpa using h
    rw [List.set_cons_zero, h]
  | x :: L, i + 1, v, h => by rw [List.set_cons_succ, set_self L i v (by simpa using h)]
theorem pair_all {l : List Ob} (h : l.Pairwise Apart) {x y : Ob} (hx : x ∈ l) (hy : y ∈ l) (hne : x ≠ y) : Apart x y := by
  induction l with
  | nil => cases hx
  | cons z l ih =>
    obtain ⟨h1, h2⟩ := List.pairwise_cons.1 h
    rcases List.mem_cons.1 hx with rfl | hx
    · rcases List.mem_cons.1 hy with rfl | hy
      · exact absurd rfl hne
      · exact h1 y hy
    · rcases List.mem_cons.1 hy with rfl | hy
      · exact (h1 x (by assumption)).symm
      · exact ih h2 (by assumption) (by assumption)
theorem SW.asRead (h : SW b w0 (o :: t) w) (hh : o'.holds w) (ho : ∀ i, ¬ o'.own i) (hr : ∀ i, o'.rd i → o.own i) : SW b w0 (o' :: t) w := by
  have ha := List.pairwise_cons.1 h.1.apart
  refine ⟨⟨h.1.base, fun y hy => ?_, fun y hy i hi => ?_, fun y hy i hi => ?_, List.pairwise_cons.2 ⟨fun y hy => ⟨fun i hi => absurd hi (ho i), fun i hi hr' => ?_⟩, ha.2⟩⟩, h.2⟩
  · rcases List.mem_cons.1 hy with rfl | hy
    · exact hh
    · exact h.1.holds y (List.mem_cons_of_mem _ hy)
  · rcases List.mem_cons.1 hy with rfl | hy
    · exact absurd hi (ho i)
    · exact h.1.own y (List.mem_cons_of_mem _ hy) i hi
  · rcases List.mem_cons.1 hy with rfl | hy
    · exact (h.1.own _ (List.mem_cons_self ..) i (hr i hi)).2
    · exact h.1.rd y (List.mem_cons_of_mem _ hy) i hi
  · exact ((ha.1 y hy).1 i (hr i hr')).1 hi
theorem SW.also (h : SW b w0 l w) (hh : o'.holds w) (ho : ∀ i, ¬ o'.own i) (hlt : ∀ i, o'.rd i → i < w.heap.size) (hr : ∀ i, o'.rd i → ∀ y ∈ l, ¬ y.own i) : SW b w0 (o' :: l) w := by
  refine ⟨⟨h.1.base, fun y hy => ?_, fun y hy i hi => ?_, fun y hy i hi => ?_, List.pairwise_cons.2 ⟨fun y hy => ⟨fun i hi => absurd hi (ho i), fun i hi hr' => hr i hr' y hy hi⟩, h.1.apart⟩⟩, h.2⟩
  · rcases List.mem_cons.1 hy with rfl | hy
    · exact hh
    · exact h.1.holds y hy
  · rcases List.mem_cons.1 hy with rfl | hy
    · exact absurd hi (ho i)
    · exact h.1.own y hy i hi
  · rcases List.mem_cons.1 hy with rfl | hy
    · exact hlt i hi
    · exact h.1.rd y hy i hi
theorem SW.noOwn (h : SW b w0 l w) (ho : o ∈ l) (hn : ∀ i, ¬ o.own i) {i : Nat} (hi : o.rd i) : ∀ y ∈ l, ¬ y.own i := fun y hy hw => by
  by_cases e : y = o
  · subst e
    exact hn i hw
  · exact ((pair_all h.1.apart hy ho e).1 i hw).2 hi
theorem SW.again (h : SW b w0 l w) (hm : o ∈ l) (hn : ∀ i, ¬ o.own i) (hh : o'.holds w) (ho : ∀ i, ¬ o'.own i) (hr : ∀ i, o'.rd i → o.rd i) : SW b w0 (o' :: l) w :=
  h.also hh ho (fun i hi => h.1.rd o hm i (hr i hi)) (fun i hi => h.noOwn hm hn (hr i hi))
theorem few_rest (idx : List Nat) (n : Nat) (hd : idx.Nodup) (hl : ∀ i ∈ idx, i < n) : ∃ rest : List Nat, (idx ++ rest).Perm (List.range n) := by
  refine ⟨(List.range n).filter (fun i => !idx.contains i), ?_⟩
  refine (List.perm_ext_iff_of_nodup ?_ List.nodup_range).2 (fun i => ?_)
  · refine List.nodup_append.2 ⟨hd, List.nodup_range.filter _, fun a ha c hc e => ?_⟩
    subst e
    have := (List.mem_filter.1 hc).2
    simp [ha] at this
  · simp only [List.mem_append, List.mem_filter, List.mem_range]
    constructor
    · rintro (h1 | h1)
      · exact hl i h1
      · exact h1.1
    · intro h1
      by_cases e : i ∈ idx
      · exact .inl e
      · exact .inr ⟨h1, by simp [e]⟩
theorem SW.few {pre t : List Ob} (h : SW b w0 (pre ++ t) w) (idx : List Nat) {n : Nat} (hn : pre.length = n) (hd : idx.Nodup) (hl : ∀ i ∈ idx, i < n) : SW b w0 (idx.filterMap (fun i => pre[i]?) ++ t) w := by
  obtain ⟨rest, hp⟩ := few_rest idx n hd hl
  have h1 := h.front (idx ++ rest) hn hp
  rw [List.filterMap_append, List.append_assoc] at h1
  refine h1.sub ?_
  exact (List.Sublist.refl _).append (List.sublist_append_right _ _)
theorem SW.then (h : SW b w0 l w) (k : SW b w l' w') : SW b w0 l' w' := ⟨k.1, h.2.trans k.2⟩
end
section
variable {α β : Type}
def mpOb (ok : α → Prop) (kv : α → Value) (vv : β → Value) (m : Nat) (L : List (α × β)) : Ob where
  own := fun i => i = m
  rd := fun _ => False
  holds := fun w => MapIs ok kv vv w m L
  stable := fun w w' h hs hk => h.same (hk m (.inl rfl))
variable {ok : α → Prop} {kv : α → Value} {vv : β → Value} {b : Nat} {w0 w w' : World} {l : List Ob}
theorem SW.addMp (h : SW b w0 l w) : SW b w0 (mpOb ok kv vv w.heap.size [] :: l) (w.alloc (.map #[] 0)) := by
  have := h.1.add (o' := mpOb ok kv vv w.heap.size []) (w' := w.alloc (.map #[] 0)) (bel1q _ _) (MapIs.made w) (fun i hi => by have e : i = w.heap.size := hi; simp [e]) (fun i hi => hi.elim) (fun i hi => hi.elim)
  exact ⟨this.1, h.2.trans this.2⟩
theorem SW.updMp (h : SW b w0 l w) (k : Nat) {m : Nat} {L L' : List (α × β)} (hk : l[k]? = some (mpOb ok kv vv m L)) (hm : MapIs ok kv vv w' m L') (hg : w.grownBy w' (some m)) : SW b w0 (l.set k (mpOb ok kv vv m L')) w' := by
  have := h.1.stepAt k hk (w' := w') (o' := mpOb ok kv vv m L') (Fr.grown hg rfl (fun i hi => .inl hi)) (fun i hi => hi.elim) hm (fun i hi => by
    rcases hi with hi | hi
    · have e : i = m := hi
      rw [e]
      exact hm.lt
    · exact hi.elim)
  exact ⟨this.1, h.2.trans this.2⟩
end
def RowV (w : World) (t : TypeId) (sz : Nat) (A : Option Addr) (n : Nat) (xs : List Value) : Prop :=
  xs.length = n * sz ∧ (n = 0 ∨ ∃ g cur, A = some ⟨g, 0, none⟩ ∧ IsB w g t cur ∧ cur.toList.take (n * sz) = xs)
section
variable {w w' : World} {t : TypeId} {sz n : Nat} {A : Option Addr} {xs : List Value}
theorem RowV.same (h : RowV w t sz A n xs) (hk : ∀ i, 0 < n → A = some ⟨i, 0, none⟩ → w'.heap[i]? = w.heap[i]?) : RowV w' t sz A n xs := by
  refine ⟨h.1, ?_⟩
  rcases h.2 with h2 | ⟨g, cur, e, hi, hx⟩
  · exact .inl h2
  · by_cases hn : n = 0
    · exact .inl hn
    · exact .inr ⟨g, cur, e, (hk g (by omega) e).trans hi, hx⟩
theorem RowV.lt (h : RowV w t sz A n xs) {i : Nat} (hn : 0 < n) (e : A = some ⟨i, 0, none⟩) : i < w.heap.size := by
  rcases h.2 with h2 | ⟨g, cur, e2, hi, _⟩
  · omega
  · rw [e] at e2
    injection e2 with e2
    injection e2 with e2
    rw [e2]
    exact hi.lt
theorem RowV.at (h : RowV w t sz A n xs) (hn : 0 < n) : ∃ g, A = some ⟨g, 0, none⟩ ∧ g < w.heap.size ∧ ∀ j, j < n * sz → w.cell? ⟨g, j, none⟩ = xs[j]? := by
  rcases h.2 with h2 | ⟨g, cur, e2, hi, hx⟩
  · omega
  · refine ⟨g, e2, hi.lt, fun j hj => ?_⟩
    rw [hi.cell, ← hx, List.getElem?_take_of_lt hj, Array.getElem?_toList]
theorem RowV.nil : RowV w t sz A 0 [] := ⟨by simp, .inl rfl⟩
end
theorem SW.setAll12 {b : Nat} {w0 w : World} {l : List Ob} {g : Nat} {t : TypeId} {x0 x1 x2 x3 x4 x5 x6 x7 x8 x9 x10 x11 : Value} (h : SW b w0 l w) (k : Nat) (hk : l[k]? = some (cellOb g t #[x0, x1, x2, x3, x4, x5, x6, x7, x8, x9, x10, x11])) (y0 y1 y2 y3 y4 y5 y6 y7 y8 y9 y10 y11 : Value) : SW b w0 (l.set k (cellOb g t #[y0, y1, y2, y3, y4, y5, y6, y7, y8, y9, y10, y11])) ((((((((((((w.setCell ⟨g, 0, none⟩ y0).setCell ⟨g, 1, none⟩ y1).setCell ⟨g, 2, none⟩ y2).setCell ⟨g, 3, none⟩ y3).setCell ⟨g, 4, none⟩ y4).setCell ⟨g, 5, none⟩ y5).setCell ⟨g, 6, none⟩ y6).setCell ⟨g, 7, none⟩ y7).setCell ⟨g, 8, none⟩ y8).setCell ⟨g, 9, none⟩ y9).setCell ⟨g, 10, none⟩ y10).setCell ⟨g, 11, none⟩ y11) := by
  have hkl : k < l.length := (List.getElem?_eq_some_iff.1 hk).1
  have h1 := h.setAt k hk 0 y0
  rw [show (#[x0, x1, x2, x3, x4, x5, x6, x7, x8, x9, x10, x11] : Array Value).setIfInBounds 0 y0 = #[y0, x1, x2, x3, x4, x5, x6, x7, x8, x9, x10, x11] from rfl] at h1
  have h2 := h1.setAt k (List.getElem?_set_self hkl) 1 y1
  rw [show (#[y0, x1, x2, x3, x4, x5, x6, x7, x8, x9, x10, x11] : Array Value).setIfInBounds 1 y1 = #[y0, y1, x2, x3, x4, x5, x6, x7, x8, x9, x10, x11] from rfl, List.set_set] at h2
  have h3 := h2.setAt k (List.getElem?_set_self hkl) 2 y2
  rw [show (#[y0, y1, x2, x3, x4, x5, x6, x7, x8, x9, x10, x11] : Array Value).setIfInBounds 2 y2 = #[y0, y1, y2, x3, x4, x5, x6, x7, x8, x9, x10, x11] from rfl, List.set_set] at h3
  have h4 := h3.setAt k (List.getElem?_set_self hkl) 3 y3
  rw [show (#[y0, y1, y2, x3, x4, x5, x6, x7, x8, x9, x10, x11] : Array Value).setIfInBounds 3 y3 = #[y0, y1, y2, y3, x4, x5, x6, x7, x8, x9, x10, x11] from rfl, List.set_set] at h4
  have h5 := h4.setAt k (List.getElem?_set_self hkl) 4 y4
  rw [show (#[y0, y1, y2, y3, x4, x5, x6, x7, x8, x9, x10, x11] : Array Value).setIfInBounds 4 y4 = #[y0, y1, y2, y3, y4, x5, x6, x7, x8, x9, x10, x11] from rfl, List.set_set] at h5
  have h6 := h5.setAt k (List.getElem?_set_self hkl) 5 y5
  rw [show (#[y0, y1, y2, y3, y4, x5, x6, x7, x8, x9, x10, x11] : Array Value).setIfInBounds 5 y5 = #[y0, y1, y2, y3, y4, y5, x6, x7, x8, x9, x10, x11] from rfl, List.set_set] at h6
  have h7 := h6.setAt k (List.getElem?_set_self hkl) 6 y6
  rw [show (#[y0, y1, y2, y3, y4, y5, x6, x7, x8, x9, x10, x11] : Array Value).setIfInBounds 6 y6 = #[y0, y1, y2, y3, y4, y5, y6, x7, x8, x9, x10, x11] from rfl, List.set_set] at h7
  have h8 := h7.setAt k (List.getElem?_set_self hkl) 7 y7
  rw [show (#[y0, y1, y2, y3, y4, y5, y6, x7, x8, x9, x10, x11] : Array Value).setIfInBounds 7 y7 = #[y0, y1, y2, y3, y4, y5, y6, y7, x8, x9, x10, x11] from rfl, List.set_set] at h8
  have h9 := h8.setAt k (List.getElem?_set_self hkl) 8 y8
  rw [show (#[y0, y1, y2, y3, y4, y5, y6, y7, x8, x9, x10, x11] : Array Value).setIfInBounds 8 y8 = #[y0, y1, y2, y3, y4, y5, y6, y7, y8, x9, x10, x11] from rfl, List.set_set] at h9
  have h10 := h9.setAt k (List.getElem?_set_self hkl) 9 y9
  rw [show (#[y0, y1, y2, y3, y4, y5, y6, y7, y8, x9, x10, x11] : Array Value).setIfInBounds 9 y9 = #[y0, y1, y2, y3, y4, y5, y6, y7, y8, y9, x10, x11] from rfl, List.set_set] at h10
  have h11 := h10.setAt k (List.getElem?_set_self hkl) 10 y10
  rw [show (#[y0, y1, y2, y3, y4, y5, y6, y7, y8, y9, x10, x11] : Array Value).setIfInBounds 10 y10 = #[y0, y1, y2, y3, y4, y5, y6, y7, y8, y9, y10, x11] from rfl, List.set_set] at h11
  have h12 := h11.setAt k (List.getElem?_set_self hkl) 11 y11
  rw [show (#[y0, y1, y2, y3, y4, y5, y6, y7, y8, y9, y10, x11] : Array Value).setIfInBounds 11 y11 = #[y0, y1, y2, y3, y4, y5, y6, y7, y8, y9, y10, y11] from rfl, List.set_set] at h12
  exact h12
end Go.Proofs.YtmiknfneeipkeaaGreat
namespace Go.Proofs.YtmiknfneeipkeaaGreat
open Go.RowKit
def takeU (i v : Nat) : List UInt8 → Option (Nat × Nat)
  | [] => none
  | c :: r => if i = 9 ∧ c.toNat ≠ 1 then none else if 128 ≤ c.toNat then takeU (i + 1) (v + c.toNat % 128 * 128 ^ i) r else if c.toNat = 0 ∧ 0 < i then none else some (v + c.toNat % 128 * 128 ^ i, i + 1)
set_option maxRecDepth 100000 in
theorem and127 : ∀ c : Fin 256, bits .and .u8 ((c.val : Nat) : Int) 127 = ((c.val % 128 : Nat) : Int) := by decide
theorem pow128 (i : Nat) : 128 ^ i = 2 ^ (7 * i) := by rw [Nat.pow_mul]
theorem or_add (v i x : Nat) (hv : v < 128 ^ i) (hi : i ≤ 9) (hx : x < 128) (h9 : i = 9 → x ≤ 1) : x * 128 ^ i < 18446744073709551616 ∧ v + x * 128 ^ i < 18446744073709551616 ∧ bits .or .u64 (v : Int) ((x * 128 ^ i : Nat) : Int) = ((v + x * 128 ^ i : Nat) : Int) := by
  have hb : v < 9223372036854775808 ∧ x * 128 ^ i ≤ 9223372036854775808 := by
    by_cases h : i = 9
    · subst h
      have h1 := h9 rfl
      have h2 : (128 : Nat) ^ 9 = 9223372036854775808 := by decide
      rw [h2] at hv ⊢
      exact ⟨hv, by omega⟩
    · have h2 : (128 : Nat) ^ i ≤ 128 ^ 8 := Nat.pow_le_pow_right (by omega) (by omega)
      have h3 : (128 : Nat) ^ 8 = 72057594037927936 := by decide
      rw [h3] at h2
      have h4 : x * 128 ^ i ≤ 127 * 72057594037927936 := Nat.mul_le_mul (by omega) h2
      exact ⟨by omega, by omega⟩
  refine ⟨by omega, by omega, ?_⟩
  rw [bits_or_u64_nat _ _ (by omega) (by omega)]
  congr 1
  rw [Nat.or_comm, pow128, ← Nat.shiftLeft_eq, ← Nat.shiftLeft_add_eq_or_of_lt (by rw [← pow128]; exact hv), Nat.add_comm]
theorem uint_or (v i y : Nat) (hv : v < 128 ^ i) (hi : i ≤ 9) (hy : y < 256) (h9 : i = 9 → y = 1) : bits .or .u64 (v : Int) (IntKind.u64.wrap (IntKind.u64.wrap (bits .and .u8 (y : Int) 127) * 2 ^ (7 * i))) = ((v + y % 128 * 128 ^ i : Nat) : Int) ∧ v + y % 128 * 128 ^ i < 18446744073709551616 := by
  obtain ⟨h1, h2, h3⟩ := or_add v i (y % 128) hv hi (Nat.mod_lt _ (by decide)) (fun e => by have := h9 e; omega)
  have e1 : bits .and .u8 (y : Int) 127 = ((y % 128 : Nat) : Int) := and127 ⟨y, hy⟩
  have e2 : IntKind.u64.wrap ((y % 128 : Nat) : Int) = ((y % 128 : Nat) : Int) := by rw [IntKind.wrap_u64]; omega
  have e3 : ((y % 128 : Nat) : Int) * 2 ^ (7 * i) = ((y % 128 * 128 ^ i : Nat) : Int) := by rw [pow128]; push_cast; rfl
  have e4 : IntKind.u64.wrap ((y % 128 * 128 ^ i : Nat) : Int) = ((y % 128 * 128 ^ i : Nat) : Int) := by rw [IntKind.wrap_u64]; omega
  rw [e1, e2, e3, e4, h3]
  exact ⟨rfl, h2⟩
abbrev UintP (bs : List UInt8) (at_ : Nat) (w : World) (e : Ending) (w' : World) : Prop :=
  w' = w ∧ ((∃ v n, takeU 0 0 (bs.drop at_) = some (v, n) ∧ e = .returned (.tuple #[.int .u64 (v : Int), .int .i64 ((at_ + n : Nat) : Int), .int .i64 0])) ∨
  (takeU 0 0 (bs.drop at_) = none ∧ ∃ k : Int, k ≠ 0 ∧ e = .returned (.tuple #[.int .u64 0, .int .i64 0, .int .i64 k])))
def takeE (i : Nat) : List UInt8 → Int
  | [] => 11
  | c :: r => if i = 9 ∧ c.toNat ≠ 1 then 12 else if 128 ≤ c.toNat then takeE (i + 1) r else 12
theorem takeE_ne : ∀ (bs : List UInt8) (i : Nat), takeE i bs ≠ 0 := by
  intro bs
  induction bs with
  | nil => intro i; rw [takeE]; decide
  | cons c r ih =>
    intro i
    rw [takeE]
    split
    · decide
    · split
      · exact ih _
      · decide
abbrev UintQ (bs : List UInt8) (at_ : Nat) (w : World) (e : Ending) (w' : World) : Prop :=
  w' = w ∧ ((∃ v n, takeU 0 0 (bs.drop at_) = some (v, n) ∧ e = .returned (.tuple #[.int .u64 (v : Int), .int .i64 ((at_ + n : Nat) : Int), .int .i64 0])) ∨
  (takeU 0 0 (bs.drop at_) = none ∧ e = .returned (.tuple #[.int .u64 0, .int .i64 0, .int .i64 (takeE 0 (bs.drop at_))])))
set_option maxRecDepth 100000 in
set_option maxHeartbeats 4000000 in
theorem codecUintQ_any (A : Option Addr) (c : Nat) (bs : List UInt8) (k : Nat) (w : World) (h : RS w A bs) (hA : A = none → c = 0) (hc : bs.length ≤ c) (hc2 : bs.length ≤ 9223372036854775807) (hk : k ≤ bs.length) :
    Calls Tryz.prog 193 #[.slice A bs.length c, .int .i64 (k : Int)] w (UintQ bs k w) := by
  have H := Lib.hid h
  clear h
  go_enter Tryz.func193, Tryz.ntmps193
  by_cases hp : k < bs.length
  · have hcn : ¬ c = k := by omega
    have hkc : k ≤ c := by omega
    cases A with
    | none => exact absurd (H.out.1 rfl) (by omega)
    | some ad =>
      obtain ⟨g, o, rfl, hcell⟩ := H.out.2 ad rfl (by omega)
      have HCL := Lib.hid hcell
      clear hcell
      go_wp2_with fail
      go_loop [4, 21] (fun s4 s21 => ∃ (i v : Nat), i ≤ 9 ∧ k + i ≤ bs.length ∧ v < 128 ^ i ∧ s4 = .int .u64 (v : Int) ∧ s21 = .int .i64 (i : Int) ∧ Hid (takeU 0 0 (bs.drop k) = takeU i v (bs.drop (k + i))) ∧ Hid (takeE 0 (bs.drop k) = takeE i (bs.drop (k + i)))) (fun _ s21 => bs.length - (intOf s21).toNat)
      case atStart => exact ⟨0, 0, by omega, by omega, by simp, rfl, rfl, rfl, rfl⟩
      case round =>
        obtain ⟨i, v, hi, hki, hv, rfl, rfl, HT, HTE⟩ := hrel
        by_cases hlt : k + i < bs.length
        · obtain ⟨x, HX⟩ : ∃ x, Hid (bs.getD (k + i) 0 = x) := ⟨_, rfl⟩
          have hx := x.toNat_lt
          have hcl : w.cell? ⟨g, o + k + i, none⟩ = some (.int .u8 ((x.toNat : Nat) : Int)) := by
            have := HCL.out (k + i) hlt
            rw [HX.out] at this
            rw [show o + k + i = o + (k + i) by omega]
            exact this
          have HD : Hid (bs.drop (k + i) = x :: bs.drop (k + (i + 1))) := by
            rw [Hid, List.drop_eq_getElem_cons hlt, ← HX.out, List.getD_eq_getElem?_getD, List.getElem?_eq_getElem hlt]
            rfl
          obtain ⟨y, HY⟩ : ∃ y, Hid (x.toNat = y) := ⟨_, rfl⟩
          rw [HY.out] at hcl hx
          by_cases hbad : i = 9 ∧ y ≠ 1
          · have hb9 : ((i : Int) == 9) = true := by rw [beq_iff_eq]; omega
            have hb1 : ((y : Int) != 1) = true := by rw [bne_iff_ne]; omega
            have HN : Hid (takeU 0 0 (bs.drop k) = none) := by
              rw [Hid, HT.out, HD.out, takeU, HY.out, if_pos hbad]
            have HE : Hid (takeE 0 (bs.drop k) = 12) := by
              rw [Hid, HTE.out, HD.out, takeE, HY.out, if_pos hbad]
            clear hbad
            go_wp2_with fail
            go_ret3
            exact ⟨rfl, .inr ⟨HN.out, by rw [HE.out]; rfl⟩⟩
          · obtain ⟨eo, hvb⟩ := uint_or v i y hv hi hx (fun e => by
              rcases Nat.lt_or_ge y 1 with h | h
              · exact absurd ⟨e, by omega⟩ hbad
              · rcases Nat.lt_or_ge 1 y with h1 | h1
                · exact absurd ⟨e, by omega⟩ hbad
                · omega)
            obtain ⟨V, HV⟩ : ∃ x, Hid (v + y % 128 * 128 ^ i = x) := ⟨_, rfl⟩
            rw [HV.out] at eo hvb
            by_cases h9 : i = 9
            · have hb9 : ((i : Int) == 9) = true := by rw [beq_iff_eq]; omega
              have hb1 : ((y : Int) != 1) = false := by
                rw [bne_eq_false_iff_eq]
                rcases Nat.lt_or_ge y 1 with h | h
                · exact absurd ⟨h9, by omega⟩ hbad
                · rcases Nat.lt_or_ge 1 y with h1 | h1
                  · exact absurd ⟨h9, by omega⟩ hbad
                  · omega
              have hi9 : 9 ≤ i := by omega
              clear h9
              by_cases h128 : 128 ≤ y
              · exact absurd ⟨by omega, by omega⟩ hbad
              · have hy1 : 0 < y := by
                  rcases Nat.lt_or_ge 0 y with h | h
                  · exact h
                  · exact absurd ⟨by omega, by omega⟩ hbad
                have HN : Hid (takeU 0 0 (bs.drop k) = some (V, i + 1)) := by
                  rw [Hid, HT.out, HD.out, takeU, HY.out, if_neg hbad, if_neg h128, if_neg (by omega), HV.out]
                have hy0 : ((y : Int) == 0) = false := by rw [beq_eq_false_iff_ne]; omega
                clear hbad
                go_wp2_with fail
                go_ret3
                exact ⟨rfl, .inl ⟨_, _, HN.out, by rw [show ((k + (i + 1) : Nat) : Int) = (k : Int) + i + 1 by omega]; rfl⟩⟩
            · have hb9 : ((i : Int) == 9) = false := by rw [beq_eq_false_iff_ne]; omega
              by_cases h128 : 128 ≤ y
              · have hd128 : decide ((128 : Int) ≤ (y : Int)) = true := decide_eq_true (by omega)
                have h128i : (128 : Int) ≤ (y : Int) := by omega
                have HN : Hid (takeU 0 0 (bs.drop k) = takeU (i + 1) V (bs.drop (k + (i + 1)))) := by
                  rw [Hid, HT.out, HD.out, takeU, HY.out, if_neg hbad, if_pos h128, HV.out]
                have HE : Hid (takeE 0 (bs.drop k) = takeE (i + 1) (bs.drop (k + (i + 1)))) := by
                  rw [Hid, HTE.out, HD.out, takeE, HY.out, if_neg hbad, if_pos h128]
                have hv2 : V < 128 ^ (i + 1) := by
                  rw [← HV.out]
                  have h1 : y % 128 * 128 ^ i ≤ 127 * 128 ^ i := Nat.mul_le_mul_right _ (by omega)
                  rw [Nat.pow_succ]
                  omega
                have hi8 : i ≤ 8 := by
                  rcases Nat.lt_or_ge i 9 with h | h
                  · omega
                  · exact absurd ⟨by omega, by omega⟩ hbad
                go_wp2_with fail
                go_round
                case rel => exact ⟨i + 1, V, by omega, by omega, hv2, rfl, by go_num, HN.out, HE.out⟩
                case measure => simp [intOf]; omega
              · have hd128 : decide ((128 : Int) ≤ (y : Int)) = false := decide_eq_false (by omega)
                by_cases hz : y = 0 ∧ 0 < i
                · obtain ⟨hz1, hz2⟩ := hz
                  have hz : y = 0 ∧ 0 < i := ⟨hz1, hz2⟩
                  have hz3 : (0 : Int) < (i : Int) := by omega
                  have hy0 : ((y : Int) == 0) = true := by rw [beq_iff_eq]; omega
                  have hi0 : decide ((0 : Int) < (i : Int)) = true := decide_eq_true (by omega)
                  have hi0n : decide (0 < i) = true := decide_eq_true (by omega)
                  have HN : Hid (takeU 0 0 (bs.drop k) = none) := by
                    rw [Hid, HT.out, HD.out, takeU, HY.out, if_neg hbad, if_neg h128, if_pos hz]
                  have HE : Hid (takeE 0 (bs.drop k) = 12) := by
                    rw [Hid, HTE.out, HD.out, takeE, HY.out, if_neg hbad, if_neg h128]
                  clear hz hbad
                  subst hz1
                  simp only [Int.natCast_zero] at eo hcl
                  go_wp2_with fail
                  go_ret3
                  exact ⟨rfl, .inr ⟨HN.out, by rw [HE.out]; rfl⟩⟩
                · have HN : Hid (takeU 0 0 (bs.drop k) = some (V, i + 1)) := by
                    rw [Hid, HT.out, HD.out, takeU, HY.out, if_neg hbad, if_neg h128, if_neg hz, HV.out]
                  by_cases hy : y = 0
                  · have hy0 : ((y : Int) == 0) = true := by rw [beq_iff_eq]; omega
                    have hi0 : decide ((0 : Int) < (i : Int)) = false := decide_eq_false (by omega)
                    have hi0n : decide (0 < i) = false := decide_eq_false (by omega)
                    have hi0m : ¬ 0 < i := by omega
                    clear hz hbad
                    subst hy
                    simp only [Int.natCast_zero] at eo hcl
                    go_wp2_with fail
                    go_ret3
                    exact ⟨rfl, .inl ⟨_, _, HN.out, by rw [show ((k + (i + 1) : Nat) : Int) = (k : Int) + i + 1 by omega]; rfl⟩⟩
                  · have hy0 : ((y : Int) == 0) = false := by rw [beq_eq_false_iff_ne]; omega
                    go_wp2_with fail
                    go_ret3
                    exact ⟨rfl, .inl ⟨_, _, HN.out, by rw [show ((k + (i + 1) : Nat) : Int) = (k : Int) + i + 1 by omega]; rfl⟩⟩
        · have HN : Hid (takeU 0 0 (bs.drop k) = none) := by
            rw [Hid, HT.out, List.drop_eq_nil_of_le (by omega), takeU]
          have HE : Hid (takeE 0 (bs.drop k) = 11) := by
            rw [Hid, HTE.out, List.drop_eq_nil_of_le (by omega), takeE]
          go_wp2_with fail
          go_ret3
          exact ⟨rfl, .inr ⟨HN.out, by rw [HE.out]; rfl⟩⟩
  · have HN : Hid (takeU 0 0 (bs.drop k) = none) := by
      rw [Hid, List.drop_eq_nil_of_le (by omega), takeU]
    have HE : Hid (takeE 0 (bs.drop k) = 11) := by
      rw [Hid, List.drop_eq_nil_of_le (by omega), takeE]
    have hkc : k ≤ c := by omega
    have hz : bs.length - k = 0 := by omega
    cases A with
    | none =>
      have hc0 := hA rfl
      obtain rfl : c = 0 := hc0
      obtain rfl : k = 0 := by omega
      have hb0 : bs.length = 0 := by omega
      clear hz hkc hp
      go_wp2_with fail
      go_loop [4, 21] (fun s4 s21 => s21 = .int .i64 0) (fun _ _ => 0)
      case atStart => rfl
      case round =>
        obtain rfl := hrel
        go_wp2_with fail
        go_ret3
        exact ⟨rfl, .inr ⟨HN.out, by rw [HE.out]; rfl⟩⟩
    | some ad =>
      by_cases hck : c = k
      · have hct : (c = k) = True := eq_true hck
        clear hck
        go_wp2_with fail
        go_loop [4, 21] (fun s4 s21 => s21 = .int .i64 0) (fun _ _ => 0)
        case atStart => rfl
        case round =>
          obtain rfl := hrel
          go_wp2_with fail
          go_ret3
          exact ⟨rfl, .inr ⟨HN.out, by rw [HE.out]; rfl⟩⟩
      · have hcn : ¬ c = k := hck
        go_wp2_with fail
        go_loop [4, 21] (fun s4 s21 => s21 = .int .i64 0) (fun _ _ => 0)
        case atStart => rfl
        case round =>
          obtain rfl := hrel
          go_wp2_with fail
          go_ret3
          exact ⟨rfl, .inr ⟨HN.out, by rw [HE.out]; rfl⟩⟩
theorem codecUint_any (A : Option Addr) (c : Nat) (bs : List UInt8) (k : Nat) (w : World) (h : RS w A bs) (hA : A = none → c = 0) (hc : bs.length ≤ c) (hc2 : bs.length ≤ 9223372036854775807) (hk : k ≤ bs.length) :
    Calls Tryz.prog 193 #[.slice A bs.length c, .int .i64 (k : Int)] w (UintP bs k w) :=
  (codecUintQ_any A c bs k w h hA hc hc2 hk).mono fun _ _ h => ⟨h.1, h.2.elim .inl (fun h => .inr ⟨h.1, _, takeE_ne _ _, h.2⟩)⟩
end Go.Proofs.YtmiknfneeipkeaaGreat
namespace Go.Proofs.YtmiknfneeipkeaaGreat
open Go.RowKit
theorem take_put (s : List UInt8) : ∀ (x i v : Nat), i ≤ 9 → x * 128 ^ i < 18446744073709551616 → (0 < i → 0 < x) → takeU i v (putU x ++ s) = some (v + x * 128 ^ i, i + (putU x).length) := by
  intro x
  induction x using Nat.strongRecOn with
  | ind x ih =>
    intro i v hi hx hp
    have h9 : i = 9 → x ≤ 1 := fun e => by
      subst e
      have h2 : (128 : Nat) ^ 9 = 9223372036854775808 := by decide
      rw [h2] at hx
      omega
    by_cases h : x < 128
    · have e : putU x = [UInt8.ofNat x] := by rw [putU, dif_pos h]
      have ev : (UInt8.ofNat x).toNat = x := by rw [UInt8.toNat_ofNat']; omega
      rw [e, List.singleton_append, takeU, ev]
      rw [if_neg (by
        rintro ⟨h1, h2⟩
        have := h9 h1
        have := hp (by omega)
        omega), if_neg (by omega), if_neg (by
        rintro ⟨h1, h2⟩
        have := hp h2
        omega), Nat.mod_eq_of_lt h]
      rfl
    · have e : putU x = UInt8.ofNat (x % 128 + 128) :: putU (x / 128) := by rw [putU, dif_neg h]
      have ev : (UInt8.ofNat (x % 128 + 128)).toNat = x % 128 + 128 := by rw [UInt8.toNat_ofNat']; omega
      have hs : x % 128 * 128 ^ i + x / 128 * 128 ^ (i + 1) = x * 128 ^ i := by
        rw [Nat.pow_succ, ← Nat.mul_assoc, Nat.mul_right_comm, ← Nat.add_mul]
        congr 1
        omega
      have hi8 : i ≤ 8 := by
        rcases Nat.lt_or_ge i 9 with h1 | h1
        · omega
        · have := h9 (by omega)
          omega
      rw [e, List.cons_append, takeU, ev, if_neg (by
        rintro ⟨h1, _⟩
        omega), if_pos (by omega), show (x % 128 + 128) % 128 = x % 128 by omega]
      rw [ih (x / 128) (by omega) (i + 1) _ (by omega) (by omega) (fun _ => by omega)]
      rw [Nat.add_assoc, hs, List.length_cons, Nat.add_assoc, Nat.add_comm 1]
theorem take_put0 (x : Nat) (hx : x < 18446744073709551616) (s : List UInt8) : takeU 0 0 (putU x ++ s) = some (x, (putU x).length) := by
  have := take_put s x 0 0 (by omega) (by simpa using hx) (fun h => absurd h (Nat.lt_irrefl 0))
  simpa using this
end Go.Proofs.YtmiknfneeipkeaaGreat
namespace Go.Proofs.YtmiknfneeipkeaaGreat
open Go.RowKit
theorem sb_one (w : World) (x : UInt8) (v : Int) (hv : ((x.toNat : Nat) : Int) = v) : SB (w.alloc (.cells #[.int .u8 v] 5)) (some ⟨w.heap.size, 0, none⟩) [x] := by
  refine ⟨(fun e => by cases e), fun ad e j u hu => ?_⟩
  injection e with e
  subst e
  have hj : j = 0 := by
    have := (List.getElem?_eq_some_iff.1 hu).1
    simp at this
    exact this
  subst hj
  simp [encU] at hu
  subst hu
  rw [lit_add, (IsB.new w 5 #[.int .u8 v]).cell, ← hv]
  rfl
def RX (w : World) (d : BD) (bs : List UInt8) : Prop := RB w d bs ∨ (bs.length = d.len ∧ d.len = d.cap ∧ 0 < d.len ∧ SB w d.A bs)
theorem RX.of {w : World} {d : BD} {bs : List UInt8} (h : RB w d bs) : RX w d bs := .inl h
theorem RX.on {w w' : World} {d : BD} {bs : List UInt8} (h : RX w d bs) (hb : Below w.heap.size w w') : RX w' d bs := by
  rcases h with h | ⟨h1, h2, h3, h4⟩
  · exact .inl (h.on hb)
  · exact .inr ⟨h1, h2, h3, h4.on hb h4.lt⟩
theorem run_append_full (w : World) (ty : TypeId) (d : BD) (bs : List UInt8) (hl : bs.length = d.len) (hc : d.len = d.cap) (h0 : 0 < d.len) (hs : SB w d.A bs) (A : Option Addr) (c : Nat) (ns : List UInt8) (hsn : SB w A ns) (hp : 0 < ns.length) (hb : bs.length + ns.length ≤ 1099511627776) :
    ∃ d' w', (Builtin.append_ #[40, 40] ty #[vB d, .slice A ns.length c]).run Tryz.prog w = .ok (vB d') w' ∧ d'.len = d.len + ns.length ∧ AppB w d (bs ++ ns) d' w' := by
  obtain ⟨i0, hi, hz0, hz1, hz2⟩ := info_parts info5
  cases hA : A with
  | none =>
    have := hsn.1 hA
    omega
  | some a =>
    cases hd : d.A with
    | none =>
      have := hs.1 hd
      omega
    | some ad =>
      have hv : vB d = .slice (some ad) d.len d.cap := by simp [vB, hd]
      have hlo : (bs.map encU).length = d.len * i0.size := by rw [hz1, List.length_map, Nat.mul_one, hl]
      have hln : (ns.map encU).length = ns.length * i0.size := by rw [hz1, List.length_map, Nat.mul_one]
      have hr := run_append_grow (P := Tryz.prog) w 40 ty 5 i0 _ Tryz.underlying40 hi hz0 ad d.len d.cap (bs.map encU) hlo (fun j u hu => hs.2 ad hd j u hu) a ns.length c (ns.map encU) hln (hsn.2 a hA) (by omega) (by omega) (growslice_fits (by omega) (by rw [hz2]; omega))
      have hge := grownCap_ge w (d.len + ns.length) d.cap 5
      refine ⟨⟨some ⟨w.heap.size, 0, none⟩, d.len + ns.length, grownCap w (d.len + ns.length) d.cap 5⟩, _, by rw [hv]; exact hr, rfl, ?_, .inr ⟨w.heap.size, rfl, Nat.le_refl _, (Below.refl w.heap.size w).drew.alloc (by simp) _⟩⟩
      refine new_bytes w.drew _ _ _ _ _ (by simp) (by simp; omega) hge ?_ (fun j u hu => ?_)
      · rw [Array.size_append, Array.size_append, List.size_toArray, List.size_toArray, size_zeroCells]
        simp [Value.cells]
        omega
      · rw [List.map_append] at hu
        have hj := (List.getElem?_eq_some_iff.1 hu).1
        rw [Array.getElem?_append_left (by simpa using hj), List.append_toArray, List.getElem?_toArray]
        exact hu
theorem wpList_append_rx {w : World} {ops : Array Oper} {rest : List Oper} {o : Oper} {a : Act} {Q : Exit → Act → World → Prop} (hgd : o.guard = none) (s x : Operand) (ho : o.op = .call { callee := .builtin .append, args := #[s, x], argTypes := #[40, 40] }) (d : BD) (bs : List UInt8) (hs : a.eval s = vB d) (h : RX w d bs)
    (A : Option Addr) (c : Nat) (ns : List UInt8) (hx : a.eval x = .slice A ns.length c) (hsrc : SB w A ns) (hp : 0 < ns.length) (hb : bs.length + ns.length ≤ 1099511627776)
    (hK : ∀ d' w', d'.len = d.len + ns.length → AppB w d (bs ++ ns) d' w' → wpList Tryz.prog ops Q rest (a.put o.dst (vB d')) w') : wpList Tryz.prog ops Q (o :: rest) a w := by
  rcases h with h | ⟨h1, h2, h3, h4⟩
  · exact wpList_append_bytes hgd s x ho d bs hs h A c ns hx hsrc hb hK
  · refine wpList_plain hgd fun K hK' => ?_
    obtain ⟨d', w', hr, h5, h6⟩ := run_append_full w o.type d bs h1 h2 h3 h4 A c ns hsrc hp hb
    unfold Oper.wp execOp
    simp only [ho, resolve, invoke, builtin, Sem.run_bind, Sem.run_pure, Result.andThen_ok, List.map_toArray, List.map_cons, List.map_nil, hs, hx, hr]
    exact hK' _ _ (hK d' w' h5 h6)
set_option maxRecDepth 100000 in
set_option maxHeartbeats 1000000 in
theorem uintSize_any (v : Nat) (w : World) (hv : v < 18446744073709551616) : Calls Tryz.prog 93 #[.int .u64 (v : Int)] w fun e w' => (∃ n : Nat, e = .returned (.int .i64 n) ∧ n ≤ 100) ∧ w = w' := by
  go_enter Tryz.func93, Tryz.ntmps93
  go_wp2_with fail
  go_loop [0, 3] (fun x n => ∃ (k u : Nat), k ≤ 64 ∧ n = .int .i64 ((k : Nat) : Int) ∧ x = .int .u64 ((u : Nat) : Int) ∧ u * 2 ^ k ≤ v) (fun x _ => (intOf x).toNat)
  case atStart => exact ⟨1, v / 128, by omega, rfl, by go_num, by omega⟩
  case round =>
    obtain ⟨k, u, hk, rfl, rfl, hu⟩ := hrel
    by_cases hp : 0 < u
    · have hk2 : k < 64 := by
        rcases Nat.lt_or_ge k 64 with h | h
        · exact h
        · exfalso
          have : 2 ^ 64 ≤ 2 ^ k := Nat.pow_le_pow_right (by omega) h
          have h2 : 1 * 2 ^ k ≤ u * 2 ^ k := Nat.mul_le_mul_right _ hp
          omega
      have hu2 : Hid (u / 128 * 2 ^ (k + 1) ≤ v) := by
        rw [Hid, Nat.pow_succ]
        have h1 : u / 128 * (2 ^ k * 2) = u / 128 * 2 * 2 ^ k := by rw [Nat.mul_comm (2 ^ k) 2, ← Nat.mul_assoc]
        rw [h1]
        exact Nat.le_trans (Nat.mul_le_mul_right _ (by omega)) hu
      clear hu
      go_wp2_with fail
      go_round
      case rel => exact ⟨k + 1, u / 128, by omega, by go_num, by go_num, hu2.out⟩
      case measure => simp [intOf]; omega
    · clear hu
      go_wp2_with fail
      go_ret
      exact ⟨⟨k, rfl, by omega⟩, rfl⟩
end Go.Proofs.YtmiknfneeipkeaaGreat
namespace Go.Proofs.YtmiknfneeipkeaaGreat
open Go.RowKit
theorem mk_bytes (w : World) (n c : Nat) (h : n ≤ c) (hc : c ≤ 16777216) : (Instr.makeSlice 40 (.int .i64 n) (.int .i64 c)).run Tryz.prog w = .ok (.slice (some ⟨w.heap.size, 0, none⟩) n c) (w.alloc (.cells (Array.replicate c (encU 0)) 5)) := by
  obtain ⟨i0, hi, hz0, hz1, hz2⟩ := info_parts info5
  have := run_makeSlice (P := Tryz.prog) w 40 5 i0 _ Tryz.underlying40 hi hz0 .i64 .i64 n c (by omega) (by omega) (by rw [hz1]; simp; omega) (by rw [hz2]; omega) (by omega)
  simp only [Int.toNat_natCast] at this
  have e : madeCells (Value.int IntKind.u8 0).cells c = (Array.replicate c (encU 0)) := Array.ext' (by rw [show (Value.int IntKind.u8 0).cells = #[Value.int IntKind.u8 0] from rfl, toList_madeCells_one]; simp [encU])
  rw [this, hz1, Nat.mul_one, e]
theorem setCells_tail (b : Nat) {t : TypeId} : ∀ (vs : List Value) (o : Nat) (w : World) (cur : Array Value), IsB w b t cur → ∃ cur', IsB (w.setCells b o vs) b t cur' ∧ cur'.size = cur.size ∧ (∀ j, j < o → cur'[j]? = cur[j]?) ∧ (∀ j, j < vs.length → o + j < cur.size → cur'[o + j]? = vs[j]?) ∧ ∀ j, o + vs.length ≤ j → cur'[j]? = cur[j]?
  | [], _, _, cur, h => ⟨cur, h, rfl, fun _ _ => rfl, (fun j hj => absurd hj (by simp)), fun _ _ => rfl⟩
  | v :: r, o, w, cur, h => by
    obtain ⟨cur', c1, c2, c3, c4, c5⟩ := setCells_tail b r (o + 1) (w.setCell ⟨b, o, none⟩ v) (cur.setIfInBounds o v) (h.set_ o v)
    refine ⟨cur', c1, by simpa using c2, fun j hj => ?_, fun j hj hs => ?_, fun j hj => ?_⟩
    · rw [c3 j (by omega), Array.getElem?_setIfInBounds_ne (by omega)]
    · cases j with
      | zero =>
        rw [Nat.add_zero, c3 o (by omega), Array.getElem?_setIfInBounds_self_of_lt (by omega)]
        rfl
      | succ j =>
        have := c4 j (by simpa using hj) (by simp; omega)
        rw [show o + (j + 1) = o + 1 + j by omega, this]
        rfl
    · simp only [List.length_cons] at hj
      rw [c5 j (by omega), Array.getElem?_setIfInBounds_ne (by omega)]
theorem run_copyB (w : World) (ty : TypeId) (g dLen dCap : Nat) (cur : Array Value) (hg : IsB w g 5 cur) (A : Option Addr) (c : Nat) (bs : List UInt8) (hs : SB w A bs) (hfit : min bs.length dLen ≤ cur.size) :
    ∃ w', (Builtin.copy_ #[40, 40] ty #[.slice (some ⟨g, 0, none⟩) dLen dCap, .slice A bs.length c]).run Tryz.prog w = .ok (goInt ((min bs.length dLen : Nat) : Int)) w' ∧ w.grownBy w' (some g) ∧ w'.heap.size = w.heap.size ∧
      ∃ cur', IsB w' g 5 cur' ∧ cur'.size = cur.size ∧ (∀ j, j < min bs.length dLen → cur'[j]? = some (encU (bs.getD j 0))) ∧ ∀ j, min bs.length dLen ≤ j → cur'[j]? = cur[j]? := by
  have hsz : (Tryz.prog.info? 5).map (·.size) = some 1 := by
    obtain ⟨i0, hi, _, hz1, _⟩ := info_parts info5
    rw [hi]
    simp [hz1]
  by_cases h0 : min bs.length dLen = 0
  · refine ⟨w, ?_, g_refl _ _, rfl, cur, hg, rfl, fun j hj => by omega, fun _ _ => rfl⟩
    rw [h0]
    exact run_copy_none w 40 40 ty 5 _ A dLen dCap bs.length c Tryz.underlying40 hsz h0
  · cases A with
    | none =>
      have := hs.1 rfl
      omega
    | some ad =>
      have hl : ((bs.take dLen).map encU).length = Nat.min bs.length dLen := by
        rw [List.length_map, List.length_take]
        exact Nat.min_comm _ _
      have hl2 : ((bs.take dLen).map encU).length = min bs.length dLen := hl
      have hr := run_copy_cells (P := Tryz.prog) w 40 40 ty 5 g 0 dLen dCap ad bs.length c ((bs.take dLen).map encU) Tryz.underlying40 hsz hl
        (fun j v hv => by
          refine hs.2 ad rfl j v ?_
          obtain ⟨hj, hv'⟩ := List.getElem?_eq_some_iff.1 hv
          have hj2 : j < dLen := by rw [hl2] at hj; omega
          rw [← hv, List.map_take, List.getElem?_take_of_lt hj2])
        (fun j hj => by
          rw [Nat.zero_add, hg.cell, Array.getElem?_eq_getElem (by omega)]
          rfl) (fun j _ => hg.frozen _) (encU_one _)
      obtain ⟨cur', c1, c2, c3, c4, c5⟩ := setCells_tail g ((bs.take dLen).map encU) 0 w cur hg
      obtain ⟨e1, e2, e3, e4⟩ := setCells_world g ((bs.take dLen).map encU) 0 w
      rw [hl2] at hr
      refine ⟨_, hr, ⟨e1, e2, e3, by omega, fun i _ hne => setCells_heap g _ _ w i (fun e => hne (by rw [e]))⟩, e4, cur', c1, c2, fun j hj => ?_, fun j hj => c5 j (by rw [hl2]; omega)⟩
      have := c4 j (by rw [hl2]; exact hj) (by omega)
      rw [Nat.zero_add] at this
      rw [this, List.getElem?_map, List.getElem?_take_of_lt (by omega), List.getD_eq_getElem?_getD, List.getElem?_eq_getElem (by omega)]
      rfl
theorem get_encU {bs : List UInt8} {j : Nat} {u : Value} (h : (bs.map encU)[j]? = some u) : j < bs.length ∧ u = encU (bs.getD j 0) := by
  obtain ⟨hj, hu⟩ := List.getElem?_eq_some_iff.1 h
  have hj' : j < bs.length := by simpa using hj
  refine ⟨hj', ?_⟩
  rw [← hu, List.getElem_map, List.getD_eq_getElem?_getD, List.getElem?_eq_getElem hj']
  rfl
set_option maxRecDepth 100000 in
set_option maxHeartbeats 1000000 in
theorem extended_any (A : Option Addr) (c : Nat) (bs : List UInt8) (n : Nat) (w : World) (h : SB w A bs) (hn : bs.length ≤ 1000000) (hk : n ≤ 1000) :
    Calls Tryz.prog 92 #[.slice A bs.length c, .int .i64 (n : Int)] w (NewB bs w) := by
  have hmk := mk_bytes w bs.length (bs.length + n) (by omega) (by omega)
  rw [Int.natCast_add] at hmk
  have hB : IsB (w.alloc (.cells (Array.replicate (bs.length + n) (encU 0)) 5)) w.heap.size 5 (Array.replicate (bs.length + n) (encU 0)) := IsB.new _ _ _
  obtain ⟨w1, hcp, hg, hz, cur', c1, c2, c3, c4⟩ := run_copyB _ 3 w.heap.size bs.length (bs.length + n) _ hB A c bs (h.on (bel1q _ _) h.lt) (by simp)
  rw [Nat.min_self] at hcp c3 c4
  have HG := Lib.hid hg
  have C1 := Lib.hid c1
  have C2 := Lib.hid c2
  have C3 := Lib.hid c3
  clear hg hz c1 c2 c3 c4 hB h
  go_enter Tryz.func92, Tryz.ntmps92
  go_wp2_with fail
  go_ret
  refine ⟨⟨some ⟨w.heap.size, 0, none⟩, bs.length, bs.length + n⟩, rfl, ⟨rfl, by simp, (fun e => by cases e), fun ad e => ?_⟩, (fun g hg => by simp [blk] at hg; omega), ?_⟩
  · injection e with e
    subst e
    refine ⟨_, cur', rfl, C1.out, by rw [C2.out]; simp, fun j u hu => ?_⟩
    obtain ⟨hj, rfl⟩ := get_encU hu
    exact C3.out j hj
  · exact (bel1q w _).grown HG.out (by simp) (by simp)
theorem or7 (x y : Nat) (hy : x < 128) : x ||| 128 = x + 128 := by
  have := Nat.two_pow_add_eq_or_of_lt (i := 7) (b := x) (by omega) 1
  rw [show 2 ^ 7 * 1 = 128 by rfl] at this
  rw [Nat.or_comm, ← this, Nat.add_comm]
theorem mask7 (a : Nat) (ha : a < 18446744073709551616) : bits .and .u64 (a : Int) 127 = ((a % 128 : Nat) : Int) := by
  have h := bits_and_u64_nat a 127 ha (by omega)
  have e : a &&& 127 = a % 128 := Nat.and_two_pow_sub_one_eq_mod a 7
  rw [e] at h
  exact h
theorem set7 (a : Nat) (ha : a < 18446744073709551616) : bits .or .u64 (bits .and .u64 (a : Int) 127) 128 = ((a % 128 + 128 : Nat) : Int) := by
  rw [mask7 a ha]
  have h := bits_or_u64_nat (a % 128) 128 (by omega) (by omega)
  rw [or7 _ 0 (by omega)] at h
  exact h
set_option maxRecDepth 100000 in
set_option maxHeartbeats 4000000 in
theorem appendUint_any (d : BD) (bs : List UInt8) (v : Nat) (w0 w : World) (hr : RB w d bs) (hd : ∀ g, blk d = some g → w0.heap.size ≤ g) (h0 : Below w0.heap.size w0 w) (hv : v < 18446744073709551616) (hn : bs.length ≤ 1000000) :
    Calls Tryz.prog 91 #[.slice d.A d.len d.cap, .int .u64 (v : Int)] w (NewB (bs ++ putU v) w0) := by
  have HR := Lib.hid hr
  have HD := Lib.hid hd
  have H0 := Lib.hid h0
  clear hr hd h0
  go_enter Tryz.func91, Tryz.ntmps91
  go_wp2_with fail
  go_loopw [0, 1] (fun s x wr => ∃ (u : Nat) (d' : BD) (cs : List UInt8), u < 18446744073709551616 ∧ x = .int .u64 ((u : Nat) : Int) ∧ s = .slice d'.A d'.len d'.cap ∧ RB wr d' cs ∧ Hid (cs ++ putU u = bs ++ putU v) ∧ (∀ g, blk d' = some g → w0.heap.size ≤ g) ∧ Below w0.heap.size w0 wr) (fun _ x _ => (intOf x).toNat)
  case atStart => exact ⟨v, d, bs, hv, rfl, rfl, HR.out, rfl, HD.out, H0.out⟩
  case round =>
    obtain ⟨u, d', cs, hu, rfl, rfl, hr, HE, hd, hb⟩ := hrel
    have R1 := Lib.hid hr
    have D1 := Lib.hid hd
    have B1 := Lib.hid hb
    clear hr hd hb
    have hv10 : (putU v).length ≤ 10 := putU_len (k := 9) (by omega)
    have hcl : cs.length ≤ bs.length + 10 := by
      have := congrArg List.length HE.out
      simp only [List.length_append] at this
      omega
    clear hv10
    by_cases hlt : 128 ≤ u
    · have e1 := set7 u hu
      have HP : Hid (putU u = UInt8.ofNat (u % 128 + 128) :: putU (u / 128)) := by rw [Hid, putU, dif_neg (by omega)]
      go_wp2_with (at_builtin; refine halt_q ?_)
      have hx : (((UInt8.ofNat (u % 128 + 128)).toNat : Nat) : Int) = (u : Int) % 128 + 128 := by
        rw [UInt8.toNat_ofNat']
        omega
      have S1 := sb_one wr _ _ hx
      refine wpList_append_bytes rfl _ _ rfl d' cs rfl (R1.out.on (bel1q _ _)) (some ⟨wr.heap.size, 0, none⟩) 1 [UInt8.ofNat (u % 128 + 128)] rfl S1 (by simp only [List.length_cons, List.length_nil]; omega) ?_
      intro d2 w2 hl2 happ
      obtain ⟨r1, r2, r3⟩ := happ.new (w0 := w0) D1.out (B1.out.trans ((bel1q wr _).mono B1.out.size))
      have R2 := Lib.hid r1
      have D2 := Lib.hid r2
      have B2 := Lib.hid r3
      clear r1 r2 r3 happ hl2 hx S1 e1
      unfold vB
      go_wp2_with fail
      go_roundw
      case rel => exact ⟨u / 128, d2, cs ++ [UInt8.ofNat (u % 128 + 128)], by omega, by go_num, rfl, R2.out, by rw [Hid, List.append_assoc, List.singleton_append, ← HP.out]; exact HE.out, D2.out, B2.out⟩
      case measure => simp [intOf]; omega
    · have HP : Hid (putU u = [UInt8.ofNat u]) := by rw [Hid, putU, dif_pos (by omega)]
      go_wp2_with (at_builtin; refine halt_q ?_)
      have hx : (((UInt8.ofNat u).toNat : Nat) : Int) = (u : Int) := by
        rw [UInt8.toNat_ofNat']
        omega
      have S1 := sb_one wr _ _ hx
      refine wpList_append_bytes rfl _ _ rfl d' cs rfl (R1.out.on (bel1q _ _)) (some ⟨wr.heap.size, 0, none⟩) 1 [UInt8.ofNat u] rfl S1 (by simp only [List.length_cons, List.length_nil]; omega) ?_
      intro d2 w2 hl2 happ
      obtain ⟨r1, r2, r3⟩ := happ.new (w0 := w0) D1.out (B1.out.trans ((bel1q wr _).mono B1.out.size))
      rw [← HP.out, HE.out] at r1
      have R2 := Lib.hid r1
      have D2 := Lib.hid r2
      have B2 := Lib.hid r3
      clear r1 r2 r3 happ hl2 hx S1
      unfold vB
      go_wp2_with fail
      go_ret
      exact ⟨d2, rfl, R2.out, D2.out, B2.out⟩
theorem NewB.base {bs : List UInt8} {w0 w w' : World} {e : Ending} (h : NewB bs w e w') (h0 : Below w0.heap.size w0 w) : NewB bs w0 e w' := by
  obtain ⟨d, he, hr, hd, hb⟩ := h
  exact ⟨d, he, hr, fun g hg => Nat.le_trans h0.size (hd g hg), h0.trans (hb.mono h0.size)⟩
set_option maxRecDepth 100000 in
set_option maxHeartbeats 1000000 in
theorem PutUint_any (A : Option Addr) (c : Nat) (bs : List UInt8) (v : Nat) (w : World) (h : SB w A bs) (hn : bs.length ≤ 900000) (hv : v < 18446744073709551616) :
    Calls Tryz.prog 43 #[.slice A bs.length c, .int .u64 (v : Int)] w (NewB (bs ++ putU v) w) := by
  have H := Lib.hid h
  clear h
  go_enter Tryz.func43, Tryz.ntmps43
  go_wp2_with fail
  refine (uintSize_any v _ hv).mono ?_
  rintro e w1 ⟨⟨n, rfl, hn2⟩, rfl⟩
  go_wp2_with fail
  refine (extended_any A c bs n w H.out (by omega) (by omega)).mono ?_
  rintro e w1 ⟨⟨B, m, cc⟩, rfl, hr, hd, hb⟩
  have R1 := Lib.hid hr
  have D1 := Lib.hid hd
  have B1 := Lib.hid hb
  clear hr hd hb
  unfold vB
  go_wp2_with fail
  refine (appendUint_any ⟨B, m, cc⟩ bs v w w1 R1.out D1.out B1.out hv (by omega)).mono ?_
  rintro e w2 ⟨d2, rfl, hr, hd, hb⟩
  have R2 := Lib.hid hr
  have D2 := Lib.hid hd
  have B2 := Lib.hid hb
  clear hr hd hb
  unfold vB
  go_wp2_with fail
  go_ret
  exact ⟨d2, rfl, R2.out, D2.out, B2.out⟩
end Go.Proofs.YtmiknfneeipkeaaGreat
