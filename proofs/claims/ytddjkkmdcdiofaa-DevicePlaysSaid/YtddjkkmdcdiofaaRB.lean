/- Slices that read as lists of plain data: any element of k cells. -/
import Derived.Test.YtddjkkmdcdiofaaE
import Derived.Deep.AppendLies
import Derived.Laws.OwnMore
import Derived.Maps.AppendAt
namespace Go.Proofs.Ytddjkkmdcdiofaa
open Go.RowKit

theorem only_of_below {a w : World} (h : Below a.heap.size a w) (row : Option Nat) : a.grownBy w row := ⟨h.os, h.tape, h.output, h.size, fun i hi _ => h.block i hi⟩
theorem bdrewN {B : Nat} {a w : World} (h : Below B a w) (n : Nat) : Below B a (w.drewN n) := ⟨h.os, h.tape, h.output, h.size, h.block⟩
theorem g_refl (w : World) (row : Option Nat) : w.grownBy w row := ⟨rfl, rfl, rfl, Nat.le_refl _, fun _ _ _ => rfl⟩
theorem g_trans {a b c : World} {row : Option Nat} (h : a.grownBy b row) (k : b.grownBy c row) : a.grownBy c row :=
  ⟨k.os.trans h.os, k.tape.trans h.tape, k.output.trans h.output, Nat.le_trans h.size k.size, fun i hi hne => (k.block i (Nat.lt_of_lt_of_le hi h.size) hne).trans (h.block i hi hne)⟩
theorem g_alloc {a w : World} {row : Option Nat} (h : a.grownBy w row) (o : Obj) : a.grownBy (w.alloc o) row := g_trans h (World.grownBy_alloc w o row)
theorem g_drewN {a w : World} {row : Option Nat} (h : a.grownBy w row) (n : Nat) : a.grownBy (w.drewN n) row := ⟨h.os, h.tape, h.output, h.size, h.block⟩
theorem g_below {a w w' : World} {row : Option Nat} (h : a.grownBy w row) (hb : Below w.heap.size w w') : a.grownBy w' row := g_trans h (only_of_below hb row)
theorem g_set {a w : World} {g : Nat} (h : a.grownBy w (some g)) {p : Addr} (hp : p.block = g ∨ a.heap.size ≤ p.block) (u : Value) : a.grownBy (w.setCell p u) (some g) :=
  ⟨h.os, h.tape, h.output, by simpa [World.setCell] using h.size, fun i hi hne => (Below.heap_setCell w p u i (by
    rintro rfl
    rcases hp with hp | hp
    · exact hne (by rw [hp])
    · omega)).trans (h.block i hi hne)⟩
/-- A write into a row of the call's own, seen from the start. -/
theorem g_own {a w w' : World} {x base : Nat} {v : Value} {e : TypeId} {size n : Nat} {xs : List Value} (h : a.grownBy w (some x)) (hg : w.grownBy w' v.ownBlock) (hown : w.ownsRow base e size v n xs) (hb : a.heap.size ≤ base) : a.grownBy w' (some x) :=
  ⟨hg.os.trans h.os, hg.tape.trans h.tape, hg.output.trans h.output, Nat.le_trans h.size hg.size, fun i hi hne => (hg.block i (Nat.lt_of_lt_of_le hi h.size) (fun e => by have := (hown.lt i e.symm).1; omega)).trans (h.block i hi hne)⟩
theorem g_cell {w w' : World} {x b o : Nat} (h : w.grownBy w' (some x)) (hb : b < w.heap.size) (hx : b ≠ x) : w'.cell? ⟨b, o, none⟩ = w.cell? ⟨b, o, none⟩ :=
  World.cell?_of_block (h.block b hb (fun e => hx (by injection e)))

def IsB (w : World) (g : Nat) (t : TypeId) (cs : Array Value) : Prop := w.heap[g]? = some (.cells cs t (0, 0))
theorem IsB.lt {w : World} {g : Nat} {t : TypeId} {cs : Array Value} (h : IsB w g t cs) : g < w.heap.size := by
  unfold IsB at h
  exact (Array.getElem?_eq_some_iff.1 h).1
theorem IsB.cell {w : World} {g : Nat} {t : TypeId} {cs : Array Value} (h : IsB w g t cs) (i : Nat) : w.cell? ⟨g, i, none⟩ = cs[i]? := cell_of_row w g i cs t (0, 0) h
theorem IsB.frozen {w : World} {g : Nat} {t : TypeId} {cs : Array Value} (h : IsB w g t cs) (i : Nat) : w.frozen? ⟨g, i, none⟩ = false := by
  unfold IsB at h
  simp [World.frozen?, h]
theorem IsB.new (w : World) (t : TypeId) (cs : Array Value) : IsB (w.alloc (.cells cs t)) w.heap.size t cs := heap_alloc_new w _
theorem IsB.alloc {w : World} {g : Nat} {t : TypeId} {cs : Array Value} (h : IsB w g t cs) (o : Obj) : IsB (w.alloc o) g t cs := (Below.heap_alloc w o g h.lt).trans h
theorem IsB.drewN {w : World} {g : Nat} {t : TypeId} {cs : Array Value} (h : IsB w g t cs) (n : Nat) : IsB (w.drewN n) g t cs := h
theorem IsB.grown {w w' : World} {g : Nat} {t : TypeId} {cs : Array Value} {row : Option Nat} (h : IsB w g t cs) (hb : w.grownBy w' row) (hg : some g ≠ row) : IsB w' g t cs := (hb.block g h.lt hg).trans h
theorem IsB.on {w w' : World} {g : Nat} {t : TypeId} {cs : Array Value} (h : IsB w g t cs) (hb : Below w.heap.size w w') : IsB w' g t cs := (hb.block g h.lt).trans h
theorem IsB.set_ {w : World} {g : Nat} {t : TypeId} {cs : Array Value} (h : IsB w g t cs) (i : Nat) (u : Value) : IsB (w.setCell ⟨g, i, none⟩ u) g t (cs.setIfInBounds i u) := by
  unfold IsB at h ⊢
  simp [World.setCell, Array.getElem?_modify, h]
theorem IsB.own_ne {w : World} {g : Nat} {t : TypeId} {cs : Array Value} {base : Nat} {e : TypeId} {size n : Nat} {v : Value} {xs : List Value} (hg : IsB w g t cs) (h : w.ownsRow base e size v n xs) (hne : e ≠ t) : some g ≠ v.ownBlock := by
  rcases h.2 with ⟨rfl, _⟩ | ⟨g', cap, cur, rfl, _, hh, _⟩
  · simp [Value.ownBlock]
  · intro he
    have : g = g' := by simpa [Value.ownBlock] using he
    subst this
    unfold IsB at hg
    rw [hg] at hh
    injection hh with hh
    injection hh with _ ht
    exact hne ht.symm
theorem IsB.ne_ {w : World} {g g' : Nat} {t t' : TypeId} {cs cs' : Array Value} (h : IsB w g t cs) (h' : IsB w g' t' cs') (hne : t ≠ t') : g ≠ g' := by
  rintro rfl
  unfold IsB at h h'
  rw [h] at h'
  injection h' with h'
  injection h' with _ ht
  exact hne ht
theorem own_set {w : World} {base : Nat} {e : TypeId} {size n : Nat} {v : Value} {xs : List Value} {p : Addr} (h : w.ownsRow base e size v n xs) (hp : some p.block ≠ v.ownBlock) (u : Value) : (w.setCell p u).ownsRow base e size v n xs :=
  h.kept (row := some p.block) (g_set (g_refl _ _) (.inl rfl) u) (by
    cases hv : v.ownBlock with
    | none => exact .inl rfl
    | some k => exact .inr (fun e => hp (by rw [hv, ← e])))
theorem new_cell (W : World) (t : TypeId) (cs : Array Value) (H : Nat) (hH : W.heap.size = H) (i : Nat) : (W.alloc (.cells cs t)).cell? ⟨H, i, none⟩ = cs[i]? := by
  subst hH
  exact (IsB.new W t cs).cell i

section
variable {α : Type}

/-- The slice value '.slice A xs.length c' holds xs, in a block that is not x. -/
def Rd (enc : α → List Value) (k : Nat) (d : α) (w : World) (x : Nat) (A : Option Addr) (xs : List α) : Prop :=
  0 < xs.length → ∃ b o, A = some ⟨b, o, none⟩ ∧ b < w.heap.size ∧ b ≠ x ∧ ∀ j, j < xs.length → ∀ i v, (enc (xs.getD j d))[i]? = some v → w.cell? ⟨b, o + j * k + i, none⟩ = some v

variable {enc : α → List Value} {k : Nat} {d : α} {w w' : World} {x : Nat} {A : Option Addr} {xs : List α}
theorem Rd.keep (h : Rd enc k d w x A xs) (hs : w.heap.size ≤ w'.heap.size) (hk : ∀ b o, b < w.heap.size → b ≠ x → w'.cell? ⟨b, o, none⟩ = w.cell? ⟨b, o, none⟩) : Rd enc k d w' x A xs := by
  intro hp
  obtain ⟨b, o, e, hb, hx, hc⟩ := h hp
  exact ⟨b, o, e, by omega, hx, fun j hj i v hv => by rw [hk _ _ hb hx]; exact hc j hj i v hv⟩
theorem Rd.on (h : Rd enc k d w x A xs) (hb : Below w.heap.size w w') : Rd enc k d w' x A xs := h.keep hb.size fun b o hb' _ => hb.cell (p := ⟨b, o, none⟩) hb'
theorem Rd.gr (h : Rd enc k d w x A xs) (hg : w.grownBy w' (some x)) : Rd enc k d w' x A xs := h.keep hg.size fun _ _ hb' hx => g_cell hg hb' hx
theorem Rd.alloc (h : Rd enc k d w x A xs) (o : Obj) : Rd enc k d (w.alloc o) x A xs := h.on ((Below.refl _ _).alloc (Nat.le_refl _) o)
theorem Rd.drewN (h : Rd enc k d w x A xs) (n : Nat) : Rd enc k d (w.drewN n) x A xs := h
/-- A write into a row in another block. -/
theorem Rd.own (h : Rd enc k d w x A xs) {row : Option Nat} (hg : w.grownBy w' row) (hsep : ∀ b o, A = some ⟨b, o, none⟩ → some b ≠ row) : Rd enc k d w' x A xs := by
  intro hp
  obtain ⟨b, o, e, hb, hx, hc⟩ := h hp
  exact ⟨b, o, e, Nat.lt_of_lt_of_le hb hg.size, hx, fun j hj i v hv => (World.cell?_of_block (hg.block b hb (hsep b o e))).trans (hc j hj i v hv)⟩
theorem Rd.nil : Rd enc k d w x A [] := fun hp => absurd hp (by simp)

theorem flat_len (hk : ∀ y, (enc y).length = k) (l : List α) : (l.flatMap enc).length = l.length * k := by
  induction l with
  | nil => simp
  | cons y l ih => rw [List.flatMap_cons, List.length_append, ih, hk, List.length_cons, Nat.add_mul, Nat.one_mul, Nat.add_comm]
theorem flat_at (hk : ∀ y, (enc y).length = k) (d : α) (l : List α) (j i : Nat) (hj : j < l.length) (hi : i < k) : (l.flatMap enc)[j * k + i]? = (enc (l.getD j d))[i]? := by
  induction l generalizing j with
  | nil => simp at hj
  | cons y l ih =>
    rw [List.flatMap_cons]
    cases j with
    | zero => rw [List.getElem?_append_left (by rw [hk]; omega)]; simp
    | succ j =>
      have h := ih j (by simpa using hj)
      rw [List.getElem?_append_right (by rw [hk, Nat.add_mul]; omega), hk, show (j + 1) * k + i - k = j * k + i by rw [Nat.add_mul]; omega, h]
      simp
theorem Rd.of_own {base : Nat} {e : TypeId} {n c : Nat} (hk : ∀ y, (enc y).length = k) (hk0 : 0 < k) (h : w.ownsRow base e k (.slice A n c) n (xs.flatMap enc)) (hx : x < base) : n = xs.length ∧ Rd enc k d w x A xs := by
  have hl := h.1
  rw [flat_len hk] at hl
  have hn : n = xs.length := (Nat.eq_of_mul_eq_mul_right hk0 hl).symm
  refine ⟨hn, fun hp => ?_⟩
  obtain ⟨g, cap, hv, hb, hlt⟩ := h.form (by omega)
  injection hv with h1 h2 h3
  subst h1
  refine ⟨g, 0, rfl, hlt, by omega, fun j hj i v hi => ?_⟩
  have hik : i < k := by
    have := (List.getElem?_eq_some_iff.1 hi).1
    rwa [hk] at this
  have hjk : j * k + i < n * k := by
    have : (j + 1) * k ≤ n * k := Nat.mul_le_mul_right k (by omega)
    rw [Nat.add_mul] at this
    omega
  subst h3
  rw [Nat.zero_add, h.cellAt _ hjk, flat_at hk d xs j i hj hik]
  exact hi
theorem own_slice {base : Nat} {e : TypeId} {size n : Nat} {v : Value} {ys : List Value} (h : w.ownsRow base e size v n ys) : ∃ A c, v = .slice A n c := by
  rcases h.2 with ⟨rfl, rfl⟩ | ⟨g, cap, cur, rfl, _⟩
  · exact ⟨none, 0, rfl⟩
  · exact ⟨_, cap, rfl⟩
theorem own_cap {base : Nat} {e : TypeId} {size n c : Nat} {ys : List Value} (h : w.ownsRow base e size (.slice A n c) n ys) : n ≤ c := by
  rcases h.2 with ⟨hv, h0⟩ | ⟨g, cap, cur, hv, _, _, hc, _⟩
  · omega
  · injection hv with h1 h2 h3; omega
/-- As a source of append. -/
theorem Rd.opt (hk : ∀ y, (enc y).length = k) (hk0 : 0 < k) (h : Rd enc k d w x A xs) : (A = none → xs.length = 0) ∧ ∀ ad, A = some ad → ∀ j u, (xs.flatMap enc)[j]? = some u → w.cell? (ad.add j) = some u := by
  refine ⟨fun e => ?_, fun ad e j u hu => ?_⟩
  · rcases Nat.eq_zero_or_pos xs.length with h0 | h0
    · exact h0
    · obtain ⟨b, o, e', _⟩ := h h0
      rw [e] at e'
      cases e'
  · have hj : j < xs.length * k := by
      have := (List.getElem?_eq_some_iff.1 hu).1
      rwa [flat_len hk] at this
    have hq : j / k < xs.length := by rw [Nat.div_lt_iff_lt_mul hk0]; exact hj
    obtain ⟨b, o, e', hb, _, hc⟩ := h (Nat.lt_of_le_of_lt (Nat.zero_le _) hq)
    rw [e] at e'
    injection e' with e'
    subst e'
    have hm : j % k < k := Nat.mod_lt _ hk0
    have hadd : (⟨b, o, none⟩ : Addr).add j = ⟨b, o + j, none⟩ := by unfold Addr.add; split <;> simp_all
    have hdm : j / k * k + j % k = j := by rw [Nat.mul_comm]; exact Nat.div_add_mod j k
    have h1 := flat_at hk d xs (j / k) (j % k) hq hm
    rw [hdm, hu] at h1
    have h2 := hc (j / k) hq (j % k) u h1.symm
    rw [Nat.add_assoc, hdm] at h2
    rw [hadd]
    exact h2
end
end Go.Proofs.Ytddjkkmdcdiofaa
