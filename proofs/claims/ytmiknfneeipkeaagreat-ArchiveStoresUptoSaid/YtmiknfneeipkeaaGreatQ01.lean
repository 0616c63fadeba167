/- Contracts of the walk, part 1. -/
import Derived.WalkKit
import Derived.Deep.QuietTactic
import Derived.BigQuiet
import Derived.Lib.Hide
import Derived.StillTail
import Derived.Deep.AppendLies
import Derived.Laws.OwnMore
import Derived.Maps.AppendAt
import Derived.Test.YtmiknfneeipkeaaGreatProg
import Derived.WalkSpells
import Derived.WalkLawsBesides
namespace Go.Proofs.YtmiknfneeipkeaaGreat
open Go.RowKit

/-- What may come of a world by making memory alone. -/
structure Ext (w : World) where
  to : World
  below : Below w.heap.size w to

instance extNonempty (w : World) : Nonempty (Ext w) := ⟨⟨w, Below.refl _ _⟩⟩

def wext (w : World) (g : Ext w) : World := g.to

theorem wext_below {w : World} (g : Ext w) : Below w.heap.size w (wext w g) := g.below
theorem wext_of {w w' : World} (h : Below w.heap.size w w') : ∃ g : Ext w, w' = wext w g := ⟨⟨w', h⟩, rfl⟩

theorem wext_cell (w : World) (g : Ext w) (b o : Nat) (s : Option Nat) (h : b < w.heap.size) : (wext w g).cell? ⟨b, o, s⟩ = w.cell? ⟨b, o, s⟩ := g.below.cell (p := ⟨b, o, s⟩) h
theorem wext_frozen (w : World) (g : Ext w) (b o : Nat) (s : Option Nat) (h : b < w.heap.size) : (wext w g).frozen? ⟨b, o, s⟩ = w.frozen? ⟨b, o, s⟩ := g.below.frozen (p := ⟨b, o, s⟩) h

theorem wp_region_ext {P : Program} {id : Nat} {Q : Exit → Act → World → Prop} {a : Act} {w : World} {l : List Oper} (hm : P.follows .mixedOrders = true) (hB : Region.lexB .any l.toArray = true)
    (h : wpQuiet P l.toArray (fun w' => ∃ g : Ext w, w' = wext w g) (fun a' => ∀ w', Below w.heap.size w w' → Q .normal a' w') l a) : (Code.region id l.toArray true).wp P Q a w := by
  refine wp_region_quiet (C := fun w' => ∃ g : Ext w, w' = wext w g) hm hB (wext_of (Below.refl _ _).drew) ?_
  have e : (fun a' => ∀ w', (∃ g : Ext w, w' = wext w g) → Q .normal a' w') = (fun a' => ∀ w', Below w.heap.size w w' → Q .normal a' w') := by
    funext a'
    apply propext
    constructor
    · intro hh w' hb; exact hh w' (wext_of hb)
    · rintro hh w' ⟨g, rfl⟩; exact hh _ (wext_below g)
  rw [e]
  exact h

/-- A callee's contract inside such a region. -/
theorem ext_call {P : Program} {f : FuncId} {args : Array Value} {w : World} {g : Ext w} {v : Value}
    (h : Calls P f args (wext w g) fun e w' => e = .returned v ∧ Below (wext w g).heap.size (wext w g) w') :
    Calls P f args (wext w g) fun e w'' => e = .returned v ∧ ∃ g', w'' = wext w g' :=
  h.mono fun _ _ ⟨he, hb⟩ => ⟨he, wext_of ((wext_below g).trans (hb.mono (wext_below g).size))⟩

section
variable {P : Program} {ops : Array Oper} {md : Region.Mode} {C : World → Prop}

/-- The first n operations, in whatever order, each quiet in the class C; then L. -/
def headQ (P : Program) (md : Region.Mode) (ops : Array Oper) (C : World → Prop) (n : Nat) (L : Array Bool → Act → Prop) : Nat → Array Bool → Act → Prop
  | 0, listed, a => L listed a
  | f + 1, listed, a => Region.ready md ops listed ≠ [] ∧ ∀ i ∈ Region.ready md ops listed, i < n ∧ qOp P ops C i (headQ P md ops C n L f (listed.setIfInBounds i true)) a

theorem any_of_headQ {n g : Nat} {L : Array Bool → Act → Prop} {Q' : Exit → Act → World → Prop} (hL : ∀ listed a w, C w → L listed a → wpAny P md ops Q' g listed a w) :
    ∀ (f : Nat) (listed : Array Bool) (a : Act) (w : World), C w → headQ P md ops C n L f listed a → wpAny P md ops Q' (f + g) listed a w
  | 0, listed, a, w, hw, h => by rw [Nat.zero_add]; exact hL _ _ _ hw h
  | f + 1, listed, a, w, hw, h => by
    rw [show f + 1 + g = (f + g) + 1 by omega]
    exact ⟨fun h0 => absurd h0 h.1, fun i hi => wpOp_of_qOp hw (fun a' w' hw' h' => any_of_headQ hL f _ a' w' hw' h') (h.2 i hi).2⟩

theorem headQ_first {n i : Nat} {oi : Oper} {v : Value} {L : Array Bool → Act → Prop} (hi : ops[i]? = some oi) (hsel : ∀ (j : Nat) (o : Oper) cs b, ops[j]? = some o → o.op ≠ .select cs b)
    (hs : Region.sinkB md ops n = true) (hc : Region.chainB md ops n = true) (hn : n < ops.size) (hin : i < n)
    (hdone : ∀ listed a, L listed a → ∀ j ∈ Region.ready md ops listed, n ≤ j) :
    ∀ (f : Nat) (listed : Array Bool) (a : Act), HeadInv md ops n listed →
      (∀ j oj, ops[j]? = some oj → j ≠ i → listed.getD j true = false → (∀ e ∈ oj.after, Region.binds md e = true → e.on ≠ i) → oi.apart ops oj = true) →
      i ∈ Region.ready md ops listed → YieldsIn P ops C oi v a →
      headQ P md ops C n L f (listed.setIfInBounds i true) (a.put oi.dst v) → headQ P md ops C n L (f + 1) listed a := by
  have early : ∀ (listed : Array Bool), HeadInv md ops n listed → i ∈ Region.ready md ops listed → ∀ j ∈ Region.ready md ops listed, j < n := by
    intro listed inv hr j hj
    rcases Nat.lt_or_ge j n with h | h
    · exact h
    · exact absurd hj (tail_waits hs hc hn inv _ i rfl hin (mem_ready.1 hr).1 j h)
  intro f
  induction f with
  | zero =>
    intro listed a inv _ hr hy H
    refine ⟨fun h => (by rw [h] at hr; cases hr), fun j hj => ⟨early listed inv hr j hj, ?_⟩⟩
    by_cases hji : j = i
    · subst hji; exact hy.qOp hi H
    · have h1 := hdone _ _ H j (ready_mono hj hji)
      have h2 := early listed inv hr j hj
      omega
  | succ f ih =>
    intro listed a inv hfree hr hy H
    have hun := (mem_ready.1 hr).1
    refine ⟨fun h => (by rw [h] at hr; cases hr), fun j hj => ⟨early listed inv hr j hj, ?_⟩⟩
    by_cases hji : j = i
    · subst hji; exact hy.qOp hi H
    · have hjn := early listed inv hr j hj
      have h1 := (H.2 j (ready_mono hj hji)).2
      obtain ⟨hjun, oj, hoj, hall⟩ := mem_ready.1 hj
      have hnot : ∀ e ∈ oj.after, Region.binds md e = true → e.on ≠ i := fun e he hb heq => by
        have h1 := hall e he hb
        rw [heq, getD_both hun] at h1
        cases h1
      have h2 := qOp_put hoj (hfree j oj hoj hji hjun hnot) (fun cs b => hsel i oi cs b hi) (fun cs b => hsel j oj cs b hoj) hy h1
      have hfree' : ∀ k ok, ops[k]? = some ok → k ≠ i → (listed.setIfInBounds j true).getD k true = false →
          (∀ e ∈ ok.after, Region.binds md e = true → e.on ≠ i) → oi.apart ops ok = true := fun k ok hk hki hun hno => by
        refine hfree k ok hk hki ?_ hno
        by_cases hjk : j = k
        · subst hjk; exact hjun
        · rw [getD_set_ne true hjk] at hun; exact hun
      refine qOp_mono (fun a' h3 => ih (listed.setIfInBounds j true) a' (inv.set hj hjn) hfree' (ready_mono hr (Ne.symm hji)) h3.1 ?_) h2
      rw [Array.setIfInBounds_comm _ _ hji]
      exact h3.2

theorem headQ_lex {n g : Nat} {Lq : Act → Prop} (hsel : Region.noSelect ops = true) (hs : Region.sinkB md ops n = true) (hc : Region.chainB md ops n = true) (hn : n < ops.size) :
    ∀ (l : List Oper) (k : Nat) (listed : Array Bool) (a : Act), (∀ j, j < l.length → l[j]? = ops[k + j]?) → k + l.length = n → HeadInv md ops n listed →
    Region.lexHead md ops g l.length k listed = true → wpQuiet P ops C Lq l a →
    headQ P md ops C n (fun listed' a' => Region.seqB md ops g n listed' = true ∧ Lq a') l.length listed a
  | [], k, listed, a, _, hk, _, hB, h => by
    have : k = n := by simpa using hk
    subst this
    exact ⟨by simpa [Region.lexHead] using hB, h⟩
  | o :: l, k, listed, a, hl, hk, inv, hB, h => by
    have h0 : ops[k]? = some o := by simpa using (hl 0 (by simp)).symm
    simp only [List.length_cons, Region.lexHead, Bool.and_eq_true] at hB
    obtain ⟨⟨hr, hf⟩, hB'⟩ := hB
    have hkn : k < n := by simp only [List.length_cons] at hk; omega
    have hr' : k ∈ Region.ready md ops listed := by simpa using hr
    have hst : qOp P ops C k (wpQuiet P ops C Lq l) a := by unfold qOp; simp only [h0]; exact h
    obtain ⟨v, hy, hK⟩ := yieldsIn_of_qOp h0 hst
    exact headQ_first h0 (Region.noSelect_spec hsel) hs hc hn hkn (fun listed' a' hL => seqB_ready hL.1) l.length listed a inv (Region.free_spec h0 hf) hr' hy
      (headQ_lex hsel hs hc hn l (k + 1) _ _ (fun j hj => by have := hl (j + 1) (by simp; omega); simpa [Nat.add_assoc, Nat.add_comm 1 j] using this) (by simp only [List.length_cons] at hk; omega) (inv.set hr' hkn) hB' hK)

/-- A region whose first n operations are quiet in a class of worlds, the others in one order behind them. -/
theorem wp_region_class_tail {id : Nat} {Q : Exit → Act → World → Prop} {a : Act} {w : World} {l : List Oper} (n : Nat) (hm : P.follows .mixedOrders = true) (hB : Region.lexTailB .any l.toArray n = true) (hC : C { w with drawn := w.drawn + 1 })
    (h : wpQuiet P l.toArray C (fun a' => ∀ w', C w' → wpList P l.toArray Q (l.drop n) a' w') (l.take n) a) : (Code.region id l.toArray true).wp P Q a w := by
  simp only [Region.lexTailB, Bool.and_eq_true, decide_eq_true_eq] at hB
  obtain ⟨⟨⟨⟨hsel, hn⟩, hs⟩, hc⟩, hlex⟩ := hB
  have hn' : n < l.length := by simpa using hn
  have htl : (l.take n).length = n := by simp; omega
  have hdl : (l.drop n).length = l.toArray.size - n := by simp
  have inv0 : HeadInv .any l.toArray n (Array.replicate l.toArray.size false) :=
    ⟨by simp, fun j oj _ hl => (by rw [getD_replicate_false] at hl; cases hl), fun t _ ht => getD_in (by simpa using ht) (getD_replicate_false _ _)⟩
  have H := headQ_lex (C := C) (md := .any) (g := l.toArray.size - n) hsel hs hc hn (l.take n) 0 _ a (fun j hj => by
    have hj' : j < n := by rw [htl] at hj; exact hj
    simp [hj']) (by simpa using htl) inv0 (by rw [htl]; exact hlex) h
  refine wp_region_any hm ?_
  have := any_of_headQ (C := C) (Q' := Q) (g := l.toArray.size - n) (fun listed a' w' hw' hL => by
    have := wpAny_of_seq (md := .any) (Q' := Q) (l.drop n) n listed a' w' (fun j => by simp [List.getElem?_drop]) (by rw [hdl]; exact hL.1) (hL.2 w' hw')
    rwa [hdl] at this) _ _ _ _ hC H
  rw [htl, show n + (l.toArray.size - n) = l.toArray.size by omega] at this
  exact this
end

theorem wp_region_ext_tail {P : Program} {id : Nat} {Q : Exit → Act → World → Prop} {a : Act} {w : World} {l : List Oper} (n : Nat) (hm : P.follows .mixedOrders = true) (hB : Region.lexTailB .any l.toArray n = true)
    (h : wpQuiet P l.toArray (fun w' => ∃ g : Ext w, w' = wext w g) (fun a' => ∀ w', Below w.heap.size w w' → wpList P l.toArray Q (l.drop n) a' w') (l.take n) a) : (Code.region id l.toArray true).wp P Q a w := by
  refine wp_region_class_tail (C := fun w' => ∃ g : Ext w, w' = wext w g) n hm hB (wext_of (Below.refl _ _).drew) ?_
  have e : (fun a' => ∀ w', (∃ g : Ext w, w' = wext w g) → wpList P l.toArray Q (l.drop n) a' w') = (fun a' => ∀ w', Below w.heap.size w w' → wpList P l.toArray Q (l.drop n) a' w') := by
    funext a'
    apply propext
    constructor
    · intro hh w' hb; exact hh w' (wext_of hb)
    · rintro hh w' ⟨g, rfl⟩; exact hh _ (wext_below g)
  rw [e]
  exact h

/-- The same where the first operations make no memory: only draws come between. -/
theorem wp_region_draw_tail {P : Program} {id : Nat} {Q : Exit → Act → World → Prop} {a : Act} {w : World} {l : List Oper} (n : Nat) (hm : P.follows .mixedOrders = true) (hB : Region.lexTailB .any l.toArray n = true)
    (h : wpQuiet P l.toArray (fun w' => ∃ n, w' = w.drewN n) (fun a' => ∀ q, wpList P l.toArray Q (l.drop n) a' (w.drewN q)) (l.take n) a) : (Code.region id l.toArray true).wp P Q a w := by
  refine wp_region_class_tail (C := fun w' => ∃ n, w' = w.drewN n) n hm hB ⟨1, rfl⟩ ?_
  have e : (fun a' => ∀ w', (∃ n, w' = w.drewN n) → wpList P l.toArray Q (l.drop n) a' w') = (fun a' => ∀ q, wpList P l.toArray Q (l.drop n) a' (w.drewN q)) := by
    funext a'
    apply propext
    constructor
    · intro hh q; exact hh _ ⟨q, rfl⟩
    · rintro hh w' ⟨g, rfl⟩; exact hh _
  rw [e]
  exact h
end Go.Proofs.YtmiknfneeipkeaaGreat
namespace Go.Proofs.YtmiknfneeipkeaaGreat
open Go.RowKit

theorem only_of_below {a w : World} (h : Below a.heap.size a w) (row : Option Nat) : a.grownBy w row := ⟨h.os, h.tape, h.output, h.size, fun i hi _ => h.block i hi⟩
theorem bdrewN {B : Nat} {a w : World} (h : Below B a w) (n : Nat) : Below B a (w.drewN n) := ⟨h.os, h.tape, h.output, h.size, h.block⟩
theorem g_refl (w : World) (row : Option Nat) : w.grownBy w row := ⟨rfl, rfl, rfl, Nat.le_refl _, fun _ _ _ => rfl⟩
theorem g_trans {a b c : World} {row : Option Nat} (h : a.grownBy b row) (k : b.grownBy c row) : a.grownBy c row :=
  ⟨k.os.trans h.os, k.tape.trans h.tape, k.output.trans h.output, Nat.le_trans h.size k.size, fun i hi hne => (k.block i (Nat.lt_of_lt_of_le hi h.size) hne).trans (h.block i hi hne)⟩
theorem g_alloc {a w : World} {row : Option Nat} (h : a.grownBy w row) (o : Obj) : a.grownBy (w.alloc o) row := g_trans h (World.grownBy_alloc w o row)
theorem g_drewN {a w : World} {row : Option Nat} (h : a.grownBy w row) (n : Nat) : a.grownBy (w.drewN n) row := ⟨h.os, h.tape, h.output, h.size, h.block⟩
theorem g_below {a w w' : World} {row : Option Nat} (h : a.grownBy w row) (hb : Below w.heap.size w w') : a.grownBy w' row := g_trans h (only_of_below hb row)
theorem g_set {a w : World} {g : Nat} (h : a.grownBy w (some g)) {p : Addr} (hp : p.block = g ∨ a.heap.size ≤ p.block) (u : Value) : a.grownBy (w.setCell p u) (some g) :=
  ⟨h.os, h.tape, h.output, by simpa [World.setCell] using h.size, fun i hi hne => (Below.heap_setCell w p u i (by
    rintro rfl
    rcases hp with hp | hp
    · exact hne (by rw [hp])
    · omega)).trans (h.block i hi hne)⟩
/-- A write into a row of the call's own, seen from the start. -/
theorem g_own {a w w' : World} {x base : Nat} {v : Value} {e : TypeId} {size n : Nat} {xs : List Value} (h : a.grownBy w (some x)) (hg : w.grownBy w' v.ownBlock) (hown : w.ownsRow base e size v n xs) (hb : a.heap.size ≤ base) : a.grownBy w' (some x) :=
  ⟨hg.os.trans h.os, hg.tape.trans h.tape, hg.output.trans h.output, Nat.le_trans h.size hg.size, fun i hi hne => (hg.block i (Nat.lt_of_lt_of_le hi h.size) (fun e => by have := (hown.lt i e.symm).1; omega)).trans (h.block i hi hne)⟩
theorem g_cell {w w' : World} {x b o : Nat} (h : w.grownBy w' (some x)) (hb : b < w.heap.size) (hx : b ≠ x) : w'.cell? ⟨b, o, none⟩ = w.cell? ⟨b, o, none⟩ :=
  World.cell?_of_block (h.block b hb (fun e => hx (by injection e)))

def IsB (w : World) (g : Nat) (t : TypeId) (cs : Array Value) : Prop := w.heap[g]? = some (.cells cs t (0, 0))
theorem IsB.lt {w : World} {g : Nat} {t : TypeId} {cs : Array Value} (h : IsB w g t cs) : g < w.heap.size := by
  unfold IsB at h
  exact (Array.getElem?_eq_some_iff.1 h).1
theorem IsB.cell {w : World} {g : Nat} {t : TypeId} {cs : Array Value} (h : IsB w g t cs) (i : Nat) : w.cell? ⟨g, i, none⟩ = cs[i]? := cell_of_row w g i cs t (0, 0) h
theorem IsB.frozen {w : World} {g : Nat} {t : TypeId} {cs : Array Value} (h : IsB w g t cs) (i : Nat) : w.frozen? ⟨g, i, none⟩ = false := by
  unfold IsB at h
  simp [World.frozen?, h]
theorem IsB.new (w : World) (t : TypeId) (cs : Array Value) : IsB (w.alloc (.cells cs t)) w.heap.size t cs := heap_alloc_new w _
theorem IsB.alloc {w : World} {g : Nat} {t : TypeId} {cs : Array Value} (h : IsB w g t cs) (o : Obj) : IsB (w.alloc o) g t cs := (Below.heap_alloc w o g h.lt).trans h
theorem IsB.drewN {w : World} {g : Nat} {t : TypeId} {cs : Array Value} (h : IsB w g t cs) (n : Nat) : IsB (w.drewN n) g t cs := h
theorem IsB.grown {w w' : World} {g : Nat} {t : TypeId} {cs : Array Value} {row : Option Nat} (h : IsB w g t cs) (hb : w.grownBy w' row) (hg : some g ≠ row) : IsB w' g t cs := (hb.block g h.lt hg).trans h
theorem IsB.on {w w' : World} {g : Nat} {t : TypeId} {cs : Array Value} (h : IsB w g t cs) (hb : Below w.heap.size w w') : IsB w' g t cs := (hb.block g h.lt).trans h
theorem IsB.set_ {w : World} {g : Nat} {t : TypeId} {cs : Array Value} (h : IsB w g t cs) (i : Nat) (u : Value) : IsB (w.setCell ⟨g, i, none⟩ u) g t (cs.setIfInBounds i u) := by
  unfold IsB at h ⊢
  simp [World.setCell, Array.getElem?_modify, h]
theorem IsB.own_ne {w : World} {g : Nat} {t : TypeId} {cs : Array Value} {base : Nat} {e : TypeId} {size n : Nat} {v : Value} {xs : List Value} (hg : IsB w g t cs) (h : w.ownsRow base e size v n xs) (hne : e ≠ t) : some g ≠ v.ownBlock := by
  rcases h.2 with ⟨rfl, _⟩ | ⟨g', cap, cur, rfl, _, hh, _⟩
  · simp [Value.ownBlock]
  · intro he
    have : g = g' := by simpa [Value.ownBlock] using he
    subst this
    unfold IsB at hg
    rw [hg] at hh
    injection hh with hh
    injection hh with _ ht
    exact hne ht.symm
theorem IsB.ne_ {w : World} {g g' : Nat} {t t' : TypeId} {cs cs' : Array Value} (h : IsB w g t cs) (h' : IsB w g' t' cs') (hne : t ≠ t') : g ≠ g' := by
  rintro rfl
  unfold IsB at h h'
  rw [h] at h'
  injection h' with h'
  injection h' with _ ht
  exact hne ht
theorem own_set {w : World} {base : Nat} {e : TypeId} {size n : Nat} {v : Value} {xs : List Value} {p : Addr} (h : w.ownsRow base e size v n xs) (hp : some p.block ≠ v.ownBlock) (u : Value) : (w.setCell p u).ownsRow base e size v n xs :=
  h.kept (row := some p.block) (g_set (g_refl _ _) (.inl rfl) u) (by
    cases hv : v.ownBlock with
    | none => exact .inl rfl
    | some k => exact .inr (fun e => hp (by rw [hv, ← e])))
theorem new_cell (W : World) (t : TypeId) (cs : Array Value) (H : Nat) (hH : W.heap.size = H) (i : Nat) : (W.alloc (.cells cs t)).cell? ⟨H, i, none⟩ = cs[i]? := by
  subst hH
  exact (IsB.new W t cs).cell i

section
variable {α : Type}

/-- The slice value '.slice A xs.length c' holds xs, in a block that is not x. -/
def Rd (enc : α → List Value) (k : Nat) (d : α) (w : World) (x : Nat) (A : Option Addr) (xs : List α) : Prop :=
  0 < xs.length → ∃ b o, A = some ⟨b, o, none⟩ ∧ b < w.heap.size ∧ b ≠ x ∧ ∀ j, j < xs.length → ∀ i v, (enc (xs.getD j d))[i]? = some v → w.cell? ⟨b, o + j * k + i, none⟩ = some v

variable {enc : α → List Value} {k : Nat} {d : α} {w w' : World} {x : Nat} {A : Option Addr} {xs : List α}
theorem Rd.keep (h : Rd enc k d w x A xs) (hs : w.heap.size ≤ w'.heap.size) (hk : ∀ b o, b < w.heap.size → b ≠ x → w'.cell? ⟨b, o, none⟩ = w.cell? ⟨b, o, none⟩) : Rd enc k d w' x A xs := by
  intro hp
  obtain ⟨b, o, e, hb, hx, hc⟩ := h hp
  exact ⟨b, o, e, by omega, hx, fun j hj i v hv => by rw [hk _ _ hb hx]; exact hc j hj i v hv⟩
theorem Rd.on (h : Rd enc k d w x A xs) (hb : Below w.heap.size w w') : Rd enc k d w' x A xs := h.keep hb.size fun b o hb' _ => hb.cell (p := ⟨b, o, none⟩) hb'
theorem Rd.gr (h : Rd enc k d w x A xs) (hg : w.grownBy w' (some x)) : Rd enc k d w' x A xs := h.keep hg.size fun _ _ hb' hx => g_cell hg hb' hx
theorem Rd.alloc (h : Rd enc k d w x A xs) (o : Obj) : Rd enc k d (w.alloc o) x A xs := h.on ((Below.refl _ _).alloc (Nat.le_refl _) o)
theorem Rd.drewN (h : Rd enc k d w x A xs) (n : Nat) : Rd enc k d (w.drewN n) x A xs := h
/-- A write into a row in another block. -/
theorem Rd.own (h : Rd enc k d w x A xs) {row : Option Nat} (hg : w.grownBy w' row) (hsep : ∀ b o, A = some ⟨b, o, none⟩ → some b ≠ row) : Rd enc k d w' x A xs := by
  intro hp
  obtain ⟨b, o, e, hb, hx, hc⟩ := h hp
  exact ⟨b, o, e, Nat.lt_of_lt_of_le hb hg.size, hx, fun j hj i v hv => (World.cell?_of_block (hg.block b hb (hsep b o e))).trans (hc j hj i v hv)⟩
theorem Rd.nil : Rd enc k d w x A [] := fun hp => absurd hp (by simp)

theorem flat_len (hk : ∀ y, (enc y).length = k) (l : List α) : (l.flatMap enc).length = l.length * k := by
  induction l with
  | nil => simp
  | cons y l ih => rw [List.flatMap_cons, List.length_append, ih, hk, List.length_cons, Nat.add_mul, Nat.one_mul, Nat.add_comm]
theorem flat_at (hk : ∀ y, (enc y).length = k) (d : α) (l : List α) (j i : Nat) (hj : j < l.length) (hi : i < k) : (l.flatMap enc)[j * k + i]? = (enc (l.getD j d))[i]? := by
  induction l generalizing j with
  | nil => simp at hj
  | cons y l ih =>
    rw [List.flatMap_cons]
    cases j with
    | zero => rw [List.getElem?_append_left (by rw [hk]; omega)]; simp
    | succ j =>
      have h := ih j (by simpa using hj)
      rw [List.getElem?_append_right (by rw [hk, Nat.add_mul]; omega), hk, show (j + 1) * k + i - k = j * k + i by rw [Nat.add_mul]; omega, h]
      simp
theorem Rd.of_own {base : Nat} {e : TypeId} {n c : Nat} (hk : ∀ y, (enc y).length = k) (hk0 : 0 < k) (h : w.ownsRow base e k (.slice A n c) n (xs.flatMap enc)) (hx : x < base) : n = xs.length ∧ Rd enc k d w x A xs := by
  have hl := h.1
  rw [flat_len hk] at hl
  have hn : n = xs.length := (Nat.eq_of_mul_eq_mul_right hk0 hl).symm
  refine ⟨hn, fun hp => ?_⟩
  obtain ⟨g, cap, hv, hb, hlt⟩ := h.form (by omega)
  injection hv with h1 h2 h3
  subst h1
  refine ⟨g, 0, rfl, hlt, by omega, fun j hj i v hi => ?_⟩
  have hik : i < k := by
    have := (List.getElem?_eq_some_iff.1 hi).1
    rwa [hk] at this
  have hjk : j * k + i < n * k := by
    have : (j + 1) * k ≤ n * k := Nat.mul_le_mul_right k (by omega)
    rw [Nat.add_mul] at this
    omega
  subst h3
  rw [Nat.zero_add, h.cellAt _ hjk, flat_at hk d xs j i hj hik]
  exact hi
theorem own_slice {base : Nat} {e : TypeId} {size n : Nat} {v : Value} {ys : List Value} (h : w.ownsRow base e size v n ys) : ∃ A c, v = .slice A n c := by
  rcases h.2 with ⟨rfl, rfl⟩ | ⟨g, cap, cur, rfl, _⟩
  · exact ⟨none, 0, rfl⟩
  · exact ⟨_, cap, rfl⟩
theorem own_cap {base : Nat} {e : TypeId} {size n c : Nat} {ys : List Value} (h : w.ownsRow base e size (.slice A n c) n ys) : n ≤ c := by
  rcases h.2 with ⟨hv, h0⟩ | ⟨g, cap, cur, hv, _, _, hc, _⟩
  · omega
  · injection hv with h1 h2 h3; omega
/-- As a source of append. -/
theorem Rd.opt (hk : ∀ y, (enc y).length = k) (hk0 : 0 < k) (h : Rd enc k d w x A xs) : (A = none → xs.length = 0) ∧ ∀ ad, A = some ad → ∀ j u, (xs.flatMap enc)[j]? = some u → w.cell? (ad.add j) = some u := by
  refine ⟨fun e => ?_, fun ad e j u hu => ?_⟩
  · rcases Nat.eq_zero_or_pos xs.length with h0 | h0
    · exact h0
    · obtain ⟨b, o, e', _⟩ := h h0
      rw [e] at e'
      cases e'
  · have hj : j < xs.length * k := by
      have := (List.getElem?_eq_some_iff.1 hu).1
      rwa [flat_len hk] at this
    have hq : j / k < xs.length := by rw [Nat.div_lt_iff_lt_mul hk0]; exact hj
    obtain ⟨b, o, e', hb, _, hc⟩ := h (Nat.lt_of_le_of_lt (Nat.zero_le _) hq)
    rw [e] at e'
    injection e' with e'
    subst e'
    have hm : j % k < k := Nat.mod_lt _ hk0
    have hadd : (⟨b, o, none⟩ : Addr).add j = ⟨b, o + j, none⟩ := by unfold Addr.add; split <;> simp_all
    have hdm : j / k * k + j % k = j := by rw [Nat.mul_comm]; exact Nat.div_add_mod j k
    have h1 := flat_at hk d xs (j / k) (j % k) hq hm
    rw [hdm, hu] at h1
    have h2 := hc (j / k) hq (j % k) u h1.symm
    rw [Nat.add_assoc, hdm] at h2
    rw [hadd]
    exact h2
end
end Go.Proofs.YtmiknfneeipkeaaGreat
namespace Go.Proofs.YtmiknfneeipkeaaGreat
open Go.RowKit

/-- A number from 0 to n - 1; 0 if n is below 2. -/
def InN (n r : Int) : Prop := 0 ≤ r ∧ (1 < n → r < n) ∧ (n ≤ 1 → r = 0)
def SomeI (P : Int → Prop) (w : World) (e : Ending) (w' : World) : Prop := ∃ r, P r ∧ e = .returned (.int .i64 r) ∧ w = w'

theorem tmod_lt' (v n : Int) (h : 0 < n) : v.tmod n < n := Int.tmod_lt_of_pos v h
theorem tmod_gt' (v n : Int) (h : 0 < n) : -n < v.tmod n := by
  have := Int.tmod_lt_of_pos (-v) h
  rw [Int.neg_tmod] at this
  omega

set_option maxHeartbeats 400000 in
theorem Fold_any (v n : Int) (w : World) (hn : n ≤ 4294967296) : Calls Tryz.prog 29 #[.int .i64 v, .int .i64 n] w (SomeI (InN n) w) := by
  by_cases h1 : n ≤ 1
  · go_enter Tryz.func29, Tryz.ntmps29
    go_wp2
    go_ret
    exact ⟨0, ⟨by omega, by omega, fun _ => rfl⟩, rfl, rfl⟩
  · have t1 := tmod_lt' v n (by omega)
    have t2 := tmod_gt' v n (by omega)
    obtain ⟨t, ht⟩ : ∃ t, v.tmod n = t := ⟨_, rfl⟩
    rw [ht] at t1 t2
    have hn0 : (n == 0) = false := by rw [beq_eq_false_iff_ne]; omega
    have hnm : (n == -1) = false := by rw [beq_eq_false_iff_ne]; omega
    by_cases h2 : t < 0
    · go_enter Tryz.func29, Tryz.ntmps29
      go_wp2
      go_ret
      exact ⟨t + n, ⟨by omega, by omega, fun h => absurd h (by omega)⟩, rfl, rfl⟩
    · go_enter Tryz.func29, Tryz.ntmps29
      go_wp2
      go_ret
      exact ⟨t, ⟨by omega, by omega, fun h => absurd h (by omega)⟩, rfl, rfl⟩

/-- The tape's list of numbers, in a block ahead of x. -/
def RdT (w : World) (x : Nat) (A : Option Addr) (L : List Int) : Prop :=
  0 < L.length → ∃ b o, A = some ⟨b, o, none⟩ ∧ b < x ∧ ∀ j, j < L.length → w.cell? ⟨b, o + j, none⟩ = some (.int .i64 (L.getD j 0))
/-- Block x is a tape of which at most N numbers have been read. -/
def Tp (w : World) (x N : Nat) : Prop :=
  ∃ (A : Option Addr) (c at' : Nat) (L : List Int), IsB w x 26 #[.slice A L.length c, .int .i64 at'] ∧ at' ≤ N ∧ L.length ≤ 9223372036854775807 ∧ RdT w x A L
theorem Tp.lt {w : World} {x N : Nat} (h : Tp w x N) : x < w.heap.size := by
  obtain ⟨A, c, a, L, hb, _⟩ := h
  exact hb.lt
theorem RdT.keep {w w' : World} {x : Nat} {A : Option Addr} {L : List Int} (h : RdT w x A L) (hk : ∀ b o, b < x → w'.cell? ⟨b, o, none⟩ = w.cell? ⟨b, o, none⟩) : RdT w' x A L := by
  intro hp
  obtain ⟨b, o, e, hb, hc⟩ := h hp
  exact ⟨b, o, e, hb, fun j hj => by rw [hk _ _ hb]; exact hc j hj⟩
theorem Tp.kept {w w' : World} {x N : Nat} {row : Option Nat} (h : Tp w x N) (hg : w.grownBy w' row) (hr : ∀ k, row = some k → x < k) : Tp w' x N := by
  obtain ⟨A, c, a, L, h1, h2, h3, h4⟩ := h
  have hlt := h1.lt
  refine ⟨A, c, a, L, h1.grown hg (fun e => by have := hr x e.symm; omega), h2, h3, h4.keep fun b o hb => World.cell?_of_block (hg.block b (by omega) (fun e => by have := hr b e.symm; omega))⟩
theorem Tp.on {w w' : World} {x N : Nat} (h : Tp w x N) (hb : Below w.heap.size w w') : Tp w' x N := h.kept (only_of_below hb none) (by simp)
theorem Tp.alloc {w : World} {x N : Nat} (h : Tp w x N) (o : Obj) : Tp (w.alloc o) x N := h.on ((Below.refl _ _).alloc (Nat.le_refl _) o)
theorem Tp.drewN {w : World} {x N : Nat} (h : Tp w x N) (n : Nat) : Tp (w.drewN n) x N := h
theorem Tp.set_ {w : World} {x N : Nat} (h : Tp w x N) {p : Addr} (hp : x < p.block) (u : Value) : Tp (w.setCell p u) x N :=
  h.kept (row := some p.block) (g_set (g_refl _ _) (.inl rfl) _) (fun k hk => by injection hk with hk; omega)
theorem Tp.more {w : World} {x N M : Nat} (h : Tp w x N) (hN : N ≤ M) : Tp w x M := by
  obtain ⟨A, c, a, L, h1, h2, h3⟩ := h
  exact ⟨A, c, a, L, h1, by omega, h3⟩

def NextPost (n : Int) (x N : Nat) (w : World) (e : Ending) (w' : World) : Prop :=
  ∃ r, InN n r ∧ e = .returned (.int .i64 r) ∧ Tp w' x (N + 1) ∧ w.grownBy w' (some x)

theorem Tp.next {w : World} {x : Nat} {A : Option Addr} {c at' N n : Nat} {L : List Int} (h1 : IsB w x 26 #[.slice A L.length c, .int .i64 at']) (h2 : at' ≤ N) (h3 : L.length ≤ 9223372036854775807) (h4 : RdT w x A L) :
    Tp ((w.setCell ⟨x, 1, none⟩ (.int .i64 ((at' : Int) + 1))).drewN n) x (N + 1) ∧ w.grownBy ((w.setCell ⟨x, 1, none⟩ (.int .i64 ((at' : Int) + 1))).drewN n) (some x) := by
  have hg : w.grownBy ((w.setCell ⟨x, 1, none⟩ (.int .i64 ((at' : Int) + 1))).drewN n) (some x) := g_drewN (g_set (g_refl _ _) (.inl rfl) _) n
  refine ⟨⟨A, c, at' + 1, L, ?_, by omega, h3, h4.keep fun b o hb => g_cell hg (by have := h1.lt; omega) (by omega)⟩, hg⟩
  have := (h1.set_ 1 (.int .i64 ((at' : Int) + 1))).drewN n
  simpa using this

set_option maxHeartbeats 1000000 in
theorem Next_any (n : Int) (x N : Nat) (w : World) (hn : n ≤ 4294967296) (hN : N ≤ 1000000) (ht : Tp w x N) :
    Calls Tryz.prog 9 #[.pointer (some ⟨x, 0, none⟩), .int .i64 n] w (NextPost n x N w) := by
  obtain ⟨A, c, at', L, h1, h2, h3, h4⟩ := ht
  have hc0 : w.cell? ⟨x, 0, none⟩ = some (.slice A L.length c) := by rw [h1.cell]; rfl
  have hc1 : w.cell? ⟨x, 1, none⟩ = some (.int .i64 at') := by rw [h1.cell]; rfl
  have hf1 : w.frozen? ⟨x, 1, none⟩ = false := h1.frozen 1
  have H1 := Lib.hid h1
  have H4 := Lib.hid h4
  clear h1 h4
  by_cases hlt : at' < L.length
  · obtain ⟨b, o, rfl, hb, hc⟩ := H4.out (by omega)
    have hcl : w.cell? ⟨b, o + at', none⟩ = some (.int .i64 (L.getD at' 0)) := hc at' hlt
    clear hc
    obtain ⟨v, Hv⟩ : ∃ v, Hid (L.getD at' 0 = v) := ⟨_, rfl⟩
    rw [Hv.out] at hcl
    have hltb : decide (at' < L.length) = true := by simp; omega
    go_enter Tryz.func9, Tryz.ntmps9
    go_wp2_with fail
    go_quiet (fail)
    go_wp2_with fail
    go_quiet (fail)
    go_wp2_with fail
    refine (Fold_any v n _ hn).mono ?_
    rintro e w1 ⟨r, hr, rfl, rfl⟩
    have Hr := Lib.hid hr
    clear hr
    go_wp2_with fail
    go_ret
    exact ⟨r, Hr.out, rfl, Tp.next H1.out h2 h3 H4.out⟩
  · have hltb : decide (at' < L.length) = false := by simp; omega
    go_enter Tryz.func9, Tryz.ntmps9
    go_wp2_with fail
    go_quiet (fail)
    go_wp2_with fail
    refine (Fold_any _ n _ hn).mono ?_
    rintro e w1 ⟨r, hr, rfl, rfl⟩
    have Hr := Lib.hid hr
    clear hr
    go_wp2_with fail
    go_ret
    exact ⟨r, Hr.out, rfl, Tp.next H1.out h2 h3 H4.out⟩
end Go.Proofs.YtmiknfneeipkeaaGreat
