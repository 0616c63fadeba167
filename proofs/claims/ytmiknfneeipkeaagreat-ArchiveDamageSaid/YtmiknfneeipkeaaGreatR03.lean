/- Contracts of the walk, part 3. -/
import Derived.Deep.RegionHeld3
import Derived.ArgAppend
import Derived.WalkKit
import Derived.Test.YtmiknfneeipkeaaGreatR01
import Derived.Test.YtmiknfneeipkeaaGreatR02
namespace Go.Proofs.YtmiknfneeipkeaaGreat
open Go.RowKit
section
variable {P : Program} {ops : Array Oper} {md : Region.Mode} {S : World → Prop} {Q : Exit → Act → World → Prop}
def headH (P : Program) (md : Region.Mode) (ops : Array Oper) (Q : Exit → Act → World → Prop) (S : World → Prop) (n : Nat) (L : Array Bool → Act → World → Prop) : Nat → Array Bool → Act → World → Prop
  | 0, listed, a, w => L listed a w
  | f + 1, listed, a, w => Region.ready md ops listed ≠ [] ∧ ∀ i ∈ Region.ready md ops listed, i < n ∧ wpOp P ops Q i (fun a' w' => S w' ∧ headH P md ops Q S n L f (listed.setIfInBounds i true) a' w') a w
theorem any_of_headH {n g : Nat} {L : Array Bool → Act → World → Prop} (hL : ∀ listed a w, L listed a w → wpAny P md ops Q g listed a w) :
    ∀ (f : Nat) (listed : Array Bool) (a : Act) (w : World), headH P md ops Q S n L f listed a w → wpAny P md ops Q (f + g) listed a w
  | 0, listed, a, w, h => by rw [Nat.zero_add]; exact hL _ _ _ h
  | f + 1, listed, a, w, h => by
    rw [show f + 1 + g = (f + g) + 1 by omega]
    exact ⟨fun h0 => absurd h0 h.1, fun i hi => wpOp_mono (fun a' w' h' => any_of_headH hL f _ a' w' h'.2) (h.2 i hi).2⟩
theorem headH_first {n i : Nat} {oi : Oper} {v : Value} {L : Array Bool → Act → World → Prop} (hi : ops[i]? = some oi) (hsel : ∀ (j : Nat) (o : Oper) cs b, ops[j]? = some o → o.op ≠ .select cs b)
    (hQ : ∀ c a d v w, Q (.panic c) (a.put d v) w → Q (.panic c) a w)
    (hs : Region.sinkB md ops n = true) (hc : Region.chainB md ops n = true) (hn : n < ops.size) (hin : i < n)
    (hdone : ∀ listed a w, L listed a w → ∀ j ∈ Region.ready md ops listed, n ≤ j) :
    ∀ (f : Nat) (listed : Array Bool) (a : Act) (w : World), HeadInv md ops n listed →
      (∀ j oj, ops[j]? = some oj → j ≠ i → listed.getD j true = false → (∀ e ∈ oj.after, Region.binds md e = true → e.on ≠ i) → oi.apart ops oj = true) →
      i ∈ Region.ready md ops listed → YieldsIf P ops S oi v a → S w →
      headH P md ops Q S n L f (listed.setIfInBounds i true) (a.put oi.dst v) w → headH P md ops Q S n L (f + 1) listed a w := by
  have early : ∀ (listed : Array Bool), HeadInv md ops n listed → i ∈ Region.ready md ops listed → ∀ j ∈ Region.ready md ops listed, j < n := by
    intro listed inv hr j hj
    rcases Nat.lt_or_ge j n with h | h
    · exact h
    · exact absurd hj (tail_waits hs hc hn inv _ i rfl hin (mem_ready.1 hr).1 j h)
  intro f
  induction f with
  | zero =>
    intro listed a w inv _ hr hy hS H
    refine ⟨fun h => (by rw [h] at hr; cases hr), fun j hj => ⟨early listed inv hr j hj, ?_⟩⟩
    by_cases hji : j = i
    · subst hji; exact hy.wpOp hi hS ⟨hS, H⟩
    · have h1 := hdone _ _ _ H j (ready_mono hj hji)
      have h2 := early listed inv hr j hj
      omega
  | succ f ih =>
    intro listed a w inv hfree hr hy hS H
    have hun := (mem_ready.1 hr).1
    refine ⟨fun h => (by rw [h] at hr; cases hr), fun j hj => ⟨early listed inv hr j hj, ?_⟩⟩
    by_cases hji : j = i
    · subst hji; exact hy.wpOp hi hS ⟨hS, H⟩
    · have hjn := early listed inv hr j hj
      have h1 := (H.2 j (ready_mono hj hji)).2
      obtain ⟨hjun, oj, hoj, hall⟩ := mem_ready.1 hj
      have hnot : ∀ e ∈ oj.after, Region.binds md e = true → e.on ≠ i := fun e he hb heq => by
        have h1 := hall e he hb
        rw [heq, getD_both hun] at h1
        cases h1
      have h2 := wpOp_putIf hoj (hfree j oj hoj hji hjun hnot) (fun cs b => hsel i oi cs b hi) (fun cs b => hsel j oj cs b hoj) (fun c a w h => hQ c a _ _ w h) hy h1
      have hfree' : ∀ k ok, ops[k]? = some ok → k ≠ i → (listed.setIfInBounds j true).getD k true = false →
          (∀ e ∈ ok.after, Region.binds md e = true → e.on ≠ i) → oi.apart ops ok = true := fun k ok hk hki hun hno => by
        refine hfree k ok hk hki ?_ hno
        by_cases hjk : j = k
        · subst hjk; exact hjun
        · rw [getD_set_ne true hjk] at hun; exact hun
      refine wpOp_mono (fun a' w' h3 => ⟨h3.2.1, ih (listed.setIfInBounds j true) a' w' (inv.set hj hjn) hfree' (ready_mono hr (Ne.symm hji)) h3.1 h3.2.1 ?_⟩) h2
      rw [Array.setIfInBounds_comm _ _ hji]
      exact h3.2.2
def wpHeld (P : Program) (ops : Array Oper) (Q : Exit → Act → World → Prop) (S : World → Prop) (T : Act → World → Prop) : List (Bool × Oper) → Act → World → Prop
  | (true, o) :: fs, a, w => ∃ v, YieldsIf P ops S o v a ∧ wpHeld P ops Q S T fs (a.put o.dst v) w
  | (false, o) :: fs, a, w => if Region.wanted o (yielded ops a.tmps) = true then Oper.wp P o a w (fun a' w' => S w' ∧ wpHeld P ops Q S T fs a' w') Q else S w ∧ wpHeld P ops Q S T fs (a.put o.dst undef) w
  | [], a, w => T a w
theorem wpHeld_take {T : Act → World → Prop} {fs : List (Bool × Oper)} {o : Oper} {a : Act} {w : World} {v : Value} (h1 : YieldsIf P ops S o v a) (h2 : wpHeld P ops Q S T fs (a.put o.dst v) w) : wpHeld P ops Q S T ((true, o) :: fs) a w := ⟨v, h1, h2⟩
theorem wpHeld_run {T : Act → World → Prop} {fs : List (Bool × Oper)} {o : Oper} {a : Act} {w : World}
    (h : ∀ K : Act → World → Prop, Shut (∀ a w, S w → wpHeld P ops Q S T fs a w → K a w) → if Region.wanted o (yielded ops a.tmps) = true then Oper.wp P o a w K Q else K (a.put o.dst undef) w) : wpHeld P ops Q S T ((false, o) :: fs) a w :=
  h _ (fun _ _ h1 h2 => ⟨h1, h2⟩)
theorem wpHeld_nil {T : Act → World → Prop} {a : Act} {w : World} (h : T a w) : wpHeld P ops Q S T [] a w := by
  unfold wpHeld
  exact h
instance : Inhabited Oper := ⟨{ dst := none, op := .move (.tmp 0), type := 0, pos := "", after := #[], guard := none }⟩
def picked (l : List Oper) (fs : List (Nat × Bool)) : List (Bool × Oper) := fs.map (fun p => (p.2, l.getD p.1 default))
def heldB (md : Region.Mode) (ops : Array Oper) (n g : Nat) : List (Nat × Bool) → Array Bool → Bool
  | [], listed => Region.seqB md ops g n listed
  | (k, true) :: fs, listed => decide (k < n) && (Region.ready md ops listed).contains k && Region.free md ops listed k && heldB md ops n g fs (listed.setIfInBounds k true)
  | (k, false) :: fs, listed => decide (k < n) && decide (Region.ready md ops listed = [k]) && heldB md ops n g fs (listed.setIfInBounds k true)
def heldTailB (md : Region.Mode) (ops : Array Oper) (fs : List (Nat × Bool)) : Bool :=
  Region.noSelect ops && decide (fs.length < ops.size) && Region.sinkB md ops fs.length && Region.chainB md ops fs.length && heldB md ops fs.length (ops.size - fs.length) fs (Array.replicate ops.size false)
theorem headH_of_held {n g : Nat} {l : List Oper} {T : Act → World → Prop} (hl : ops = l.toArray) (hsel : Region.noSelect ops = true) (hQ : ∀ c a d v w, Q (.panic c) (a.put d v) w → Q (.panic c) a w) (hs : Region.sinkB md ops n = true) (hc : Region.chainB md ops n = true) (hn : n < ops.size) :
    ∀ (fs : List (Nat × Bool)) (listed : Array Bool) (a : Act) (w : World), HeadInv md ops n listed → S w →
    heldB md ops n g fs listed = true → wpHeld P ops Q S T (picked l fs) a w →
    headH P md ops Q S n (fun listed' a' w' => Region.seqB md ops g n listed' = true ∧ T a' w') fs.length listed a w
  | [], listed, a, w, _, _, hB, h => ⟨by simpa [heldB] using hB, by simpa [picked, wpHeld] using h⟩
  | (k, true) :: fs, listed, a, w, inv, hS, hB, h => by
    simp only [heldB, Bool.and_eq_true, decide_eq_true_eq] at hB
    obtain ⟨⟨⟨hkn, hr⟩, hf⟩, hB'⟩ := hB
    have hkl : k < l.length := by rw [hl] at hn; simp at hn; omega
    have h0 : ops[k]? = some (l.getD k default) := by rw [hl]; simp [List.getD_eq_getElem?_getD, hkl]
    have hr' : k ∈ Region.ready md ops listed := by simpa using hr
    obtain ⟨v, hy, hK⟩ : ∃ v, YieldsIf P ops S (l.getD k default) v a ∧ wpHeld P ops Q S T (picked l fs) (a.put (l.getD k default).dst v) w := h
    exact headH_first h0 (Region.noSelect_spec hsel) hQ hs hc hn hkn (fun listed' a' w' hL => seqB_ready hL.1) fs.length listed a w inv (Region.free_spec h0 hf) hr' hy hS
      (headH_of_held hl hsel hQ hs hc hn fs _ _ w (inv.set hr' hkn) hS hB' hK)
  | (k, false) :: fs, listed, a, w, inv, hS, hB, h => by
    simp only [heldB, Bool.and_eq_true, decide_eq_true_eq] at hB
    obtain ⟨⟨hkn, hr⟩, hB'⟩ := hB
    have hkl : k < l.length := by rw [hl] at hn; simp at hn; omega
    have h0 : ops[k]? = some (l.getD k default) := by rw [hl]; simp [List.getD_eq_getElem?_getD, hkl]
    have hr' : k ∈ Region.ready md ops listed := by rw [hr]; simp
    refine ⟨fun h1 => (by rw [hr] at h1; cases h1), fun i hi => ?_⟩
    rw [hr] at hi
    have hik : i = k := by simpa using hi
    subst hik
    refine ⟨hkn, ?_⟩
    have hw : wpOp P ops Q i (fun a' w' => S w' ∧ wpHeld P ops Q S T (picked l fs) a' w') a w := by
      unfold wpOp
      simp only [h0]
      have h2 : if Region.wanted (l.getD i default) (yielded ops a.tmps) = true then Oper.wp P (l.getD i default) a w (fun a' w' => S w' ∧ wpHeld P ops Q S T (picked l fs) a' w') Q else S w ∧ wpHeld P ops Q S T (picked l fs) (a.put (l.getD i default).dst undef) w := h
      by_cases hwt : Region.wanted (l.getD i default) (yielded ops a.tmps) = true
      · rw [if_pos hwt] at h2 ⊢
        exact .inl h2
      · rw [if_neg hwt] at h2 ⊢
        exact h2
    exact wpOp_mono (fun a' w' h' => ⟨h'.1, headH_of_held hl hsel hQ hs hc hn fs _ a' w' (inv.set hr' hkn) h'.1 hB' h'.2⟩) hw
theorem wp_region_held_tail {id : Nat} {a : Act} {w : World} {l : List Oper} (fs : List (Nat × Bool)) (S : World → Prop) (hm : P.follows .mixedOrders = true) (hQ : ∀ c a d v w, Q (.panic c) (a.put d v) w → Q (.panic c) a w) (hB : heldTailB .any l.toArray fs = true) (hS : S w.drew)
    (h : wpHeld P l.toArray Q S (fun a' w' => wpList P l.toArray Q (l.drop fs.length) a' w') (picked l fs) a w.drew) : (Code.region id l.toArray true).wp P Q a w := by
  simp only [heldTailB, Bool.and_eq_true, decide_eq_true_eq] at hB
  obtain ⟨⟨⟨⟨hsel, hn⟩, hs⟩, hc⟩, hlex⟩ := hB
  have hdl : (l.drop fs.length).length = l.toArray.size - fs.length := by simp
  have inv0 : HeadInv .any l.toArray fs.length (Array.replicate l.toArray.size false) :=
    ⟨by simp, fun j oj _ hl => (by rw [getD_replicate_false] at hl; cases hl), fun t _ ht => getD_in (by simpa using ht) (getD_replicate_false _ _)⟩
  have H := headH_of_held (md := .any) (g := l.toArray.size - fs.length) (l := l) rfl hsel hQ hs hc hn fs _ a w.drew inv0 hS hlex h
  refine wp_region_any hm ?_
  have := any_of_headH (Q := Q) (S := S) (g := l.toArray.size - fs.length) (fun listed a' w' hL => by
    have := wpAny_of_seq (md := .any) (Q' := Q) (l.drop fs.length) fs.length listed a' w' (fun j => by simp [List.getElem?_drop]) (by rw [hdl]; exact hL.1) hL.2
    rwa [hdl] at this) _ _ _ _ H
  rw [show fs.length + (l.toArray.size - fs.length) = l.toArray.size by omega] at this
  exact this
end
end Go.Proofs.YtmiknfneeipkeaaGreat
namespace Go.Proofs.YtmiknfneeipkeaaGreat
open Go.RowKit
theorem perm_erase {α : Type} : ∀ (l : List α) (k : Nat) (o : α), l[k]? = some o → l.Perm (o :: l.eraseIdx k)
  | [], _, _, h => by simp at h
  | x :: l, 0, o, h => by
    simp at h
    subst h
    simp
  | x :: l, k + 1, o, h => by
    rw [List.getElem?_cons_succ] at h
    rw [List.eraseIdx_cons_succ]
    exact ((perm_erase l k o h).cons x).trans (List.Perm.swap _ _ _)
theorem erase_set {α : Type} : ∀ (l : List α) (k : Nat) (o : α), (l.set k o).eraseIdx k = l.eraseIdx k
  | [], _, _ => rfl
  | _ :: _, 0, _ => rfl
  | x :: l, k + 1, o => by rw [List.set_cons_succ, List.eraseIdx_cons_succ, List.eraseIdx_cons_succ, erase_set l k o]
structure Ob where
  own : Nat → Prop
  rd : Nat → Prop
  holds : World → Prop
  stable : ∀ w w' : World, holds w → (w'.os = w.os ∧ w'.tape = w.tape ∧ w'.output = w.output ∧ w.heap.size ≤ w'.heap.size) → (∀ i, own i ∨ rd i → w'.heap[i]? = w.heap[i]?) → holds w'
def Apart (x y : Ob) : Prop := (∀ i, x.own i → ¬ y.own i ∧ ¬ y.rd i) ∧ ∀ i, y.own i → ¬ x.rd i
theorem Apart.symm {x y : Ob} (h : Apart x y) : Apart y x := ⟨fun i hi => ⟨fun hx => (h.1 i hx).1 hi, h.2 i hi⟩, fun i hi => (h.1 i hi).2⟩
structure Fr (w w' : World) (S S' : Nat → Prop) : Prop where
  os : w'.os = w.os
  tape : w'.tape = w.tape
  output : w'.output = w.output
  size : w.heap.size ≤ w'.heap.size
  block : ∀ i, i < w.heap.size → ¬ S i → w'.heap[i]? = w.heap[i]?
  own : ∀ i, S' i → S i ∨ w.heap.size ≤ i
theorem Fr.refl (w : World) (S : Nat → Prop) : Fr w w S S := ⟨rfl, rfl, rfl, Nat.le_refl _, fun _ _ _ => rfl, fun _ h => .inl h⟩
theorem Fr.of_below {w w' : World} (h : Below w.heap.size w w') (S : Nat → Prop) : Fr w w' S S := ⟨h.os, h.tape, h.output, h.size, fun i hi _ => h.block i hi, fun _ h => .inl h⟩
theorem Fr.new {w w' : World} (h : Below w.heap.size w w') {S S' : Nat → Prop} (hs : ∀ i, S' i → S i ∨ w.heap.size ≤ i) : Fr w w' S S' := ⟨h.os, h.tape, h.output, h.size, fun i hi _ => h.block i hi, hs⟩
theorem Fr.trans {w w1 w2 : World} {S S1 S2 : Nat → Prop} (h : Fr w w1 S S1) (k : Fr w1 w2 S1 S2) : Fr w w2 S S2 :=
  ⟨k.os.trans h.os, k.tape.trans h.tape, k.output.trans h.output, Nat.le_trans h.size k.size, fun i hi hn => (k.block i (Nat.lt_of_lt_of_le hi h.size) (fun h1 => by
    rcases h.own i h1 with h2 | h2
    · exact hn h2
    · omega)).trans (h.block i hi hn), fun i hi => by
    rcases k.own i hi with h1 | h1
    · exact h.own i h1
    · exact .inr (Nat.le_trans h.size h1)⟩
theorem Fr.wide {w w' : World} {S S' T T' : Nat → Prop} (h : Fr w w' S S') (hS : ∀ i, S i → T i) (hT : ∀ i, T' i → T i ∨ w.heap.size ≤ i) : Fr w w' T T' :=
  ⟨h.os, h.tape, h.output, h.size, fun i hi hn => h.block i hi (fun hs => hn (hS i hs)), hT⟩
theorem Fr.grown {w w' : World} {g : Nat} (h : w.grownBy w' (some g)) {S S' : Nat → Prop} (hg : S g) (hs : ∀ i, S' i → S i ∨ w.heap.size ≤ i) : Fr w w' S S' :=
  ⟨h.os, h.tape, h.output, h.size, fun i hi hn => h.block i hi (fun e => hn (by injection e with e; rw [e]; exact hg)), hs⟩
theorem Fr.below {w w' : World} {S S' : Nat → Prop} {b : Nat} (h : Fr w w' S S') (hb : ∀ i, S i → b ≤ i) (h0 : b ≤ w.heap.size) : Below b w w' :=
  ⟨h.os, h.tape, h.output, h.size, fun i hi => h.block i (by omega) (fun hs => by have := hb i hs; omega)⟩
structure Sep (b : Nat) (w : World) (l : List Ob) : Prop where
  base : b ≤ w.heap.size
  holds : ∀ o ∈ l, o.holds w
  own : ∀ o ∈ l, ∀ i, o.own i → b ≤ i ∧ i < w.heap.size
  rd : ∀ o ∈ l, ∀ i, o.rd i → i < w.heap.size
  apart : l.Pairwise Apart
section
variable {b : Nat} {w w' : World} {o o' x y : Ob} {l l' : List Ob}
theorem Sep.perm (h : Sep b w l) (hp : l'.Perm l) : Sep b w l' :=
  ⟨h.base, fun o ho => h.holds o (hp.mem_iff.1 ho), fun o ho => h.own o (hp.mem_iff.1 ho), fun o ho => h.rd o (hp.mem_iff.1 ho), (hp.pairwise_iff (fun h => h.symm)).2 h.apart⟩
theorem Sep.sub (h : Sep b w l) (hs : l'.Sublist l) : Sep b w l' :=
  ⟨h.base, fun o ho => h.holds o (hs.subset ho), fun o ho => h.own o (hs.subset ho), fun o ho => h.rd o (hs.subset ho), h.apart.sublist hs⟩
theorem Sep.tail (h : Sep b w (o :: l)) : Sep b w l := h.sub (List.sublist_cons_self _ _)
theorem Sep.swap (h : Sep b w (x :: y :: l)) : Sep b w (y :: x :: l) := h.perm (List.Perm.swap _ _ _)
theorem Sep.head (h : Sep b w (o :: l)) : o.holds w := h.holds o (by simp)
theorem Sep.nil (w : World) (h : b ≤ w.heap.size) : Sep b w [] := ⟨h, by simp, by simp, by simp, List.Pairwise.nil⟩
theorem Sep.step (h : Sep b w (o :: l)) (hf : Fr w w' o.own o'.own) (hr : ∀ i, o'.rd i → o.own i ∨ o.rd i ∨ w.heap.size ≤ i) (hh : o'.holds w') (hlt : ∀ i, o'.own i ∨ o'.rd i → i < w'.heap.size) : Sep b w' (o' :: l) ∧ Below b w w' := by
  have hown := h.own o (by simp)
  obtain ⟨ha, hp⟩ := List.pairwise_cons.1 h.apart
  have hb : Below b w w' := hf.below (fun i hi => (hown i hi).1) h.base
  refine ⟨⟨Nat.le_trans h.base hf.size, fun y hy => ?_, fun y hy i hi => ?_, fun y hy i hi => ?_, List.pairwise_cons.2 ⟨fun y hy => ?_, hp⟩⟩, hb⟩
  · rcases List.mem_cons.1 hy with rfl | hy
    · exact hh
    · refine y.stable w w' (h.holds y (by simp [hy])) ⟨hf.os, hf.tape, hf.output, hf.size⟩ (fun i hi => ?_)
      refine hf.block i ?_ (fun ho => ?_)
      · rcases hi with hi | hi
        · exact (h.own y (by simp [hy]) i hi).2
        · exact h.rd y (by simp [hy]) i hi
      · have := (ha y hy).1 i ho
        rcases hi with hi | hi
        · exact this.1 hi
        · exact this.2 hi
  · rcases List.mem_cons.1 hy with rfl | hy
    · refine ⟨?_, hlt i (.inl hi)⟩
      rcases hf.own i hi with h1 | h1
      · exact (hown i h1).1
      · have := h.base; omega
    · have := h.own y (by simp [hy]) i hi
      exact ⟨this.1, Nat.lt_of_lt_of_le this.2 hf.size⟩
  · rcases List.mem_cons.1 hy with rfl | hy
    · exact hlt i (.inr hi)
    · exact Nat.lt_of_lt_of_le (h.rd y (by simp [hy]) i hi) hf.size
  · have hyo := h.own y (by simp [hy])
    have hyr := h.rd y (by simp [hy])
    refine ⟨fun i hi => ?_, fun i hi hi' => ?_⟩
    · rcases hf.own i hi with h1 | h1
      · exact (ha y hy).1 i h1
      · exact ⟨fun h2 => by have := (hyo i h2).2; omega, fun h2 => by have := hyr i h2; omega⟩
    · rcases hr i hi' with h1 | h1 | h1
      · exact ((ha y hy).1 i h1).1 hi
      · exact (ha y hy).2 i hi h1
      · have := (hyo i hi).2; omega
theorem Sep.add (h : Sep b w l) (hb : Below w.heap.size w w') (hh : o'.holds w') (ho : ∀ i, o'.own i → w.heap.size ≤ i ∧ i < w'.heap.size) (hr : ∀ i, o'.rd i → i < w'.heap.size) (hn : ∀ i, o'.rd i → i < w.heap.size → ∀ y ∈ l, ¬ y.own i) : Sep b w' (o' :: l) ∧ Below b w w' := by
  refine ⟨⟨Nat.le_trans h.base hb.size, fun y hy => ?_, fun y hy i hi => ?_, fun y hy i hi => ?_, List.pairwise_cons.2 ⟨fun y hy => ⟨fun i hi => ⟨fun h2 => ?_, fun h2 => ?_⟩, fun i hi hi' => ?_⟩, h.apart⟩⟩, hb.mono h.base⟩
  · rcases List.mem_cons.1 hy with rfl | hy
    · exact hh
    · refine y.stable w w' (h.holds y hy) ⟨hb.os, hb.tape, hb.output, hb.size⟩ (fun i hi => hb.block i ?_)
      rcases hi with hi | hi
      · exact (h.own y hy i hi).2
      · exact h.rd y hy i hi
  · rcases List.mem_cons.1 hy with rfl | hy
    · have := ho i hi; have := h.base; omega
    · have := h.own y hy i hi; have := hb.size; omega
  · rcases List.mem_cons.1 hy with rfl | hy
    · exact hr i hi
    · have := h.rd y hy i hi; have := hb.size; omega
  · have := (ho i hi).1; have := (h.own y hy i h2).2; omega
  · have := (ho i hi).1; have := h.rd y hy i h2; omega
  · by_cases hlt : i < w.heap.size
    · exact hn i hi' hlt y hy hi
    · have := (h.own y hy i hi).2; omega
theorem Sep.on (h : Sep b w l) (hb : Below w.heap.size w w') : Sep b w' l :=
  ⟨Nat.le_trans h.base hb.size, fun y hy => y.stable w w' (h.holds y hy) ⟨hb.os, hb.tape, hb.output, hb.size⟩ (fun i hi => hb.block i (by
      rcases hi with hi | hi
      · exact (h.own y hy i hi).2
      · exact h.rd y hy i hi)), fun y hy i hi => ⟨(h.own y hy i hi).1, Nat.lt_of_lt_of_le (h.own y hy i hi).2 hb.size⟩, fun y hy i hi => Nat.lt_of_lt_of_le (h.rd y hy i hi) hb.size, h.apart⟩
theorem Sep.view (h : Sep b w (o :: l)) (hh : o'.holds w) (ho : ∀ i, ¬ o'.own i) (hr : ∀ i, o'.rd i → o.rd i) (hx : ∀ i, o.own i → ¬ o.rd i) : Sep b w (o' :: o :: l) :=
  ⟨h.base, fun y hy => by
    rcases List.mem_cons.1 hy with rfl | hy
    · exact hh
    · exact h.holds y hy, fun y hy i hi => by
    rcases List.mem_cons.1 hy with rfl | hy
    · exact absurd hi (ho i)
    · exact h.own y hy i hi, fun y hy i hi => by
    rcases List.mem_cons.1 hy with rfl | hy
    · exact h.rd o (by simp) i (hr i hi)
    · exact h.rd y hy i hi, List.pairwise_cons.2 ⟨fun y hy => ⟨fun i hi => absurd hi (ho i), fun i hi hi' => by
      rcases List.mem_cons.1 hy with rfl | hy
      · exact hx i hi (hr i hi')
      · exact ((List.pairwise_cons.1 h.apart).1 y hy).2 i hi (hr i hi')⟩, h.apart⟩⟩
theorem Sep.pull (h : Sep b w l) {k : Nat} (hk : l[k]? = some o) : Sep b w (o :: l.eraseIdx k) := h.perm (perm_erase l k o hk).symm
theorem Sep.stepAt (h : Sep b w l) (k : Nat) (hk : l[k]? = some o) (hf : Fr w w' o.own o'.own) (hr : ∀ i, o'.rd i → o.own i ∨ o.rd i ∨ w.heap.size ≤ i) (hh : o'.holds w') (hlt : ∀ i, o'.own i ∨ o'.rd i → i < w'.heap.size) : Sep b w' (l.set k o') ∧ Below b w w' := by
  obtain ⟨h1, h2⟩ := (h.pull hk).step hf hr hh hlt
  refine ⟨h1.perm ?_, h2⟩
  have hl := (List.getElem?_eq_some_iff.1 hk).1
  have h3 := perm_erase (l.set k o') k o' (by rw [List.getElem?_set_self hl])
  rw [erase_set] at h3
  exact h3
theorem Sep.get (h : Sep b w l) {k : Nat} (hk : l[k]? = some o) : o.holds w := h.holds o (List.mem_of_getElem? hk)
end
def cellOb (g : Nat) (t : TypeId) (cs : Array Value) : Ob where
  own := fun i => i = g
  rd := fun _ => False
  holds := fun w => IsB w g t cs
  stable := fun w w' h _ hk => (hk g (.inl rfl)).trans h
theorem Sep.cell {b : Nat} {w : World} {l : List Ob} (h : Sep b w l) {k g : Nat} {t : TypeId} {cs : Array Value} (hk : l[k]? = some (cellOb g t cs)) : IsB w g t cs := h.get hk
theorem Sep.setAt {b : Nat} {w : World} {l : List Ob} (h : Sep b w l) (k : Nat) {g : Nat} {t : TypeId} {cs : Array Value} (hk : l[k]? = some (cellOb g t cs)) (j : Nat) (u : Value) : Sep b (w.setCell ⟨g, j, none⟩ u) (l.set k (cellOb g t (cs.setIfInBounds j u))) ∧ Below b w (w.setCell ⟨g, j, none⟩ u) := by
  have hc := h.cell hk
  have hg : w.grownBy (w.setCell ⟨g, j, none⟩ u) (some g) := g_set (p := ⟨g, j, none⟩) (g_refl _ _) (.inl rfl) _
  refine h.stepAt k hk (Fr.grown hg rfl (fun i hi => .inl hi)) (fun i hi => hi.elim) (hc.set_ j u) (fun i hi => ?_)
  rcases hi with hi | hi
  · have := hc.lt
    have e : i = g := hi
    rw [e]
    simpa [World.setCell] using this
  · exact hi.elim
theorem Sep.newCell {b : Nat} {w : World} {l : List Ob} (h : Sep b w l) (t : TypeId) (cs : Array Value) : Sep b (w.alloc (.cells cs t)) (cellOb w.heap.size t cs :: l) ∧ Below b w (w.alloc (.cells cs t)) :=
  h.add ((Below.refl _ _).alloc (Nat.le_refl _) _) (IsB.new w t cs) (fun i hi => by have e : i = w.heap.size := hi; simp [e]) (fun i hi => hi.elim) (fun i hi => hi.elim)
end Go.Proofs.YtmiknfneeipkeaaGreat
namespace Go.Proofs.YtmiknfneeipkeaaGreat
open Go.RowKit
section
variable {P : Program}
theorem append_block (w : World) (t ty e : TypeId) (i : TypeInfo) (z : Value) (ht : P.underlying t = some (.slice e)) (hi : P.info? e = some i) (hz : i.zero = some z)
    (v : Value) (n : Nat) (xs : List Value) (hown : w.ownsRow 0 e i.size v n xs) (a : Addr) (m c : Nat) (news : List Value) (hl : news.length = m * i.size) (hnews : ∀ j u, news[j]? = some u → w.cell? (a.add j) = some u)
    (h1 : ∀ u ∈ news, u.oneCell' = true) (hm : 0 < m) (h63 : n + m ≤ maxLen) (hbytes : (n + m) * i.bytes ≤ 140737488355328) {v' : Value} {w' : World}
    (hr : (Builtin.append_ #[t, t] ty #[v, .slice (some a) m c]).run P w = .ok v' w') : v'.ownBlock = v.ownBlock ∨ v'.ownBlock = some w.heap.size := by
  unfold maxLen at h63
  rcases hown.2 with ⟨rfl, rfl⟩ | ⟨g, cap, cur, rfl, _, hg, hnc, _, hcs, htk⟩
  · rw [run_append_nil w t ty e i z ht hi hz a m c news hl hnews hm (by omega) (by rw [Nat.zero_add] at hbytes; omega)] at hr
    injection hr with hv _
    subst hv
    exact .inr rfl
  · by_cases hroom : n + m ≤ cap
    · have hsz : (n + m) * i.size ≤ cap * i.size := Nat.mul_le_mul_right _ hroom
      rw [Nat.add_mul] at hsz
      rw [run_append_room_cells w t ty e i ht hi g 0 n cap a m c news hl hnews h1 hroom (fun j hj => by
        rw [cell_of_row w g _ cur e (0, 0) hg, Array.getElem?_eq_getElem (by omega)]
        rfl) (fun j hj => by simp [World.frozen?, hg])] at hr
      injection hr with hv _
      subst hv
      exact .inl rfl
    · rw [run_append_grow w t ty e i z ht hi hz ⟨g, 0, none⟩ n cap xs hown.1 (fun j u hu => by
        have hj : j < n * i.size := by
          have := (List.getElem?_eq_some_iff.1 hu).1
          rw [hown.1] at this
          exact this
        rw [show (⟨g, 0, none⟩ : Addr).add j = ⟨g, j, none⟩ by unfold Addr.add; split <;> simp_all, cell_of_row w g _ cur e (0, 0) hg, ← Array.getElem?_toList, ← hu, ← htk, List.getElem?_take_of_lt hj]) a m c news hl hnews (by omega) (by omega) (growslice_fits (by omega) hbytes)] at hr
      injection hr with hv _
      subst hv
      exact .inr rfl
theorem step_append_row {w : World} {ops : Array Oper} {o : Oper} {a : Act} {K : Act → World → Prop} {Q : Exit → Act → World → Prop} {E : Prop} (hgd : o.guard = none) (s x : Operand) (t : TypeId)
    (ho : o.op = .call { callee := .builtin .append, args := #[s, x], argTypes := #[t, t] })
    (e : TypeId) (i : TypeInfo) (z : Value) (size bytes : Nat) (ht : P.underlying t = some (.slice e)) (hi : P.info? e = some i) (hz : i.zero = some z)
    (hsize : i.size = size) (hby : i.bytes = bytes) (hzs : z.cells.size = size) (hsz : 0 < size)
    (v : Value) (n : Nat) (xs : List Value) (hs : a.eval s = v) (hown : w.ownsRow 0 e size v n xs)
    (ad : Addr) (m c : Nat) (news : List Value) (hx : a.eval x = .slice (some ad) m c) (hl : news.length = m * size) (hnews : ∀ j u, news[j]? = some u → w.cell? (ad.add j) = some u) (h1 : ∀ u ∈ news, u.oneCell' = true)
    (hm : 0 < m) (h63 : n + m ≤ maxLen) (hbytes : (n + m) * bytes ≤ 140737488355328)
    (h : ∀ v' w', w'.ownsRow 0 e size v' (n + m) (xs ++ news) → w.grownBy w' v.ownBlock → v'.ownBlock = v.ownBlock ∨ v'.ownBlock = some w.heap.size → K (a.put o.dst v') w') :
    if Region.wanted o (yielded ops a.tmps) = true then Oper.wp P o a w K Q else E := by
  have hw : Region.wanted o (yielded ops a.tmps) = true := by simp [Region.wanted, hgd]
  rw [if_pos hw]
  subst hsize hby
  obtain ⟨v', w', hr, h2, h3, _⟩ := run_append_own (P := P) w 0 t o.type e i z i.size i.bytes ht hi hz rfl rfl hzs hsz v n xs hown ad m c news hl hnews h1 h63 hbytes (Nat.zero_le _)
  have h4 := append_block w t o.type e i z ht hi hz v n xs hown ad m c news hl hnews h1 hm h63 hbytes hr
  unfold Oper.wp execOp
  simp only [ho, resolve, invoke, builtin, Sem.run_bind, Sem.run_pure, Result.andThen_ok, List.map_toArray, List.map_cons, List.map_nil, hs, hx, hr]
  exact h v' w' h2 h3 h4
end
end Go.Proofs.YtmiknfneeipkeaaGreat
namespace Go.Proofs.YtmiknfneeipkeaaGreat
open Go.RowKit Go.MapKept Go.ChangeMaps
open Go.Maps (Keyed)
section
variable {α β : Type} [DecidableEq α]
def delL : List (α × β) → α → List (α × β)
  | [], _ => []
  | c :: L, a => if c.1 = a then L else c :: delL L a
theorem delL_at {L : List (α × β)} (hn : (L.map (·.1)).Nodup) {j : Nat} {c : α × β} (h : L[j]? = some c) : delL L c.1 = L.eraseIdx j := by
  induction L generalizing j with
  | nil => simp at h
  | cons d L ih =>
    simp only [List.map_cons, List.nodup_cons] at hn
    cases j with
    | zero => simp at h; subst h; simp [delL]
    | succ j =>
      simp only [List.getElem?_cons_succ] at h
      have : d.1 ≠ c.1 := fun e => hn.1 (by rw [e]; exact List.mem_map.2 ⟨c, List.mem_of_getElem? h, rfl⟩)
      rw [delL, if_neg this, ih hn.2 h]
      rfl
theorem setL_pairwise {R : (α × β) → (α × β) → Prop} {L : List (α × β)} (hn : (L.map (·.1)).Nodup) (h : L.Pairwise R) (a : α) (v : β) (hs : ∀ x y, R x y → R y x) (hv : ∀ c ∈ L, c.1 ≠ a → R c (a, v)) : (setL L a v).Pairwise R ∧ ∀ c ∈ setL L a v, c = (a, v) ∨ c ∈ L := by
  induction L with
  | nil => simp [setL]
  | cons c L ih =>
    obtain ⟨h1, h2⟩ := List.pairwise_cons.1 h
    simp only [List.map_cons, List.nodup_cons] at hn
    obtain ⟨i1, i2⟩ := ih hn.2 h2 (fun d hd => hv d (by simp [hd]))
    rw [setL]
    split
    · rename_i e
      refine ⟨List.pairwise_cons.2 ⟨fun d hd => ?_, h2⟩, fun d hd => ?_⟩
      · by_cases hd1 : d.1 = a
        · exact absurd (List.mem_map.2 ⟨d, hd, by rw [hd1, e]⟩) hn.1
        · exact hs _ _ (hv d (by simp [hd]) hd1)
      · rcases List.mem_cons.1 hd with rfl | hd
        · exact .inl rfl
        · exact .inr (by simp [hd])
    · rename_i e
      refine ⟨List.pairwise_cons.2 ⟨fun d hd => ?_, i1⟩, fun d hd => ?_⟩
      · rcases i2 d hd with rfl | hd
        · exact hv c (by simp) e
        · exact h1 d hd
      · rcases List.mem_cons.1 hd with rfl | hd
        · exact .inr (by simp)
        · rcases i2 d hd with h | h
          · exact .inl h
          · exact .inr (by simp [h])
end
section
variable {α β : Type} [DecidableEq α]
variable {P : Program} {k : TypeId} {ok : α → Prop} {kv : α → Value} {vv : β → Value}
theorem set_block {W : World} {b : Nat} {o o' : Obj} (ho : W.heap[b]? = some o) : W.grownBy (setBlock W b o') (some b) ∧ (setBlock W b o').heap.size = W.heap.size ∧ (setBlock W b o').heap[b]? = some o' := by
  have hlt : b < W.heap.size := (Array.getElem?_eq_some_iff.1 ho).1
  refine ⟨⟨rfl, rfl, rfl, by simp [setBlock], fun i hi hne => ?_⟩, by simp [setBlock], by simp [setBlock, hlt]⟩
  have : b ≠ i := fun e => hne (by rw [e])
  simp [setBlock, this]
theorem MapIs.update (M : MK P k ok kv) {t e : TypeId} (ht : P.underlying t = some (.map k e)) {w : World} {b : Nat} {L : List (α × β)} (h : MapIs ok kv vv w b L) {a : α} (ha : ok a) (v : β) :
    ∃ w', (Instr.mapUpdate t (.map (some b)) (kv a) (vv v)).run P w = .ok () w' ∧ MapIs ok kv vv w' b (setL L a v) ∧ w.grownBy w' (some b) ∧ w'.heap.size = w.heap.size := by
  obtain ⟨es, clock, hb, hs, he, hok⟩ := h
  obtain ⟨l, hl⟩ := M.key a ha
  have hok' : ∀ c ∈ setL L a v, ok c.1 := by
    intro c hc
    have : c.1 ∈ (setL L a v).map (·.1) := List.mem_map.2 ⟨c, hc, rfl⟩
    rcases (setL_keys L a v c.1).1 this with h | h
    · rw [h]; exact ha
    · obtain ⟨d, hd, e⟩ := List.mem_map.1 h
      rw [← e]
      exact hok d hd
  rcases MapIs.find (w := w) M hs he hok ha with ⟨h1, h0, h2⟩ | ⟨j, x, v0, h1, h2, h3, h4, h5⟩
  · refine ⟨setBlock w b (.map (es.push ⟨kv a, vv v, clock⟩) (clock + 1)), ?_, ⟨_, _, (set_block hb).2.2, stamped_push hs h0, ?_, hok'⟩, (set_block hb).1, (set_block hb).2.1⟩
    · simp [Instr.mapUpdate, run_underlying ht, MapKept.run_getObj_map hb, M.K.check w false hl, h1, MapKept.run_setObj_map _ hb, Result.andThen, setBlock]
    · rw [setL_none h2]
      simp [he]
  · have hj : es[j]? = some x := by simpa using h2
    refine ⟨setBlock w b (.map (es.modify j (fun e' => { e' with key := kv a, val := vv v })) clock), ?_, ⟨_, _, (set_block hb).2.2, ?_, setL_enc hs he h4 v, hok'⟩, (set_block hb).1, (set_block hb).2.1⟩
    · simp [Instr.mapUpdate, run_underlying ht, MapKept.run_getObj_map hb, M.K.check w false hl, h1, hj, h3, M.K.stays w hl, MapKept.run_setObj_map _ hb, Result.andThen, setBlock]
    · refine stamped_modify hs _ _ (fun _ _ => rfl) (fun e' _ he' => ?_)
      rw [hj] at he'
      cases he'
      exact h3.symm
end
end Go.Proofs.YtmiknfneeipkeaaGreat
namespace Go.Proofs.YtmiknfneeipkeaaGreat
open Go.RowKit Go.MapKept Go.ChangeMaps
def rowOb (e : TypeId) (size : Nat) (v : Value) (n : Nat) (xs : List Value) : Ob where
  own := fun i => v.ownBlock = some i
  rd := fun _ => False
  holds := fun w => w.ownsRow 0 e size v n xs
  stable := fun w w' h hs hk => by
    refine ⟨h.1, ?_⟩
    rcases h.2 with h2 | ⟨g, cap, cur, hv, h0, hh, hr⟩
    · exact .inl h2
    · exact .inr ⟨g, cap, cur, hv, h0, (hk g (.inl (by rw [hv]; rfl))).trans hh, hr⟩
def SW (b : Nat) (w0 : World) (l : List Ob) (w : World) : Prop := Sep b w l ∧ Below b w0 w
section
variable {b : Nat} {w0 w w' : World} {l : List Ob} {o o' : Ob}
theorem SW.refl (h : Sep b w l) : SW b w l w := ⟨h, Below.refl _ _⟩
theorem SW.on (h : SW b w0 l w) (hb : Below w.heap.size w w') : SW b w0 l w' := ⟨h.1.on hb, h.2.trans (hb.mono h.1.base)⟩
theorem SW.drew (h : SW b w0 l w) : SW b w0 l w.drew := h.on ((Below.refl _ _).drew)
theorem SW.alloc (h : SW b w0 l w) (x : Obj) : SW b w0 l (w.alloc x) := h.on ((Below.refl _ _).alloc (Nat.le_refl _) x)
theorem SW.sub {l' : List Ob} (h : SW b w0 l w) (hs : l'.Sublist l) : SW b w0 l' w := ⟨h.1.sub hs, h.2⟩
theorem SW.tail (h : SW b w0 (o :: l) w) : SW b w0 l w := ⟨h.1.tail, h.2⟩
theorem SW.cell (h : SW b w0 l w) (k : Nat) {g : Nat} {t : TypeId} {cs : Array Value} (hk : l[k]? = some (cellOb g t cs)) : IsB w g t cs := h.1.get hk
theorem SW.get (h : SW b w0 l w) (k : Nat) (hk : l[k]? = some o) : o.holds w := h.1.get hk
theorem SW.setAt (h : SW b w0 l w) (k : Nat) {g : Nat} {t : TypeId} {cs : Array Value} (hk : l[k]? = some (cellOb g t cs)) (j : Nat) (u : Value) : SW b w0 (l.set k (cellOb g t (cs.setIfInBounds j u))) (w.setCell ⟨g, j, none⟩ u) := ⟨(h.1.setAt k hk j u).1, h.2.trans (h.1.setAt k hk j u).2⟩
theorem SW.newCell (h : SW b w0 l w) (t : TypeId) (cs : Array Value) : SW b w0 (cellOb w.heap.size t cs :: l) (w.alloc (.cells cs t)) := ⟨(h.1.newCell t cs).1, h.2.trans (h.1.newCell t cs).2⟩
theorem SW.newRow (h : SW b w0 l w) (e : TypeId) (size : Nat) : SW b w0 (rowOb e size (.slice none 0 0) 0 [] :: l) w := by
  refine ⟨⟨h.1.base, fun y hy => ?_, fun y hy i hi => ?_, fun y hy i hi => ?_, List.pairwise_cons.2 ⟨fun y hy => ⟨fun i hi => ?_, fun i hi hi' => ?_⟩, h.1.apart⟩⟩, h.2⟩
  · rcases List.mem_cons.1 hy with rfl | hy
    · exact World.ownsRow_nil _ _ _ _
    · exact h.1.holds y hy
  · rcases List.mem_cons.1 hy with rfl | hy
    · cases hi
    · exact h.1.own y hy i hi
  · rcases List.mem_cons.1 hy with rfl | hy
    · cases hi
    · exact h.1.rd y hy i hi
  · cases hi
  · cases hi'
theorem Sep.row {e : TypeId} {size n n' : Nat} {v v' : Value} {xs xs' : List Value} (h : Sep b w l) (k : Nat) (hk : l[k]? = some (rowOb e size v n xs)) (h2 : w'.ownsRow 0 e size v' n' xs') (hg : w.grownBy w' v.ownBlock) (hv : v'.ownBlock = v.ownBlock ∨ v'.ownBlock = some w.heap.size) :
    Sep b w' (l.set k (rowOb e size v' n' xs')) ∧ Below b w w' := by
  refine h.stepAt k hk ⟨hg.os, hg.tape, hg.output, hg.size, fun i hi hn => hg.block i hi (fun e => hn e.symm), fun i hi => ?_⟩ (fun i hi => hi.elim) h2 (fun i hi => ?_)
  · rcases hv with hv | hv
    · exact .inl (hv.symm.trans hi)
    · have hi' : v'.ownBlock = some i := hi
      rw [hv] at hi'
      injection hi' with hi'
      exact .inr (by omega)
  · rcases hi with hi | hi
    · exact (h2.lt i hi).2
    · exact hi.elim
theorem SW.row {e : TypeId} {size n n' : Nat} {v v' : Value} {xs xs' : List Value} (h : SW b w0 l w) (k : Nat) (hk : l[k]? = some (rowOb e size v n xs)) (h2 : w'.ownsRow 0 e size v' n' xs') (hg : w.grownBy w' v.ownBlock) (hv : v'.ownBlock = v.ownBlock ∨ v'.ownBlock = some w.heap.size) :
    SW b w0 (l.set k (rowOb e size v' n' xs')) w' := ⟨(h.1.row k hk h2 hg hv).1, h.2.trans (h.1.row k hk h2 hg hv).2⟩
theorem range_filterMap {α : Type} (l : List α) : (List.range l.length).filterMap (fun i => l[i]?) = l := by
  induction l with
  | nil => rfl
  | cons x l ih =>
    rw [List.length_cons, List.range_succ_eq_map, List.filterMap_cons]
    simp only [List.getElem?_cons_zero, List.filterMap_map]
    have e : ((fun i => (x :: l)[i]?) ∘ Nat.succ) = (fun i => l[i]?) := by
      funext i
      simp
    rw [e, ih]
theorem SW.front {pre t : List Ob} (h : SW b w0 (pre ++ t) w) (idx : List Nat) {n : Nat} (hl : pre.length = n) (hp : idx.Perm (List.range n)) : SW b w0 (idx.filterMap (fun i => pre[i]?) ++ t) w := by
  subst hl
  refine ⟨h.1.perm (List.Perm.append_right t ?_), h.2⟩
  have := hp.filterMap (fun i => pre[i]?)
  rw [range_filterMap] at this
  exact this
theorem SW.newCellAt (h : SW b w0 l w) (t : TypeId) (cs : Array Value) {H : Nat} (hH : w.heap.size = H) : SW b w0 (cellOb H t cs :: l) (w.alloc (.cells cs t)) := hH ▸ h.newCell t cs
theorem step_rowS {ops : Array Oper} {o : Oper} {a : Act} {K : Act → World → Prop} {Q : Exit → Act → World → Prop} {E : Prop} {t e : TypeId} {i : TypeInfo} {z : Value} {size bytes : Nat} (hS : SW b w0 l w) (k : Nat) {v : Value} {n : Nat} {xs : List Value} (hk : l[k]? = some (rowOb e size v n xs))
    (hgd : o.guard = none) (s x : Operand) (ho : o.op = .call { callee := .builtin .append, args := #[s, x], argTypes := #[t, t] })
    (ht : Tryz.prog.underlying t = some (.slice e)) (hi : Tryz.prog.info? e = some i) (hz : i.zero = some z) (hsize : i.size = size) (hby : i.bytes = bytes) (hzs : z.cells.size = size) (hsz : 0 < size)
    (hs : a.eval s = v) (ad : Addr) (c : Nat) (news : List Value) (hx : a.eval x = .slice (some ad) 1 c) (hl : news.length = size) (hnews : ∀ j u, news[j]? = some u → w.cell? (ad.add j) = some u) (h1 : ∀ u ∈ news, u.oneCell' = true)
    (h63 : n + 1 ≤ maxLen) (hbytes : (n + 1) * bytes ≤ 140737488355328)
    (h : ∀ v' w', SW b w0 (l.set k (rowOb e size v' (n + 1) (xs ++ news))) w' → K (a.put o.dst v') w') :
    if Region.wanted o (yielded ops a.tmps) = true then Oper.wp Tryz.prog o a w K Q else E :=
  step_append_row hgd s x t ho e i z size bytes ht hi hz hsize hby hzs hsz v n xs hs (hS.get k hk) ad 1 c news hx (by rw [hl, Nat.one_mul]) hnews h1 (by omega) h63 hbytes (fun v' w' h2 hg hv => h v' w' (hS.row k hk h2 hg hv))
theorem wpList_rowS {ops : Array Oper} {o : Oper} {rest : List Oper} {a : Act} {Q : Exit → Act → World → Prop} {t e : TypeId} {i : TypeInfo} {z : Value} {size bytes : Nat} (hS : SW b w0 l w) (k : Nat) {v : Value} {n : Nat} {xs : List Value} (hk : l[k]? = some (rowOb e size v n xs))
    (hgd : o.guard = none) (s x : Operand) (ho : o.op = .call { callee := .builtin .append, args := #[s, x], argTypes := #[t, t] })
    (ht : Tryz.prog.underlying t = some (.slice e)) (hi : Tryz.prog.info? e = some i) (hz : i.zero = some z) (hsize : i.size = size) (hby : i.bytes = bytes) (hzs : z.cells.size = size) (hsz : 0 < size)
    (hs : a.eval s = v) (ad : Addr) (c : Nat) (news : List Value) (hx : a.eval x = .slice (some ad) 1 c) (hl : news.length = size) (hnews : ∀ j u, news[j]? = some u → w.cell? (ad.add j) = some u) (h1 : ∀ u ∈ news, u.oneCell' = true)
    (h63 : n + 1 ≤ maxLen) (hbytes : (n + 1) * bytes ≤ 140737488355328)
    (h : ∀ v' w', SW b w0 (l.set k (rowOb e size v' (n + 1) (xs ++ news))) w' → wpList Tryz.prog ops Q rest (a.put o.dst v') w') :
    wpList Tryz.prog ops Q (o :: rest) a w := by
  have := step_rowS (ops := ops) (Q := Q) (E := False) (K := wpList Tryz.prog ops Q rest) hS k hk hgd s x ho ht hi hz hsize hby hzs hsz hs ad c news hx hl hnews h1 h63 hbytes h
  have hw : Region.wanted o (yielded ops a.tmps) = true := by simp [Region.wanted, hgd]
  rw [if_pos hw] at this
  unfold wpList
  first
    | (rw [if_pos hw]; exact .inl this)
    | (simp only [hw, if_true]; exact .inl this)
    | (simp only [hw, if_true]; exact this)
theorem own_some {e : TypeId} {size n : Nat} {v : Value} {xs : List Value} (h : w.ownsRow 0 e size v n xs) (hx : n ≠ 0) : ∃ g c, v = .slice (some ⟨g, 0, none⟩) n c := by
  rcases h.2 with ⟨_, h2⟩ | ⟨g, cap, cur, hv, _⟩
  · exact absurd h2 hx
  · exact ⟨g, cap, hv⟩
end
end Go.Proofs.YtmiknfneeipkeaaGreat
