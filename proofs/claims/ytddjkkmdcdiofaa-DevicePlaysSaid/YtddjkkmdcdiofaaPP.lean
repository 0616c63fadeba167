/- Plain: files as the reference has them, ascending by name. -/
import Derived.Test.YtddjkkmdcdiofaaNA
namespace Go.Proofs.Ytddjkkmdcdiofaa
open Go.RowKit Go.MapKept Go.ChangeMaps

/-- A file of the reference. -/
structure RFile where
  nm : ByteArray
  d : BD
  bs : List UInt8
def posP : List RFile → ByteArray → Nat
  | [], _ => 0
  | x :: l, n => if bl x.nm < bl n then posP l n + 1 else 0
def hasP (fs : List RFile) (n : ByteArray) : Bool := match fs[posP fs n]? with
  | some x => decide (x.nm = n)
  | none => false
def withR : List RFile → RFile → List RFile
  | [], x => [x]
  | y :: l, x => if bl y.nm < bl x.nm then y :: withR l x else if y.nm = x.nm then x :: l else x :: y :: l
def withoutR : List RFile → ByteArray → List RFile
  | [], _ => []
  | y :: l, n => if bl y.nm < bl n then y :: withoutR l n else if y.nm = n then l else y :: l
theorem posP_le (fs : List RFile) (n : ByteArray) : posP fs n ≤ fs.length := by
  induction fs with
  | nil => simp [posP]
  | cons x l ih => rw [posP]; split <;> simp <;> omega
theorem hasP_cons_lt {x : RFile} {l : List RFile} {n : ByteArray} (h : bl x.nm < bl n) : hasP (x :: l) n = hasP l n := by
  simp only [hasP, posP, if_pos h, List.getElem?_cons_succ]
theorem hasP_cons_ge {x : RFile} {l : List RFile} {n : ByteArray} (h : ¬ bl x.nm < bl n) : hasP (x :: l) n = decide (x.nm = n) := by
  simp only [hasP, posP, if_neg h, List.getElem?_cons_zero]
theorem withR_eq (fs : List RFile) (x : RFile) : withR fs x = fs.take (posP fs x.nm) ++ x :: fs.drop (posP fs x.nm + if hasP fs x.nm then 1 else 0) := by
  induction fs with
  | nil => simp [withR, posP]
  | cons y l ih =>
    rw [withR]
    by_cases h : bl y.nm < bl x.nm
    · rw [if_pos h, hasP_cons_lt h, posP, if_pos h, ih, List.take_succ_cons, List.cons_append]
      congr 3
      rw [show posP l x.nm + 1 + (if hasP l x.nm = true then 1 else 0) = (posP l x.nm + if hasP l x.nm = true then 1 else 0) + 1 by omega, List.drop_succ_cons]
    · rw [if_neg h, hasP_cons_ge h, posP, if_neg h]
      by_cases e : y.nm = x.nm
      · simp [e]
      · simp [e]
theorem withoutR_eq (fs : List RFile) (n : ByteArray) : withoutR fs n = if hasP fs n then fs.take (posP fs n) ++ fs.drop (posP fs n + 1) else fs := by
  induction fs with
  | nil => simp [withoutR, hasP]
  | cons y l ih =>
    rw [withoutR]
    by_cases h : bl y.nm < bl n
    · rw [if_pos h, hasP_cons_lt h, posP, if_pos h, ih]
      split <;> simp
    · rw [if_neg h, hasP_cons_ge h, posP, if_neg h]
      by_cases e : y.nm = n <;> simp [e]
def SortedF (fs : List RFile) : Prop := fs.Pairwise (fun a b => bl a.nm < bl b.nm)
def pl (fs : List RFile) : List (ByteArray × List UInt8) := fs.map (fun x => (x.nm, x.bs))
theorem blt_irrefl (a : ByteArray) : ¬ bl a < bl a := List.lt_irrefl _
theorem blt_ne {a b : ByteArray} (h : bl a < bl b) : a ≠ b := fun e => by subst e; exact blt_irrefl a h
theorem blt_trans {a b c : ByteArray} (h : bl a < bl b) (k : bl b < bl c) : bl a < bl c := List.lt_trans h k
theorem blt_tri {a b : ByteArray} (h : ¬ bl a < bl b) (hne : a ≠ b) : bl b < bl a := by
  rcases Classical.em (bl b < bl a) with h1 | h1
  · exact h1
  · exact absurd (bl_inj (List.le_antisymm (List.not_lt.1 h1) (List.not_lt.1 h))) hne
theorem asc_pl_none {fs : List RFile} {n : ByteArray} (h : ∀ x ∈ fs, x.nm ≠ n) : asc (pl fs) n = none := asc_none (fun c hc => by
  obtain ⟨x, hx, rfl⟩ := List.mem_map.1 hc
  exact h x hx)
theorem hasP_asc {fs : List RFile} (hs : SortedF fs) (n : ByteArray) : hasP fs n = (asc (pl fs) n).isSome := by
  induction fs with
  | nil => rfl
  | cons y l ih =>
    obtain ⟨h1, h2⟩ := List.pairwise_cons.1 hs
    show _ = (if y.nm = n then some y.bs else asc (pl l) n).isSome
    by_cases h : bl y.nm < bl n
    · rw [hasP_cons_lt h, ih h2, if_neg (blt_ne h)]
    · rw [hasP_cons_ge h]
      by_cases e : y.nm = n
      · simp [e]
      · rw [if_neg e, asc_pl_none (fun x hx ex => by
          have := h1 x hx
          rw [ex] at this
          exact h this)]
        simp [e]
theorem posP_at {fs : List RFile} (hs : SortedF fs) {n : ByteArray} (hh : hasP fs n = true) : ∃ x, fs[posP fs n]? = some x ∧ x.nm = n ∧ asc (pl fs) n = some x.bs := by
  unfold hasP at hh
  cases hx : fs[posP fs n]? with
  | none => rw [hx] at hh; cases hh
  | some x =>
    rw [hx] at hh
    have e : x.nm = n := by simpa using hh
    refine ⟨x, rfl, e, ?_⟩
    have hn : ((pl fs).map (·.1)).Nodup := by
      have : fs.Pairwise (fun a b => a.nm ≠ b.nm) := hs.imp (fun h => blt_ne h)
      simpa [pl, List.Nodup, List.pairwise_map, Function.comp_def] using this
    have := asc_at hn (j := posP fs n) (c := (x.nm, x.bs)) (by rw [pl, List.getElem?_map, hx]; rfl)
    rw [← e]
    exact this
theorem with_asc {fs : List RFile} (hs : SortedF fs) (x : RFile) (m : ByteArray) : asc (pl (withR fs x)) m = if x.nm = m then some x.bs else asc (pl fs) m := by
  induction fs with
  | nil => rfl
  | cons y l ih =>
    obtain ⟨h1, h2⟩ := List.pairwise_cons.1 hs
    show _ = if x.nm = m then some x.bs else (if y.nm = m then some y.bs else asc (pl l) m)
    rw [withR]
    by_cases h : bl y.nm < bl x.nm
    · rw [if_pos h]
      show (if y.nm = m then some y.bs else asc (pl (withR l x)) m) = _
      rw [ih h2]
      by_cases e : y.nm = m
      · rw [if_pos e, if_pos e, if_neg (fun e2 => blt_ne h (e.trans e2.symm))]
      · rw [if_neg e, if_neg e]
    · rw [if_neg h]
      by_cases e : y.nm = x.nm
      · rw [if_pos e]
        show (if x.nm = m then some x.bs else asc (pl l) m) = _
        by_cases e2 : x.nm = m
        · rw [if_pos e2, if_pos e2]
        · rw [if_neg e2, if_neg e2, if_neg (fun e3 => e2 (e.symm.trans e3))]
      · rw [if_neg e]
        rfl
theorem with_mem {fs : List RFile} {x y : RFile} (h : y ∈ withR fs x) : y = x ∨ y ∈ fs := by
  induction fs with
  | nil => simp [withR] at h; exact .inl h
  | cons z l ih =>
    rw [withR] at h
    split at h
    · rcases List.mem_cons.1 h with h | h
      · exact .inr (by rw [h]; exact List.mem_cons_self)
      · exact (ih h).imp id (List.mem_cons_of_mem _)
    · split at h
      · rcases List.mem_cons.1 h with h | h
        · exact .inl h
        · exact .inr (List.mem_cons_of_mem _ h)
      · rcases List.mem_cons.1 h with h | h
        · exact .inl h
        · exact .inr h
theorem with_sorted {fs : List RFile} (hs : SortedF fs) (x : RFile) : SortedF (withR fs x) := by
  induction fs with
  | nil => simp [withR, SortedF]
  | cons y l ih =>
    obtain ⟨h1, h2⟩ := List.pairwise_cons.1 hs
    rw [withR]
    by_cases h : bl y.nm < bl x.nm
    · rw [if_pos h]
      refine List.pairwise_cons.2 ⟨fun z hz => ?_, ih h2⟩
      rcases with_mem hz with rfl | hz
      · exact h
      · exact h1 z hz
    · rw [if_neg h]
      by_cases e : y.nm = x.nm
      · rw [if_pos e]
        exact List.pairwise_cons.2 ⟨fun z hz => by rw [← e]; exact h1 z hz, h2⟩
      · rw [if_neg e]
        have hlt := blt_tri h e
        exact List.pairwise_cons.2 ⟨fun z hz => by
          rcases List.mem_cons.1 hz with rfl | hz
          · exact hlt
          · exact blt_trans hlt (h1 z hz), hs⟩
theorem without_mem {fs : List RFile} {n : ByteArray} {y : RFile} (h : y ∈ withoutR fs n) : y ∈ fs := by
  induction fs with
  | nil => simp [withoutR] at h
  | cons z l ih =>
    rw [withoutR] at h
    split at h
    · rcases List.mem_cons.1 h with h | h
      · rw [h]; exact List.mem_cons_self
      · exact List.mem_cons_of_mem _ (ih h)
    · split at h
      · exact List.mem_cons_of_mem _ h
      · exact h
theorem without_sorted {fs : List RFile} (hs : SortedF fs) (n : ByteArray) : SortedF (withoutR fs n) := by
  induction fs with
  | nil => simp [withoutR, SortedF]
  | cons y l ih =>
    obtain ⟨h1, h2⟩ := List.pairwise_cons.1 hs
    rw [withoutR]
    split
    · exact List.pairwise_cons.2 ⟨fun z hz => h1 z (without_mem hz), ih h2⟩
    · split
      · exact h2
      · exact hs
theorem without_asc {fs : List RFile} (hs : SortedF fs) (n m : ByteArray) : asc (pl (withoutR fs n)) m = if n = m then none else asc (pl fs) m := by
  induction fs with
  | nil => simp [withoutR, pl, asc]
  | cons y l ih =>
    obtain ⟨h1, h2⟩ := List.pairwise_cons.1 hs
    show _ = if n = m then none else (if y.nm = m then some y.bs else asc (pl l) m)
    rw [withoutR]
    by_cases h : bl y.nm < bl n
    · rw [if_pos h]
      show (if y.nm = m then some y.bs else asc (pl (withoutR l n)) m) = _
      rw [ih h2]
      by_cases e : y.nm = m
      · rw [if_pos e, if_pos e, if_neg (fun e2 => blt_ne h (e.trans e2.symm))]
      · rw [if_neg e, if_neg e]
    · rw [if_neg h]
      have hl : ∀ x ∈ l, x.nm ≠ n := fun x hx ex => by
        have := h1 x hx
        rw [ex] at this
        exact h this
      by_cases e : y.nm = n
      · rw [if_pos e]
        by_cases e2 : n = m
        · rw [if_pos e2, asc_pl_none (fun x hx ex => hl x hx (ex.trans e2.symm))]
        · rw [if_neg e2, if_neg (fun e3 => e2 (e.symm.trans e3))]
      · rw [if_neg e]
        by_cases e2 : n = m
        · rw [if_pos e2]
          exact asc_pl_none (fun x hx ex => by
            rcases List.mem_cons.1 hx with rfl | hx
            · exact e (ex.trans e2.symm)
            · exact hl x hx (ex.trans e2.symm))
        · rw [if_neg e2]
          rfl
end Go.Proofs.Ytddjkkmdcdiofaa
