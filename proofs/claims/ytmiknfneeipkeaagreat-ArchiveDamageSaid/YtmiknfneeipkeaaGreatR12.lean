/- Contracts of the walk, part 12. -/
import Derived.Deep.RegionHeld3
import Derived.Test.YtmiknfneeipkeaaGreatR10
import Derived.Test.YtmiknfneeipkeaaGreatR11
import Derived.Test.YtmiknfneeipkeaaGreatR01
namespace Go.Proofs.YtmiknfneeipkeaaGreat
open Go.RowKit Go.Shelf Go.Sort
attribute [local go_sem] wext_cell
section
variable {α : Type} [Inhabited α] {enc : α → List Value} {k : Nat} {d : α}
theorem bang_getD (xs : List α) (j : Nat) (hj : j < xs.length) : xs.toArray[j]! = xs.getD j d := by
  rw [List.getElem!_toArray, List.getD_eq_getElem?_getD, List.getElem?_eq_getElem hj, getElem!_pos xs j hj]
  rfl
theorem holdsK_of_own (hk : ∀ y, (enc y).length = k) (hk0 : 0 < k) {w : World} {base g n cap : Nat} {e : TypeId} {xs : List α} (h : w.ownsRow base e k (.slice (some ⟨g, 0, none⟩) n cap) n (xs.flatMap enc)) : HoldsK enc k w g 0 xs.toArray := by
  have hl := h.1
  rw [flat_len hk] at hl
  intro j hj
  rw [size_flatK] at hj
  have hj' : j < xs.length * k := by simpa using hj
  refine ⟨?_, h.frozenAt _⟩
  have hq : j / k < xs.length := by rw [Nat.div_lt_iff_lt_mul hk0]; exact hj'
  have hm : j % k < k := Nat.mod_lt _ hk0
  have hdm : j / k * k + j % k = j := by rw [Nat.mul_comm]; exact Nat.div_add_mod j k
  rw [get_flatK _ _ _ _ hj, Nat.zero_add, h.cellAt j (by omega), bang_getD (d := default) xs _ hq]
  have h1 := flat_at hk default xs (j / k) (j % k) hq hm
  rw [hdm] at h1
  rw [h1]
  have hlt : j % k < (enc (xs.getD (j / k) default)).length := by rw [hk]; exact hm
  rw [List.getElem?_eq_getElem hlt, getElem!_pos (enc (xs.getD (j / k) default)) (j % k) hlt]
  rfl
end
end Go.Proofs.YtmiknfneeipkeaaGreat
namespace Go.Proofs.YtmiknfneeipkeaaGreat
open Go.RowKit Go.MapKept Go.ChangeMaps Go.Shelf Go.Sort
attribute [local go_sem] wext_cell
theorem grow_grow2 (W : World) (a b : Obj) (q : Nat) (os : Array Obj) : grow (((W.alloc a).alloc b).drewN q) os = grow (W.drewN q) (#[a, b] ++ os) := by
  show grow (((W.drewN q).alloc a).alloc b) os = _
  rw [alloc_eq_grow, alloc_eq_grow, grow_grow, grow_grow, ← Array.append_assoc]
  rfl
def Asc (T : List CT) : Prop := T.Pairwise (fun a b => ltID a.1 b.1 = true)
theorem mthree_new (W : World) (x y z : Value) (t : TypeId) (H : Nat) (hH : W.heap.size = H) : ∀ j u, [x, y, z][j]? = some u → (W.alloc (.cells #[x, y, z] t)).cell? ((⟨H, 0, none⟩ : Addr).add j) = some u := by
  subst hH
  intro j u hu
  have hc := fun i => (IsB.new W t #[x, y, z]).cell i
  match j, hu with
  | 0, hu => simp at hu; subst hu; simp [Addr.add, hc]
  | 1, hu => simp at hu; subst hu; simp [Addr.add, hc]
  | 2, hu => simp at hu; subst hu; simp [Addr.add, hc]
  | j + 3, hu => simp at hu
end Go.Proofs.YtmiknfneeipkeaaGreat
namespace Go.Proofs.YtmiknfneeipkeaaGreat
open Go.RowKit
attribute [local go_sem] wext_cell
theorem ltID_irrefl (a : ID) : ltID a a = false := by simp [ltID]
theorem mltID_trans {a b c : ID} (h1 : ltID a b = true) (h2 : ltID b c = true) : ltID a c = true := by
  simp [ltID] at *
  omega
theorem ltID_tri {a b : ID} (h1 : ltID a b = false) (h2 : a ≠ b) : ltID b a = true := by
  obtain ⟨a1, a2⟩ := a
  obtain ⟨b1, b2⟩ := b
  simp [ltID] at *
  omega
def putR : List CT → ID → Int → List CT
  | [], i, n => [(i, n)]
  | c :: t, i, n => if ltID c.1 i then c :: putR t i n else if c.1 = i then (i, c.2 + n) :: t else (i, n) :: c :: t
theorem putR_keys (t : List CT) (i : ID) (n : Int) : ∀ j, j ∈ (putR t i n).map (·.1) ↔ j = i ∨ j ∈ t.map (·.1) := by
  intro j
  induction t with
  | nil => simp [putR]
  | cons c t ih =>
    rw [putR]
    split
    · rw [List.map_cons, List.mem_cons, ih, List.map_cons, List.mem_cons]
      constructor <;> rintro (h | h | h) <;> simp [h]
    · split
      · rename_i e; subst e; simp
      · simp
theorem putR_asc {t : List CT} (h : Asc t) (i : ID) (n : Int) : Asc (putR t i n) := by
  induction t with
  | nil => simp [putR, Asc]
  | cons c t ih =>
    obtain ⟨h1, h2⟩ := List.pairwise_cons.1 h
    rw [putR]
    split
    · rename_i hc
      refine List.pairwise_cons.2 ⟨fun d hd => ?_, ih h2⟩
      have : d.1 ∈ (putR t i n).map (·.1) := List.mem_map.2 ⟨d, hd, rfl⟩
      rcases (putR_keys t i n d.1).1 this with e | e
      · rw [e]; exact hc
      · obtain ⟨d', hd', e'⟩ := List.mem_map.1 e
        rw [← e']
        exact h1 d' hd'
    · rename_i hc
      split
      · rename_i e
        subst e
        exact List.pairwise_cons.2 ⟨h1, h2⟩
      · rename_i e
        have hlt := ltID_tri (by simpa using hc) e
        refine List.pairwise_cons.2 ⟨fun d hd => ?_, h⟩
        rcases List.mem_cons.1 hd with rfl | hd
        · exact hlt
        · exact mltID_trans hlt (h1 d hd)
theorem asc_ne_of_lt {t : List CT} {i : ID} (h : ∀ c ∈ t, ltID i c.1 = true) : asc t i = none :=
  asc_none (fun c hc e => by have := h c hc; rw [e, ltID_irrefl] at this; cases this)
theorem asc_putR {t : List CT} (h : Asc t) (i j : ID) (n : Int) : asc (putR t i n) j = if i = j then some (nAt t i + n) else asc t j := by
  induction t with
  | nil => simp [putR, asc, nAt]
  | cons c t ih =>
    obtain ⟨h1, h2⟩ := List.pairwise_cons.1 h
    rw [putR]
    split
    · rename_i hc
      have hne : c.1 ≠ i := fun e => by rw [e, ltID_irrefl] at hc; cases hc
      have e1 : nAt (c :: t) i = nAt t i := by simp [nAt, asc, hne]
      simp only [asc, ih h2, e1]
      by_cases hij : i = j
      · subst hij; simp [hne]
      · simp [hij]
    · rename_i hc
      split
      · rename_i e
        subst e
        simp only [asc, nAt]
        by_cases hj : c.1 = j <;> simp [hj]
      · rename_i e
        have hlt := ltID_tri (by simpa using hc) e
        have e0 : asc (c :: t) i = none := asc_ne_of_lt (fun d hd => by
          rcases List.mem_cons.1 hd with rfl | hd
          · exact hlt
          · exact mltID_trans hlt (h1 d hd))
        simp only [nAt, e0]
        rw [asc]
        simp
def NewC (x : Nat) (t : List CT) (w : World) (e : Ending) (w' : World) : Prop :=
  ∃ (A : Option Addr) (c : Nat), e = .returned (.slice A t.length c) ∧ RdC w' x A t ∧ t.length ≤ c ∧ (∀ ad, A = some ad → w.heap.size ≤ ad.block ∧ ad.block < w'.heap.size) ∧ Below w.heap.size w w'
theorem drop_cons_getD {α : Type} (l : List α) (d : α) (k : Nat) (h : k < l.length) : l.drop k = l.getD k d :: l.drop (k + 1) := by
  rw [List.drop_eq_getElem_cons h, List.getD_eq_getElem?_getD, List.getElem?_eq_getElem h]
  rfl
def PutInv (t : List CT) (i : ID) (n : Int) (k : Nat) (put : Bool) (xs : List CT) : Prop := xs ++ (if put then t.drop k else putR (t.drop k) i n) = putR t i n ∧ xs.length ≤ 2 * k
theorem PutInv.start (t : List CT) (i : ID) (n : Int) : PutInv t i n 0 false [] := by simp [PutInv]
theorem PutInv.tail {t : List CT} {i : ID} {n : Int} {k : Nat} {xs : List CT} (h : PutInv t i n k true xs) (hk : k < t.length) : PutInv t i n (k + 1) true (xs ++ [t.getD k ct0]) := by
  obtain ⟨h1, h2⟩ := h
  rw [if_pos rfl, drop_cons_getD t ct0 k hk] at h1
  exact ⟨by rw [if_pos rfl, List.append_assoc]; exact h1, by simp; omega⟩
theorem PutInv.same {t : List CT} {i : ID} {n : Int} {k : Nat} {xs : List CT} (h : PutInv t i n k false xs) (hk : k < t.length) (hl : ltID (t.getD k ct0).1 i = false) (he : (t.getD k ct0).1 = i) : PutInv t i n (k + 1) true (xs ++ [(i, (t.getD k ct0).2 + n)]) := by
  obtain ⟨h1, h2⟩ := h
  rw [if_neg (by simp), drop_cons_getD t ct0 k hk, putR, if_neg (by rw [hl]; simp), if_pos he] at h1
  exact ⟨by rw [if_pos rfl, List.append_assoc]; exact h1, by simp; omega⟩
theorem PutInv.new {t : List CT} {i : ID} {n : Int} {k : Nat} {xs : List CT} (h : PutInv t i n k false xs) (hk : k < t.length) (hl : ltID (t.getD k ct0).1 i = false) (he : (t.getD k ct0).1 ≠ i) : PutInv t i n (k + 1) true (xs ++ [(i, n)] ++ [t.getD k ct0]) := by
  obtain ⟨h1, h2⟩ := h
  rw [if_neg (by simp), drop_cons_getD t ct0 k hk, putR, if_neg (by rw [hl]; simp), if_neg he] at h1
  exact ⟨by simpa using h1, by simp; omega⟩
theorem PutInv.stop {t : List CT} {i : ID} {n : Int} {xs : List CT} (h : PutInv t i n t.length true xs) : xs = putR t i n := by
  have h1 := h.1
  rw [if_pos rfl, List.drop_length] at h1
  simpa using h1
theorem PutInv.last {t : List CT} {i : ID} {n : Int} {xs : List CT} (h : PutInv t i n t.length false xs) : xs ++ [(i, n)] = putR t i n := by
  have h1 := h.1
  rw [if_neg (by simp), List.drop_length] at h1
  exact h1
theorem B_cell {w w' : World} {b o : Nat} {v : Value} (h : Below w.heap.size w w') (hb : b < w.heap.size) (hc : w.cell? ⟨b, o, none⟩ = some v) : w'.cell? ⟨b, o, none⟩ = some v := (h.cell (p := ⟨b, o, none⟩) hb).trans hc
def TwoC (x : Nat) (p : List CT × Int) (w : World) (e : Ending) (w' : World) : Prop :=
  ∃ (A : Option Addr) (c : Nat), e = .returned (.tuple #[.slice A p.1.length c, .int .i64 p.2]) ∧ RdC w' x A p.1 ∧ p.1.length ≤ c ∧ Below w.heap.size w w'
def OneC (x : Nat) (t : List CT) (w : World) (e : Ending) (w' : World) : Prop :=
  ∃ (A : Option Addr) (c : Nat), e = .returned (.slice A t.length c) ∧ RdC w' x A t ∧ t.length ≤ c ∧ Below w.heap.size w w'
theorem NewC.one {x : Nat} {t : List CT} {w : World} {e : Ending} {w' : World} (h : NewC x t w e w') : OneC x t w e w' := by
  obtain ⟨A, c, h1, h2, h3, h4, h5⟩ := h
  exact ⟨A, c, h1, h2, h3, h5⟩
def allR (t : List CT) (l : List ID) : List CT := l.foldl (fun t i => putR t i 1) t
theorem putR_len (t : List CT) (i : ID) (n : Int) : (putR t i n).length ≤ t.length + 1 := by
  induction t with
  | nil => simp [putR]
  | cons c t ih =>
    rw [putR]
    split
    · simp; omega
    · split <;> simp
theorem allR_len (t : List CT) (l : List ID) : (allR t l).length ≤ t.length + l.length := by
  induction l generalizing t with
  | nil => simp [allR]
  | cons i l ih =>
    have h1 := ih (putR t i 1)
    have h2 := putR_len t i 1
    have e : allR t (i :: l) = allR (putR t i 1) l := rfl
    rw [e, List.length_cons]
    omega
end Go.Proofs.YtmiknfneeipkeaaGreat
namespace Go.Proofs.YtmiknfneeipkeaaGreat
open Go.RowKit
attribute [local go_sem] wext_cell
theorem gb {p q : Bool} {w W : World} (h : p = q) (hb : Below w.heap.size w W) : Gives (.bool p) w (.returned (.bool q)) W := ⟨by rw [h], hb⟩
theorem eq_of_take {α : Type} {a b : List α} (hl : a.length = b.length) (h : a.take a.length = b.take a.length) : a = b := by
  rw [List.take_length, hl, List.take_length] at h
  exact h
theorem ne_of_getD {α : Type} {a b : List α} (d : α) (k : Nat) (h : a.getD k d ≠ b.getD k d) : a ≠ b := fun e => h (by rw [e])
theorem take_both {α : Type} {a b : List α} {d : α} {k : Nat} (ha : k < a.length) (hb : k < b.length) (h : a.take k = b.take k) (he : a.getD k d = b.getD k d) : a.take (k + 1) = b.take (k + 1) := by
  rw [take_snoc _ d _ ha, take_snoc _ d _ hb, h, he]
end Go.Proofs.YtmiknfneeipkeaaGreat
namespace Go.Proofs.YtmiknfneeipkeaaGreat
open Go.RowKit Go.MapKept Go.ChangeMaps
attribute [local go_sem] wext_cell
theorem putsR_spec (u : List CT) : ∀ {t : List CT}, Asc t → (u.map (·.1)).Nodup → Asc (u.foldl (fun t c => putR t c.1 c.2) t) ∧ ∀ i, asc (u.foldl (fun t c => putR t c.1 c.2) t) i = if i ∈ u.map (·.1) then some (nAt t i + nAt u i) else asc t i := by
  induction u with
  | nil => intro t h _; exact ⟨h, fun i => by simp⟩
  | cons c u ih =>
    intro t h hn
    simp only [List.map_cons, List.nodup_cons] at hn
    have h1 := ih (putR_asc h c.1 c.2) hn.2
    refine ⟨h1.1, fun i => ?_⟩
    rw [List.foldl_cons, h1.2 i]
    have hk : ∀ j, nAt (putR t c.1 c.2) j = if c.1 = j then nAt t j + c.2 else nAt t j := by
      intro j
      conv => lhs; unfold nAt
      rw [asc_putR h]
      split
      · rename_i e; rw [← e]; rfl
      · rfl
    by_cases hi : i ∈ u.map (·.1)
    · rw [if_pos hi, if_pos (by simp only [List.map_cons, List.mem_cons]; exact .inr hi), hk]
      have hne : c.1 ≠ i := fun e => hn.1 (e ▸ hi)
      rw [if_neg hne]
      simp only [nAt, asc, if_neg hne]
    · rw [if_neg hi, asc_putR h]
      by_cases e : c.1 = i
      · subst e
        rw [if_pos rfl, if_pos (by simp)]
        simp [nAt, asc]
      · rw [if_neg e, if_neg]
        simp only [List.map_cons, List.mem_cons]
        rintro (h | h)
        · exact e h.symm
        · exact hi h
theorem asc_isSome {L : List CT} {i : ID} (h : i ∈ L.map (·.1)) : ∃ n, asc L i = some n := by
  induction L with
  | nil => cases h
  | cons c L ih =>
    rw [asc]
    split
    · exact ⟨_, rfl⟩
    · rename_i e
      rw [List.map_cons, List.mem_cons] at h
      rcases h with h | h
      · exact absurd h.symm e
      · exact ih h
theorem key_of_asc {L : List CT} {i : ID} {n : Int} (h : asc L i = some n) : i ∈ L.map (·.1) := List.mem_map.2 ⟨_, mem_of_asc h, rfl⟩
theorem asc_none_iff {L : List CT} {i : ID} : asc L i = none ↔ i ∉ L.map (·.1) := by
  constructor
  · intro h hm
    obtain ⟨n, e⟩ := asc_isSome hm
    rw [h] at e; cases e
  · intro h
    exact asc_none (fun c hc e => h (e ▸ List.mem_map.2 ⟨c, hc, rfl⟩))
theorem putN_nodup {L : List CT} (h : (L.map (·.1)).Nodup) (i : ID) (n : Int) : ((putN L i n).map (·.1)).Nodup := setL_nodup h _ _
theorem asc_putN (L : List CT) (i j : ID) (n : Int) : asc (putN L i n) j = if i = j then some (nAt L i + n) else asc L j := by unfold putN; rw [asc_setL]
theorem addIDs_spec (l : List ID) : ∀ {L : List CT}, (L.map (·.1)).Nodup → ((addIDs L l).map (·.1)).Nodup ∧ ∀ i, asc (addIDs L l) i = if i ∈ l then some (nAt L i + (l.count i : Nat)) else asc L i := by
  induction l with
  | nil => intro L h; exact ⟨h, fun i => by simp [addIDs]⟩
  | cons a l ih =>
    intro L h
    have h1 := ih (putN_nodup h a 1)
    refine ⟨h1.1, fun i => ?_⟩
    show asc (addIDs (putN L a 1) l) i = _
    rw [h1.2 i, nAt_putN, asc_putN]
    by_cases e : a = i
    · subst e
      simp only [if_true, List.mem_cons, true_or, List.count_cons_self]
      by_cases ha : a ∈ l
      · rw [if_pos ha]; congr 1; push_cast; omega
      · rw [if_neg ha, List.count_eq_zero_of_not_mem ha]; rfl
    · have e' : ¬ i = a := fun h => e h.symm
      have ec : (a :: l).count i = l.count i := by rw [List.count_cons]; simp [e]
      simp only [if_neg e, List.mem_cons, e', false_or, ec]
theorem allR_spec (l : List ID) : ∀ {t : List CT}, Asc t → Asc (allR t l) ∧ ∀ i, asc (allR t l) i = if i ∈ l then some (nAt t i + (l.count i : Nat)) else asc t i := by
  induction l with
  | nil => intro t h; exact ⟨h, fun i => by simp [allR]⟩
  | cons a l ih =>
    intro t h
    have h1 := ih (putR_asc h a 1)
    refine ⟨h1.1, fun i => ?_⟩
    show asc (allR (putR t a 1) l) i = _
    have hk : nAt (putR t a 1) i = if a = i then nAt t i + 1 else nAt t i := by
      conv => lhs; unfold nAt
      rw [asc_putR h]
      split
      · rename_i e; rw [← e]; rfl
      · rfl
    rw [h1.2 i, hk, asc_putR h]
    by_cases e : a = i
    · subst e
      simp only [if_true, List.mem_cons, true_or, List.count_cons_self]
      by_cases ha : a ∈ l
      · rw [if_pos ha]; congr 1; push_cast; omega
      · rw [if_neg ha, List.count_eq_zero_of_not_mem ha]; rfl
    · have e' : ¬ i = a := fun h => e h.symm
      have ec : (a :: l).count i = l.count i := by rw [List.count_cons]; simp [e]
      simp only [if_neg e, List.mem_cons, e', false_or, ec]
def idsOf (ms : List Man) : List ID := ms.flatMap (·.ids)
theorem chunk_of_err {ms : List Man} (h : errM ms = 0) : ∀ i ∈ idsOf ms, chunkB i = true := by
  induction ms with
  | nil => simp [idsOf]
  | cons m ms ih =>
    simp only [errM] at h
    split at h
    · rename_i e
      intro i hi
      rw [idsOf, List.flatMap_cons, List.mem_append] at hi
      rcases hi with hi | hi
      · exact List.all_eq_true.1 (manE_all e) i hi
      · exact ih h i hi
    · rename_i e; exact absurd h e
theorem TwoC.from {x : Nat} {p : List CT × Int} {w0 w : World} {e : Ending} {w' : World} (hb : Below w0.heap.size w0 w) (h : TwoC x p w e w') : TwoC x p w0 e w' := by
  obtain ⟨A, c, h1, h2, h3, h4⟩ := h
  exact ⟨A, c, h1, h2, h3, hb.trans (h4.mono hb.size)⟩
theorem idsOf_len {ms : List Man} (h : errM ms = 0) : (idsOf ms).length ≤ 1024 * ms.length := by
  induction ms with
  | nil => simp [idsOf]
  | cons m ms ih =>
    simp only [errM] at h
    split at h
    · rename_i e
      have h1 := ih h
      have h2 := manE_len e
      have : idsOf (m :: ms) = m.ids ++ idsOf ms := by simp [idsOf]
      rw [this, List.length_append, List.length_cons]
      omega
    · rename_i e; exact absurd h e
theorem MapIs.two {w : World} {b : Nat} {L L' : List CT} (h : Mp w b L) (e : L = L') : Mp w b L' := e ▸ h
end Go.Proofs.YtmiknfneeipkeaaGreat
namespace Go.Proofs.YtmiknfneeipkeaaGreat
open Go.RowKit Go.MapKept Go.ChangeMaps Go.Shelf Go.Sort
section
variable {α : Type} [Inhabited α] {enc : α → List Value} {k : Nat} {d : α}
theorem own_of_holds (hk : ∀ y, (enc y).length = k) {w : World} {base g n cap : Nat} {e : TypeId} {ys : List α} {cur : Array Value} (hb : base ≤ g) (hi : IsB w g e cur) (hc : n ≤ cap) (hm : cap ≤ maxLen) (hs : cur.size = cap * k) (hn : ys.length = n) (hH : HoldsK enc k w g 0 ys.toArray) :
    w.ownsRow base e k (.slice (some ⟨g, 0, none⟩) n cap) n (ys.flatMap enc) := by
  refine ⟨by rw [flat_len hk, hn], .inr ⟨g, cap, cur, rfl, hb, hi, hc, hm, hs, ?_⟩⟩
  have hnk : n * k ≤ cap * k := Nat.mul_le_mul_right _ hc
  refine List.ext_getElem? (fun j => ?_)
  by_cases hj : j < n * k
  · have hk0 : 0 < k := by
      rcases Nat.eq_zero_or_pos k with h | h
      · subst h; simp at hj
      · exact h
    have hq : j / k < ys.length := by rw [Nat.div_lt_iff_lt_mul hk0, hn]; exact hj
    have hm : j % k < k := Nat.mod_lt _ hk0
    have hdm : j / k * k + j % k = j := by rw [Nat.mul_comm]; exact Nat.div_add_mod j k
    have h0 := (hH.cell (i := j / k) (c := j % k) (by simpa using hq) hm).1
    rw [Nat.zero_add, hdm, hi.cell, bang_getD (d := default) ys _ hq] at h0
    have h1 := flat_at hk default ys (j / k) (j % k) hq hm
    rw [hdm] at h1
    have hlt : j % k < (enc (ys.getD (j / k) default)).length := by rw [hk]; exact hm
    rw [List.getElem?_take_of_lt hj, Array.getElem?_toList, h0, h1, List.getElem?_eq_getElem hlt, getElem!_pos (enc (ys.getD (j / k) default)) (j % k) hlt]
  · rw [List.getElem?_eq_none (by simp; omega), List.getElem?_eq_none (by rw [flat_len hk, hn]; omega)]
abbrev SortOwn (enc : α → List Value) (k : Nat) (cf : α → α → Int) (base g n cap : Nat) (e : TypeId) (xs : List α) (w : World) (en : Ending) (w' : World) : Prop :=
  en = .returned (.tuple #[]) ∧ ∃ ys : List α, ys.Perm xs ∧ ys.Pairwise (fun a b => ltOf cf b a = false) ∧ w'.ownsRow base e k (.slice (some ⟨g, 0, none⟩) n cap) n (ys.flatMap enc) ∧ w.grownBy w' (some g)
theorem sort_own (hk : ∀ y, (enc y).length = k) {cf : α → α → Int} {f : FuncId} {base g n cap : Nat} {e : TypeId} {xs : List α} {w : World} {gv : Value} (h : w.ownsRow base e k (.slice (some ⟨g, 0, none⟩) n cap) n (xs.flatMap enc)) (hk0 : 0 < k)
    (hcon : Calls Tryz.prog f #[.slice (some ⟨g, 0, none⟩) xs.toArray.size cap, gv] w fun e w' => e = .returned (.tuple #[]) ∧ ∃ d' m os, PermIn 0 xs.toArray.size xs.toArray d' ∧ SortedIn (ltOf cf) 0 xs.toArray.size d' ∧ w' = sortWorldK enc k w g 0 m d' os) :
    Calls Tryz.prog f #[.slice (some ⟨g, 0, none⟩) n cap, gv] w (SortOwn enc k cf base g n cap e xs w) := by
  have hl := h.1
  rw [flat_len hk] at hl
  have hnx : n = xs.toArray.size := by
    have : xs.length = n := Nat.eq_of_mul_eq_mul_right hk0 hl
    simp [this]
  have hg := h.lt g rfl
  rw [← hnx] at hcon
  refine Calls.mono hcon ?_
  rintro en w' ⟨he, d', m, os, hp, hs, rfl⟩
  obtain ⟨hsz, _, hperm⟩ := hp
  have hsz0 := hsz
  rw [hnx, Array.extract_size, show xs.toArray.size = d'.size from hsz.symm, Array.extract_size] at hperm
  have hH := holdsK_putRowK (enc := enc) (k := k) (Sort.ahead w m) g 0 xs.toArray d' (holdsK_of_own hk hk0 h) hsz
  have hgrow : w.grownBy (sortWorldK enc k w g 0 m d' os) (some g) := by
    refine ⟨rfl, rfl, rfl, by simp [sortWorldK, putRowK], fun j hj hne => ?_⟩
    unfold sortWorldK
    rw [heap_grow_old _ _ (by simpa [putRowK] using hj)]
    have : g ≠ j := fun e => hne (by rw [e])
    simp [putRowK, putRow, mapBlock, Sort.ahead, Array.getElem?_modify, this]
  have hH2 := holdsK_grow (enc := enc) (k := k) _ os _ _ _ (by simpa [putRowK] using hg.2) hH
  have hpm : d'.toList.Perm xs := by simpa using hperm
  obtain ⟨_, hown⟩ := h
  rcases hown with ⟨hv, _⟩ | ⟨g', cap', cur, hv, h0, hh, hc1, hc2, hcs, _⟩
  · cases hv
  · injection hv with e1 e2 e3
    injection e1 with e1
    injection e1 with e1
    subst e1 e3
    have hI : IsB (sortWorldK enc k w g 0 m d' os) g e (putCells id (0) (flatK enc k d') cur) := by
      unfold IsB sortWorldK
      rw [heap_grow_old _ _ (by simpa [putRowK] using hg.2)]
      simp [putRowK, putRow, mapBlock, Sort.ahead, Array.getElem?_modify, hh, onCells]
    refine ⟨he, d'.toList, hpm, ?_, own_of_holds hk h0 hI hc1 hc2 (by simp [putCells, hcs]) (by have := hpm.length_eq; rw [this, hnx]; simp) (by rw [show d'.toList.toArray = d' from by simp]; exact hH2), hgrow⟩
    rw [List.pairwise_iff_getElem]
    intro i j hi hj hij
    have hi' : i < d'.size := by simpa using hi
    have hj' : j < d'.size := by simpa using hj
    have := hs i j (Nat.zero_le _) hij (by omega)
    rw [getElem!_pos d' i hi', getElem!_pos d' j hj'] at this
    simpa using this
end
theorem sortP_any (base g n cap : Nat) (xs : List ID) (w : World) (h : w.ownsRow base 36 2 (.slice (some ⟨g, 0, none⟩) n cap) n (xs.flatMap encID)) (hn : xs.length ≤ 4294967296) :
    Calls Tryz.prog 82 #[.slice (some ⟨g, 0, none⟩) n cap, .func (.func 55) #[] #[]] w (SortOwn encID 2 cmpID base g n cap 36 xs w) := by
  have hg := h.lt g rfl
  have eg : ∀ args w, (callFunc 55 args).run Tryz.prog w = .ok (.enter 55 args) w := enters_of Tryz.func55 (by kernel_rfl) rfl
  exact sort_own encID_len h (by omega) (AnyQ.slices_SortFunc Tryz.lay82 2 Tryz.isAgg36 Tryz.sizeOf36 encID (fun _ => rfl) encID_one cmpID swoID 55 #[] g 0 cap xs.toArray w eg
    (fun _ _ _ _ x y => acmp_grow x.1 x.2 y.1 y.2 _) (holdsK_of_own encID_len (by omega) h) hg.2 (by simp; omega))
theorem sortP_none (p : Option Addr) (cap : Nat) (w : World) : Calls Tryz.prog 82 #[.slice p 0 cap, .func (.func 55) #[] #[]] w fun e w' => e = .returned (.tuple #[]) ∧ w' = w :=
  AnyF.slices_SortFunc_none { Tryz.lay82 with } p cap _ w
end Go.Proofs.YtmiknfneeipkeaaGreat
namespace Go.Proofs.YtmiknfneeipkeaaGreat
open Go.RowKit Go.MapKept Go.ChangeMaps Go.Shelf Go.Sort
attribute [local go_sem] wext_cell
abbrev CH := ID × BS
def vBS (e : BS) : Value := .slice e.d.A e.d.len e.d.cap
def encCH (e : CH) : List Value := [.int .u64 e.1.1, .int .i64 e.1.2, vBS e.2]
def ch0 : CH := (id0, bs0)
theorem encCH_len (e : CH) : (encCH e).length = 3 := rfl
theorem encCH_one (e : CH) : ∀ u ∈ encCH e, u.oneCell' = true := by
  intro u hu
  simp [encCH, vBS] at hu
  rcases hu with rfl | rfl | rfl <;> rfl
def msOb (rs : List MR) (ms : List Man) : Ob where
  own := fun _ => False
  rd := fun i => ∃ j, j < ms.length ∧ 0 < (ms.getD j man0).ids.length ∧ ∃ o, (rs.getD j mr0).A = some ⟨i, o, none⟩
  holds := fun w => rs.length = ms.length ∧ ∀ j, j < ms.length → Link w w.heap.size (rs.getD j mr0) (ms.getD j man0)
  stable := fun w w' h hs hk => by
    obtain ⟨h2, h3⟩ := h
    refine ⟨h2, fun j hj => ?_⟩
    obtain ⟨l1, l2, l3, l4⟩ := h3 j hj
    refine ⟨l1, l2, l3, fun hp => ?_⟩
    obtain ⟨b, o, e, hb, _, hc⟩ := l4 hp
    have hB := hk b (.inr ⟨j, hj, hp, o, e⟩)
    refine ⟨b, o, e, Nat.lt_of_lt_of_le hb hs.2.2.2, by have := hs.2.2.2; omega, fun j hj i v hv => ?_⟩
    rw [← hc j hj i v hv]
    simp [World.cell?, hB]
section
variable {b : Nat} {w0 w w' : World} {l t : List Ob} {o o' : Ob}
theorem SW.noMans (h : SW b w0 l w) : SW b w0 (msOb [] [] :: l) w := SW.fuse (pre := []) h ⟨rfl, fun j hj => by cases hj⟩ (fun _ h => h) (fun i hi => by
  obtain ⟨j, hj, _⟩ := hi
  cases hj)
theorem SW.fuseM {B : Option Addr} {ids : List ID} {rs : List MR} {ms : List Man} (h : SW b w0 (riOb B ids :: msOb rs ms :: l) w) (z : Int) (c : Nat) (hc : ids.length ≤ c) : SW b w0 (msOb (rs ++ [⟨z, B, ids.length, c⟩]) (ms ++ [⟨z, ids⟩]) :: l) w := by
  have hm : (msOb rs ms).holds w := h.get 1 (o := msOb rs ms) rfl
  refine SW.fuse (pre := [riOb B ids, msOb rs ms]) h ⟨by rw [List.length_append, List.length_append, hm.1]; rfl, fun j hj => ?_⟩ (fun _ h => h) (fun i hi => ?_)
  · rw [List.length_append] at hj
    by_cases hlt : j < ms.length
    · rw [getD_snoc_lt _ _ _ _ hlt, getD_snoc_lt _ _ _ _ (by rw [hm.1]; exact hlt)]
      exact hm.2 j hlt
    · have e : j = ms.length := by simp at hj; omega
      rw [getD_snoc_eq _ _ _ _ e, getD_snoc_eq _ _ _ _ (by rw [hm.1]; exact e)]
      exact ⟨rfl, rfl, hc, rdID_of (h.get 0 (o := riOb B ids) rfl)⟩
  · obtain ⟨j, hj, hp, o, e⟩ := hi
    rw [List.length_append] at hj
    by_cases hlt : j < ms.length
    · rw [getD_snoc_lt _ _ _ _ hlt] at hp
      rw [getD_snoc_lt _ _ _ _ (by rw [hm.1]; exact hlt)] at e
      exact ⟨msOb rs ms, by simp, .inr ⟨j, hlt, hp, o, e⟩⟩
    · have ej : j = ms.length := by simp at hj; omega
      rw [getD_snoc_eq _ _ _ _ (by rw [hm.1]; exact ej)] at e
      rw [getD_snoc_eq _ _ _ _ ej] at hp
      have hri : (riOb B ids).holds w := h.get 0 (o := riOb B ids) rfl
      refine ⟨riOb B ids, by simp, .inr ?_⟩
      obtain ⟨g, e2, _⟩ := hri.2 _ e
      injection e2 with e2 e3
      show B = some ⟨i, 0, none⟩
      have e : B = some ⟨i, o, none⟩ := e
      rw [e, e3]
end
def imOb (A : Option Addr) (rs : List MR) (ms : List Man) : Ob where
  own := fun _ => False
  rd := fun i => (0 < rs.length ∧ ∃ o, A = some ⟨i, o, none⟩) ∨ ∃ j, j < ms.length ∧ 0 < (ms.getD j man0).ids.length ∧ ∃ o, (rs.getD j mr0).A = some ⟨i, o, none⟩
  holds := fun w => Rd encMR 2 mr0 w w.heap.size A rs ∧ rs.length = ms.length ∧ ∀ j, j < ms.length → Link w w.heap.size (rs.getD j mr0) (ms.getD j man0)
  stable := fun w w' h hs hk => by
    obtain ⟨h1, h2, h3⟩ := h
    refine ⟨fun hp => ?_, h2, fun j hj => ?_⟩
    · obtain ⟨b, o, rfl, hb, _, hc⟩ := h1 hp
      have hB := hk b (.inr (.inl ⟨hp, o, rfl⟩))
      refine ⟨b, o, rfl, Nat.lt_of_lt_of_le hb hs.2.2.2, by have := hs.2.2.2; omega, fun j hj i v hv => ?_⟩
      rw [← hc j hj i v hv]
      simp [World.cell?, hB]
    · obtain ⟨l1, l2, l3, l4⟩ := h3 j hj
      refine ⟨l1, l2, l3, fun hp => ?_⟩
      obtain ⟨b, o, e, hb, _, hc⟩ := l4 hp
      have hB := hk b (.inr (.inr ⟨j, hj, hp, o, e⟩))
      refine ⟨b, o, e, Nat.lt_of_lt_of_le hb hs.2.2.2, by have := hs.2.2.2; omega, fun j hj i v hv => ?_⟩
      rw [← hc j hj i v hv]
      simp [World.cell?, hB]
section
variable {b : Nat} {w0 w w' : World} {l t : List Ob} {o o' : Ob}
theorem SW.fuseIm {A : Option Addr} {c : Nat} {rs : List MR} {ms : List Man} (h : SW b w0 (rowOb 33 2 (.slice A ms.length c) ms.length (rs.flatMap encMR) :: msOb rs ms :: l) w) : SW b w0 (imOb A rs ms :: l) w := by
  have hm : (msOb rs ms).holds w := h.get 1 (o := msOb rs ms) rfl
  have hr : w.ownsRow 0 33 2 (.slice A ms.length c) ms.length (rs.flatMap encMR) := h.get 0 rfl
  have hrd : Rd encMR 2 mr0 w w.heap.size A rs := by
    intro hp
    have hx : ∀ g, A = some ⟨g, 0, none⟩ → g < w.heap.size := fun g e => (hr.lt g (by rw [e]; rfl)).2
    rcases hr.2 with ⟨hv, h0⟩ | ⟨g, cap, cur, hv, _⟩
    · have := hm.1
      omega
    · injection hv with e1 e2 e3
      subst e1
      subst e3
      refine ⟨g, 0, rfl, hx g rfl, by have := hx g rfl; omega, fun j hj i v hi => ?_⟩
      have hi2 : i < 2 := by
        have := (List.getElem?_eq_some_iff.1 hi).1
        rwa [encMR_len] at this
      rw [Nat.zero_add, hr.cellAt (j * 2 + i) (by rw [← hm.1]; omega), flat_at encMR_len mr0 rs j i hj hi2]
      exact hi
  refine SW.fuse (pre := [rowOb 33 2 (.slice A ms.length c) ms.length (rs.flatMap encMR), msOb rs ms]) h ⟨hrd, hm.1, hm.2⟩ (fun _ h => h) (fun i hi => ?_)
  rcases hi with ⟨hp, o, e⟩ | hi
  · refine ⟨_, List.mem_cons_self .., .inl ?_⟩
    show (Value.slice A ms.length c).ownBlock = some i
    rw [e]
    rfl
  · exact ⟨msOb rs ms, by simp, .inr hi⟩
theorem rd_src {x : Nat} {A : Option Addr} {ids : List ID} (h : RdID w x A ids) : 0 < ids.length → ∃ ad, A = some ad ∧ ∀ j u, (ids.flatMap encID)[j]? = some u → w.cell? (ad.add j) = some u := fun hp => by
  obtain ⟨q, o, rfl, _, _, _⟩ := h hp
  exact ⟨_, rfl, (Rd.opt encID_len (by omega) h).2 _ rfl⟩
theorem own_slL {e : TypeId} {size n : Nat} {v : Value} {xs : List Value} (h : w.ownsRow 0 e size v n xs) : ∃ A c, v = .slice A n c := by
  rcases h.2 with ⟨hv, h2⟩ | ⟨g, cap, cur, hv, _⟩
  · exact ⟨none, 0, by rw [hv, h2]⟩
  · exact ⟨some ⟨g, 0, none⟩, cap, hv⟩
theorem rd_top {x : Nat} {A : Option Addr} {ids : List ID} (h : RdID w x A ids) : RdID w w.heap.size A ids := fun hp => by
  obtain ⟨q, o, e, hb, _, hc⟩ := h hp
  exact ⟨q, o, e, hb, by omega, hc⟩
end
end Go.Proofs.YtmiknfneeipkeaaGreat
