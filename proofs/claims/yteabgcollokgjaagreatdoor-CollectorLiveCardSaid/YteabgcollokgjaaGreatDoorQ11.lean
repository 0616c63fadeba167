/- MF LV EH SA KJ KK SI in one text. -/
import Derived.Test.YteabgcollokgjaaGreatDoorQ10
import Derived.Test.YteabgcollokgjaaGreatDoorQ01
import Derived.Deep.RegionHeld3
import Derived.Test.YteabgcollokgjaaGreatDoorQ06
import Derived.Test.YteabgcollokgjaaGreatDoorQ07
import Derived.IntWalk
import Derived.Test.YteabgcollokgjaaGreatDoorQ08
import Derived.Deep.AppendLies
set_option linter.unusedSimpArgs false
set_option linter.unusedVariables false
namespace Go.Proofs.YteabgcollokgjaaGreatDoor
open Go.RowKit Go.MapKept Go.ChangeMaps
attribute [local go_sem] wext_cell
theorem putsR_spec (u : List CT) : ∀ {t : List CT}, Asc t → (u.map (·.1)).Nodup → Asc (u.foldl (fun t c => putR t c.1 c.2) t) ∧ ∀ i, asc (u.foldl (fun t c => putR t c.1 c.2) t) i = if i ∈ u.map (·.1) then some (nAt t i + nAt u i) else asc t i := by
 induction u with
 | nil => intro t h _; exact ⟨h, fun i => by simp⟩
 | cons c u ih =>
  intro t h hn
  simp only [List.map_cons, List.nodup_cons] at hn
  have h1 := ih (putR_asc h c.1 c.2) hn.2
  refine ⟨h1.1, fun i => ?_⟩
  rw [List.foldl_cons, h1.2 i]
  have hk : ∀ j, nAt (putR t c.1 c.2) j = if c.1 = j then nAt t j + c.2 else nAt t j := by
   intro j
   conv => lhs; unfold nAt
   rw [asc_putR h]
   split
   · rename_i e; rw [← e]; rfl
   · rfl
  by_cases hi : i ∈ u.map (·.1)
  · rw [if_pos hi, if_pos (by simp only [List.map_cons, List.mem_cons]; exact .inr hi), hk]
    have hne : c.1 ≠ i := fun e => hn.1 (e ▸ hi)
    rw [if_neg hne]
    simp only [nAt, asc, if_neg hne]
  · rw [if_neg hi, asc_putR h]
    by_cases e : c.1 = i
    · subst e
      rw [if_pos rfl, if_pos (by simp)]
      simp [nAt, asc]
    · rw [if_neg e, if_neg]
      simp only [List.map_cons, List.mem_cons]
      rintro (h | h)
      · exact e h.symm
      · exact hi h
theorem asc_some_iff {L : List CT} (hn : (L.map (·.1)).Nodup) (c : CT) : c ∈ L ↔ asc L c.1 = some c.2 := ⟨fun h => asc_mem hn h, fun h => mem_of_asc h⟩
theorem asc_isSome {L : List CT} {i : ID} (h : i ∈ L.map (·.1)) : ∃ n, asc L i = some n := by
 induction L with
 | nil => cases h
 | cons c L ih =>
  rw [asc]
  split
  · exact ⟨_, rfl⟩
  · rename_i e
    rw [List.map_cons, List.mem_cons] at h
    rcases h with h | h
    · exact absurd h.symm e
    · exact ih h
theorem key_of_asc {L : List CT} {i : ID} {n : Int} (h : asc L i = some n) : i ∈ L.map (·.1) := List.mem_map.2 ⟨_, mem_of_asc h, rfl⟩
theorem asc_none_iff {L : List CT} {i : ID} : asc L i = none ↔ i ∉ L.map (·.1) := by
 constructor
 · intro h hm
   obtain ⟨n, e⟩ := asc_isSome hm
   rw [h] at e; cases e
 · intro h
   exact asc_none (fun c hc e => h (e ▸ List.mem_map.2 ⟨c, hc, rfl⟩))
/-- The ascending table of a list of pairs. -/
def tabR (L : List CT) : List CT := L.foldl (fun t c => putR t c.1 c.2) []
theorem tabR_spec {L : List CT} (hn : (L.map (·.1)).Nodup) : Asc (tabR L) ∧ ∀ i, asc (tabR L) i = asc L i := by
 have h := putsR_spec L (t := []) List.Pairwise.nil hn
 refine ⟨h.1, fun i => ?_⟩
 rw [tabR, h.2 i]
 by_cases hi : i ∈ L.map (·.1)
 · obtain ⟨n, e⟩ := asc_isSome hi
   rw [if_pos hi]
   simp [nAt, asc, e]
 · rw [if_neg hi, asc_none_iff.2 hi]
   rfl
/-- Any ascending order of the pairs is this one. -/
theorem tabR_uniq {L T : List CT} (hn : (L.map (·.1)).Nodup) (hp : T.Perm L) (ha : Asc T) : T = tabR L :=
 asc_ext ha (tabR_spec hn).1 (fun i => by rw [(tabR_spec hn).2 i, asc_permM hp hn])
/-- What 'table' answers. -/
def limP (L : List CT) : List CT × Int := if limB L then (tabR L, 0) else ([], 281)
theorem putN_nodup {L : List CT} (h : (L.map (·.1)).Nodup) (i : ID) (n : Int) : ((putN L i n).map (·.1)).Nodup := setL_nodup h _ _
theorem asc_putN (L : List CT) (i j : ID) (n : Int) : asc (putN L i n) j = if i = j then some (nAt L i + n) else asc L j := by unfold putN; rw [asc_setL]
theorem addIDs_spec (l : List ID) : ∀ {L : List CT}, (L.map (·.1)).Nodup → ((addIDs L l).map (·.1)).Nodup ∧ ∀ i, asc (addIDs L l) i = if i ∈ l then some (nAt L i + (l.count i : Nat)) else asc L i := by
 induction l with
 | nil => intro L h; exact ⟨h, fun i => by simp [addIDs]⟩
 | cons a l ih =>
  intro L h
  have h1 := ih (putN_nodup h a 1)
  refine ⟨h1.1, fun i => ?_⟩
  show asc (addIDs (putN L a 1) l) i = _
  rw [h1.2 i, nAt_putN, asc_putN]
  by_cases e : a = i
  · subst e
    simp only [if_true, List.mem_cons, true_or, List.count_cons_self]
    by_cases ha : a ∈ l
    · rw [if_pos ha]; congr 1; push_cast; omega
    · rw [if_neg ha, List.count_eq_zero_of_not_mem ha]; rfl
  · have e' : ¬ i = a := fun h => e h.symm
    have ec : (a :: l).count i = l.count i := by rw [List.count_cons]; simp [e]
    simp only [if_neg e, List.mem_cons, e', false_or, ec]
theorem allR_spec (l : List ID) : ∀ {t : List CT}, Asc t → Asc (allR t l) ∧ ∀ i, asc (allR t l) i = if i ∈ l then some (nAt t i + (l.count i : Nat)) else asc t i := by
 induction l with
 | nil => intro t h; exact ⟨h, fun i => by simp [allR]⟩
 | cons a l ih =>
  intro t h
  have h1 := ih (putR_asc h a 1)
  refine ⟨h1.1, fun i => ?_⟩
  show asc (allR (putR t a 1) l) i = _
  have hk : nAt (putR t a 1) i = if a = i then nAt t i + 1 else nAt t i := by
   conv => lhs; unfold nAt
   rw [asc_putR h]
   split
   · rename_i e; rw [← e]; rfl
   · rfl
  rw [h1.2 i, hk, asc_putR h]
  by_cases e : a = i
  · subst e
    simp only [if_true, List.mem_cons, true_or, List.count_cons_self]
    by_cases ha : a ∈ l
    · rw [if_pos ha]; congr 1; push_cast; omega
    · rw [if_neg ha, List.count_eq_zero_of_not_mem ha]; rfl
  · have e' : ¬ i = a := fun h => e h.symm
    have ec : (a :: l).count i = l.count i := by rw [List.count_cons]; simp [e]
    simp only [if_neg e, List.mem_cons, e', false_or, ec]
/-- The chunks of manifests. -/
def idsOf (ms : List Man) : List ID := ms.flatMap (·.ids)
theorem refsFrom_eq (ms : List Man) : ∀ L, refsFrom L ms = addIDs L (idsOf ms) := by
 induction ms with
 | nil => intro L; rfl
 | cons m ms ih =>
  intro L
  show refsFrom (addIDs L m.ids) ms = _
  rw [ih]
  simp [addIDs, idsOf]
theorem refs_eq (ms : List Man) : refs ms = addIDs [] (idsOf ms) := refsFrom_eq ms []
theorem refs_spec (ms : List Man) : ((refs ms).map (·.1)).Nodup ∧ ∀ i, asc (refs ms) i = if i ∈ idsOf ms then some (((idsOf ms).count i : Nat) : Int) else none := by
 have h := addIDs_spec (idsOf ms) (L := []) (by simp)
 rw [refs_eq]
 refine ⟨h.1, fun i => ?_⟩
 rw [h.2 i]
 simp [nAt, asc]
theorem limB_iff (L : List CT) : limB L = true ↔ L.length ≤ 4096 ∧ ∀ c ∈ L, c.2 ≤ 1073741824 := by simp [limB]
/-- Of. -/
def ofP (ms : List Man) : List CT × Int := if errM ms = 0 then limP (refs ms) else ([], errM ms)
theorem table_two {x : Nat} {L : List CT} {w : World} {e : Ending} {w' : World} (hn : (L.map (·.1)).Nodup) (h : TablePost x L w e w') : TwoC x (limP L) w e w' := by
 obtain ⟨hb, h | h⟩ := h
 · obtain ⟨hl, T, A, c, hp, ha, rfl, hr, hc, _⟩ := h
   have := tabR_uniq hn hp ha
   subst this
   unfold limP
   rw [if_pos hl]
   exact ⟨A, c, rfl, hr, hc, hb⟩
 · obtain ⟨hl, rfl⟩ := h
   exact twoC_err (by unfold limP; rw [if_neg (by rw [hl]; simp)]) hb
theorem TwoC.from {x : Nat} {p : List CT × Int} {w0 w : World} {e : Ending} {w' : World} (hb : Below w0.heap.size w0 w) (h : TwoC x p w e w') : TwoC x p w0 e w' := by
 obtain ⟨A, c, h1, h2, h3, h4⟩ := h
 exact ⟨A, c, h1, h2, h3, hb.trans (h4.mono hb.size)⟩
theorem addIDs_len (l : List ID) : ∀ L : List CT, (addIDs L l).length ≤ L.length + l.length := by
 induction l with
 | nil => intro L; simp [addIDs]
 | cons a l ih =>
  intro L
  have h1 := ih (putN L a 1)
  have h2 : (putN L a 1).length ≤ L.length + 1 := setL_length _ _ _
  have e : addIDs L (a :: l) = addIDs (putN L a 1) l := rfl
  rw [e, List.length_cons]
  omega
theorem idsOf_len {ms : List Man} (h : errM ms = 0) : (idsOf ms).length ≤ 1024 * ms.length := by
 induction ms with
 | nil => simp [idsOf]
 | cons m ms ih =>
  simp only [errM] at h
  split at h
  · rename_i e
    have h1 := ih h
    have h2 := manE_len e
    have : idsOf (m :: ms) = m.ids ++ idsOf ms := by simp [idsOf]
    rw [this, List.length_append, List.length_cons]
    omega
  · rename_i e; exact absurd h e
theorem refs_len {ms : List Man} (h : errM ms = 0) : (refs ms).length ≤ 1024 * ms.length := by
 have h1 := addIDs_len (idsOf ms) []
 have h2 := idsOf_len h
 rw [refs_eq]
 simp only [List.length_nil] at h1
 omega
set_option maxHeartbeats 2000000 in
theorem mOf_any (x : Nat) (ms : List Man) (A : Option Addr) (c : Nat) (w : World) (hr : RdM w x A ms) (hx : x < w.heap.size) (hn : ms.length ≤ 1000000) (hi : ∀ m ∈ ms, m.ids.length ≤ 9223372036854775807) (hok : ∀ m ∈ ms, ∀ i ∈ m.ids, okID i) :
 Calls Tryz.prog 80 #[.slice A ms.length c] w (TwoC x (ofP ms) w) := by
 have Hr := Lib.hid hr
 have Hi := Lib.hid hi
 have Hok := Lib.hid hok
 clear hr hi hok
 obtain ⟨p, Hp⟩ : ∃ p, Hid (ofP ms = p) := ⟨_, rfl⟩
 rw [Hp.out]
 go_enter Tryz.func80, Tryz.ntmps80
 go_wp2_with fail
 refine (references_any x ms A c _ Hr.out hn Hi.out Hok.out).mono ?_
 rintro e w1 ⟨hb1, ⟨hE, b, hb, rfl, hm⟩ | ⟨hE, rfl⟩⟩
 · have hp := Hp.out
   rw [ofP, if_pos hE] at hp
   subst hp
   have hlen := refs_len hE
   have Hb1 := Lib.hid hb1
   have Hm := Lib.hid hm
   have hs1 := hb1.size
   clear hE hb1 hm
   go_wp2_with fail
   refine (table_any x b (refs ms) _ Hm.out (by omega) (by omega)).mono ?_
   intro e w2 h2
   obtain ⟨A2, c2, rfl, hr2, hc2, hb2⟩ := TwoC.from Hb1.out (table_two (refs_spec ms).1 h2)
   have Hr2 := Lib.hid hr2
   have Hb2 := Lib.hid hb2
   clear h2 hr2 hb2
   go_wp2_with fail
   go_ret2
   exact ⟨A2, c2, rfl, Hr2.out, hc2, Hb2.out⟩
 · have hp := Hp.out
   rw [ofP, if_neg hE] at hp
   have Hq := Lib.hid hp.symm
   have hbe : (errM ms != 0) = true := by rw [bne_iff_ne]; exact hE
   have Hb1 := Lib.hid hb1
   clear hE hb1 hp
   go_wp2_with fail
   go_ret2
   exact twoC_err Hq.out Hb1.out
end Go.Proofs.YteabgcollokgjaaGreatDoor
namespace Go.Proofs.YteabgcollokgjaaGreatDoor
open Go.RowKit Go.MapKept Go.ChangeMaps Go.Shelf Go.Sort

section
variable {α : Type} [Inhabited α] {enc : α → List Value} {k : Nat} {d : α}
theorem own_of_holds (hk : ∀ y, (enc y).length = k) {w : World} {base g n cap : Nat} {e : TypeId} {ys : List α} {cur : Array Value} (hb : base ≤ g) (hi : IsB w g e cur) (hc : n ≤ cap) (hm : cap ≤ maxLen) (hs : cur.size = cap * k) (hn : ys.length = n) (hH : HoldsK enc k w g 0 ys.toArray) :
 w.ownsRow base e k (.slice (some ⟨g, 0, none⟩) n cap) n (ys.flatMap enc) := by
 refine ⟨by rw [flat_len hk, hn], .inr ⟨g, cap, cur, rfl, hb, hi, hc, hm, hs, ?_⟩⟩
 have hnk : n * k ≤ cap * k := Nat.mul_le_mul_right _ hc
 refine List.ext_getElem? (fun j => ?_)
 by_cases hj : j < n * k
 · have hk0 : 0 < k := by
    rcases Nat.eq_zero_or_pos k with h | h
    · subst h; simp at hj
    · exact h
   have hq : j / k < ys.length := by rw [Nat.div_lt_iff_lt_mul hk0, hn]; exact hj
   have hm : j % k < k := Nat.mod_lt _ hk0
   have hdm : j / k * k + j % k = j := by rw [Nat.mul_comm]; exact Nat.div_add_mod j k
   have h0 := (hH.cell (i := j / k) (c := j % k) (by simpa using hq) hm).1
   rw [Nat.zero_add, hdm, hi.cell, bang_getD (d := default) ys _ hq] at h0
   have h1 := flat_at hk default ys (j / k) (j % k) hq hm
   rw [hdm] at h1
   have hlt : j % k < (enc (ys.getD (j / k) default)).length := by rw [hk]; exact hm
   rw [List.getElem?_take_of_lt hj, Array.getElem?_toList, h0, h1, List.getElem?_eq_getElem hlt, getElem!_pos (enc (ys.getD (j / k) default)) (j % k) hlt]
 · rw [List.getElem?_eq_none (by simp; omega), List.getElem?_eq_none (by rw [flat_len hk, hn]; omega)]
abbrev SortOwn (enc : α → List Value) (k : Nat) (cf : α → α → Int) (base g n cap : Nat) (e : TypeId) (xs : List α) (w : World) (en : Ending) (w' : World) : Prop :=
 en = .returned (.tuple #[]) ∧ ∃ ys : List α, ys.Perm xs ∧ ys.Pairwise (fun a b => ltOf cf b a = false) ∧ w'.ownsRow base e k (.slice (some ⟨g, 0, none⟩) n cap) n (ys.flatMap enc) ∧ w.grownBy w' (some g)
theorem sort_own (hk : ∀ y, (enc y).length = k) {cf : α → α → Int} {f : FuncId} {base g n cap : Nat} {e : TypeId} {xs : List α} {w : World} {gv : Value} (h : w.ownsRow base e k (.slice (some ⟨g, 0, none⟩) n cap) n (xs.flatMap enc)) (hk0 : 0 < k)
 (hcon : Calls Tryz.prog f #[.slice (some ⟨g, 0, none⟩) xs.toArray.size cap, gv] w fun e w' => e = .returned (.tuple #[]) ∧ ∃ d' m os, PermIn 0 xs.toArray.size xs.toArray d' ∧ SortedIn (ltOf cf) 0 xs.toArray.size d' ∧ w' = sortWorldK enc k w g 0 m d' os) :
 Calls Tryz.prog f #[.slice (some ⟨g, 0, none⟩) n cap, gv] w (SortOwn enc k cf base g n cap e xs w) := by
 have hl := h.1
 rw [flat_len hk] at hl
 have hnx : n = xs.toArray.size := by
  have : xs.length = n := Nat.eq_of_mul_eq_mul_right hk0 hl
  simp [this]
 have hg := h.lt g rfl
 rw [← hnx] at hcon
 refine Calls.mono hcon ?_
 rintro en w' ⟨he, d', m, os, hp, hs, rfl⟩
 obtain ⟨hsz, _, hperm⟩ := hp
 have hsz0 := hsz
 rw [hnx, Array.extract_size, show xs.toArray.size = d'.size from hsz.symm, Array.extract_size] at hperm
 have hH := holdsK_putRowK (enc := enc) (k := k) (Sort.ahead w m) g 0 xs.toArray d' (holdsK_of_own hk hk0 h) hsz
 have hgrow : w.grownBy (sortWorldK enc k w g 0 m d' os) (some g) := by
  refine ⟨rfl, rfl, rfl, by simp [sortWorldK, putRowK], fun j hj hne => ?_⟩
  unfold sortWorldK
  rw [heap_grow_old _ _ (by simpa [putRowK] using hj)]
  have : g ≠ j := fun e => hne (by rw [e])
  simp [putRowK, putRow, mapBlock, Sort.ahead, Array.getElem?_modify, this]
 have hH2 := holdsK_grow (enc := enc) (k := k) _ os _ _ _ (by simpa [putRowK] using hg.2) hH
 have hpm : d'.toList.Perm xs := by simpa using hperm
 obtain ⟨_, hown⟩ := h
 rcases hown with ⟨hv, _⟩ | ⟨g', cap', cur, hv, h0, hh, hc1, hc2, hcs, _⟩
 · cases hv
 · injection hv with e1 e2 e3
   injection e1 with e1
   injection e1 with e1
   subst e1 e3
   have hI : IsB (sortWorldK enc k w g 0 m d' os) g e (putCells id (0) (flatK enc k d') cur) := by
    unfold IsB sortWorldK
    rw [heap_grow_old _ _ (by simpa [putRowK] using hg.2)]
    simp [putRowK, putRow, mapBlock, Sort.ahead, Array.getElem?_modify, hh, onCells]
   refine ⟨he, d'.toList, hpm, ?_, own_of_holds hk h0 hI hc1 hc2 (by simp [putCells, hcs]) (by have := hpm.length_eq; rw [this, hnx]; simp) (by rw [show d'.toList.toArray = d' from by simp]; exact hH2), hgrow⟩
   rw [List.pairwise_iff_getElem]
   intro i j hi hj hij
   have hi' : i < d'.size := by simpa using hi
   have hj' : j < d'.size := by simpa using hj
   have := hs i j (Nat.zero_le _) hij (by omega)
   rw [getElem!_pos d' i hi', getElem!_pos d' j hj'] at this
   simpa using this
end
theorem sortP_any (base g n cap : Nat) (xs : List ID) (w : World) (h : w.ownsRow base 31 2 (.slice (some ⟨g, 0, none⟩) n cap) n (xs.flatMap encID)) (hn : xs.length ≤ 4294967296) :
 Calls Tryz.prog 103 #[.slice (some ⟨g, 0, none⟩) n cap, .func (.func 125) #[] #[]] w (SortOwn encID 2 cmpID base g n cap 31 xs w) := by
 have hg := h.lt g rfl
 have eg : ∀ args w, (callFunc 125 args).run Tryz.prog w = .ok (.enter 125 args) w := enters_of Tryz.func125 (by kernel_rfl) rfl
 exact sort_own encID_len h (by omega) (AnyQ.slices_SortFunc Tryz.lay103 2 Tryz.isAgg31 Tryz.sizeOf31 encID (fun _ => rfl) encID_one cmpID swoID 125 #[] g 0 cap xs.toArray w eg
  (fun _ _ _ _ x y => ccmp_grow x.1 x.2 y.1 y.2 _) (holdsK_of_own encID_len (by omega) h) hg.2 (by simp; omega))
/-- A row of no elements is in order. -/
theorem sortP_none (p : Option Addr) (cap : Nat) (w : World) : Calls Tryz.prog 103 #[.slice p 0 cap, .func (.func 125) #[] #[]] w fun e w' => e = .returned (.tuple #[]) ∧ w' = w :=
 AnyF.slices_SortFunc_none { Tryz.lay103 with } p cap _ w
end Go.Proofs.YteabgcollokgjaaGreatDoor
namespace Go.Proofs.YteabgcollokgjaaGreatDoor
open Go.RowKit

section
variable {P : Program} {ops : Array Oper} {md : Region.Mode} {S : World → Prop} {Q : Exit → Act → World → Prop}

/-- The first n operations, in whatever order, the condition kept; then L. -/
def headH (P : Program) (md : Region.Mode) (ops : Array Oper) (Q : Exit → Act → World → Prop) (S : World → Prop) (n : Nat) (L : Array Bool → Act → World → Prop) : Nat → Array Bool → Act → World → Prop
 | 0, listed, a, w => L listed a w
 | f + 1, listed, a, w => Region.ready md ops listed ≠ [] ∧ ∀ i ∈ Region.ready md ops listed, i < n ∧ wpOp P ops Q i (fun a' w' => S w' ∧ headH P md ops Q S n L f (listed.setIfInBounds i true) a' w') a w

theorem any_of_headH {n g : Nat} {L : Array Bool → Act → World → Prop} (hL : ∀ listed a w, L listed a w → wpAny P md ops Q g listed a w) :
 ∀ (f : Nat) (listed : Array Bool) (a : Act) (w : World), headH P md ops Q S n L f listed a w → wpAny P md ops Q (f + g) listed a w
 | 0, listed, a, w, h => by rw [Nat.zero_add]; exact hL _ _ _ h
 | f + 1, listed, a, w, h => by
  rw [show f + 1 + g = (f + g) + 1 by omega]
  exact ⟨fun h0 => absurd h0 h.1, fun i hi => wpOp_mono (fun a' w' h' => any_of_headH hL f _ a' w' h'.2) (h.2 i hi).2⟩

theorem headH_first {n i : Nat} {oi : Oper} {v : Value} {L : Array Bool → Act → World → Prop} (hi : ops[i]? = some oi) (hsel : ∀ (j : Nat) (o : Oper) cs b, ops[j]? = some o → o.op ≠ .select cs b)
 (hQ : ∀ c a d v w, Q (.panic c) (a.put d v) w → Q (.panic c) a w)
 (hs : Region.sinkB md ops n = true) (hc : Region.chainB md ops n = true) (hn : n < ops.size) (hin : i < n)
 (hdone : ∀ listed a w, L listed a w → ∀ j ∈ Region.ready md ops listed, n ≤ j) :
 ∀ (f : Nat) (listed : Array Bool) (a : Act) (w : World), HeadInv md ops n listed →
  (∀ j oj, ops[j]? = some oj → j ≠ i → listed.getD j true = false → (∀ e ∈ oj.after, Region.binds md e = true → e.on ≠ i) → oi.apart ops oj = true) →
  i ∈ Region.ready md ops listed → YieldsIf P ops S oi v a → S w →
  headH P md ops Q S n L f (listed.setIfInBounds i true) (a.put oi.dst v) w → headH P md ops Q S n L (f + 1) listed a w := by
 have early : ∀ (listed : Array Bool), HeadInv md ops n listed → i ∈ Region.ready md ops listed → ∀ j ∈ Region.ready md ops listed, j < n := by
  intro listed inv hr j hj
  rcases Nat.lt_or_ge j n with h | h
  · exact h
  · exact absurd hj (tail_waits hs hc hn inv _ i rfl hin (mem_ready.1 hr).1 j h)
 intro f
 induction f with
 | zero =>
  intro listed a w inv _ hr hy hS H
  refine ⟨fun h => (by rw [h] at hr; cases hr), fun j hj => ⟨early listed inv hr j hj, ?_⟩⟩
  by_cases hji : j = i
  · subst hji; exact hy.wpOp hi hS ⟨hS, H⟩
  · have h1 := hdone _ _ _ H j (ready_mono hj hji)
    have h2 := early listed inv hr j hj
    omega
 | succ f ih =>
  intro listed a w inv hfree hr hy hS H
  have hun := (mem_ready.1 hr).1
  refine ⟨fun h => (by rw [h] at hr; cases hr), fun j hj => ⟨early listed inv hr j hj, ?_⟩⟩
  by_cases hji : j = i
  · subst hji; exact hy.wpOp hi hS ⟨hS, H⟩
  · have hjn := early listed inv hr j hj
    have h1 := (H.2 j (ready_mono hj hji)).2
    obtain ⟨hjun, oj, hoj, hall⟩ := mem_ready.1 hj
    have hnot : ∀ e ∈ oj.after, Region.binds md e = true → e.on ≠ i := fun e he hb heq => by
     have h1 := hall e he hb
     rw [heq, getD_both hun] at h1
     cases h1
    have h2 := wpOp_putIf hoj (hfree j oj hoj hji hjun hnot) (fun cs b => hsel i oi cs b hi) (fun cs b => hsel j oj cs b hoj) (fun c a w h => hQ c a _ _ w h) hy h1
    have hfree' : ∀ k ok, ops[k]? = some ok → k ≠ i → (listed.setIfInBounds j true).getD k true = false →
     (∀ e ∈ ok.after, Region.binds md e = true → e.on ≠ i) → oi.apart ops ok = true := fun k ok hk hki hun hno => by
     refine hfree k ok hk hki ?_ hno
     by_cases hjk : j = k
     · subst hjk; exact hjun
     · rw [getD_set_ne true hjk] at hun; exact hun
    refine wpOp_mono (fun a' w' h3 => ⟨h3.2.1, ih (listed.setIfInBounds j true) a' w' (inv.set hj hjn) hfree' (ready_mono hr (Ne.symm hji)) h3.1 h3.2.1 ?_⟩) h2
    rw [Array.setIfInBounds_comm _ _ hji]
    exact h3.2.2

/-- The walk: each operation is taken (it yields in every world of the condition) or run (it is the only one that may come up). -/
def wpHeld (P : Program) (ops : Array Oper) (Q : Exit → Act → World → Prop) (S : World → Prop) (T : Act → World → Prop) : List (Bool × Oper) → Act → World → Prop
 | (true, o) :: fs, a, w => ∃ v, YieldsIf P ops S o v a ∧ wpHeld P ops Q S T fs (a.put o.dst v) w
 | (false, o) :: fs, a, w => if Region.wanted o (yielded ops a.tmps) = true then Oper.wp P o a w (fun a' w' => S w' ∧ wpHeld P ops Q S T fs a' w') Q else S w ∧ wpHeld P ops Q S T fs (a.put o.dst undef) w
 | [], a, w => T a w
theorem wpHeld_take {T : Act → World → Prop} {fs : List (Bool × Oper)} {o : Oper} {a : Act} {w : World} {v : Value} (h1 : YieldsIf P ops S o v a) (h2 : wpHeld P ops Q S T fs (a.put o.dst v) w) : wpHeld P ops Q S T ((true, o) :: fs) a w := ⟨v, h1, h2⟩
theorem wpHeld_run {T : Act → World → Prop} {fs : List (Bool × Oper)} {o : Oper} {a : Act} {w : World}
 (h : ∀ K : Act → World → Prop, Shut (∀ a w, S w → wpHeld P ops Q S T fs a w → K a w) → if Region.wanted o (yielded ops a.tmps) = true then Oper.wp P o a w K Q else K (a.put o.dst undef) w) : wpHeld P ops Q S T ((false, o) :: fs) a w :=
 h _ (fun _ _ h1 h2 => ⟨h1, h2⟩)
theorem wpHeld_nil {T : Act → World → Prop} {a : Act} {w : World} (h : T a w) : wpHeld P ops Q S T [] a w := by
 unfold wpHeld
 exact h
instance : Inhabited Oper := ⟨{ dst := none, op := .move (.tmp 0), type := 0, pos := "", after := #[], guard := none }⟩
/-- The operations in the order that is chosen. -/
def picked (l : List Oper) (fs : List (Nat × Bool)) : List (Bool × Oper) := fs.map (fun p => (p.2, l.getD p.1 default))

def heldB (md : Region.Mode) (ops : Array Oper) (n g : Nat) : List (Nat × Bool) → Array Bool → Bool
 | [], listed => Region.seqB md ops g n listed
 | (k, true) :: fs, listed => decide (k < n) && (Region.ready md ops listed).contains k && Region.free md ops listed k && heldB md ops n g fs (listed.setIfInBounds k true)
 | (k, false) :: fs, listed => decide (k < n) && decide (Region.ready md ops listed = [k]) && heldB md ops n g fs (listed.setIfInBounds k true)
def heldTailB (md : Region.Mode) (ops : Array Oper) (fs : List (Nat × Bool)) : Bool :=
 Region.noSelect ops && decide (fs.length < ops.size) && Region.sinkB md ops fs.length && Region.chainB md ops fs.length && heldB md ops fs.length (ops.size - fs.length) fs (Array.replicate ops.size false)

theorem headH_of_held {n g : Nat} {l : List Oper} {T : Act → World → Prop} (hl : ops = l.toArray) (hsel : Region.noSelect ops = true) (hQ : ∀ c a d v w, Q (.panic c) (a.put d v) w → Q (.panic c) a w) (hs : Region.sinkB md ops n = true) (hc : Region.chainB md ops n = true) (hn : n < ops.size) :
 ∀ (fs : List (Nat × Bool)) (listed : Array Bool) (a : Act) (w : World), HeadInv md ops n listed → S w →
 heldB md ops n g fs listed = true → wpHeld P ops Q S T (picked l fs) a w →
 headH P md ops Q S n (fun listed' a' w' => Region.seqB md ops g n listed' = true ∧ T a' w') fs.length listed a w
 | [], listed, a, w, _, _, hB, h => ⟨by simpa [heldB] using hB, by simpa [picked, wpHeld] using h⟩
 | (k, true) :: fs, listed, a, w, inv, hS, hB, h => by
  simp only [heldB, Bool.and_eq_true, decide_eq_true_eq] at hB
  obtain ⟨⟨⟨hkn, hr⟩, hf⟩, hB'⟩ := hB
  have hkl : k < l.length := by rw [hl] at hn; simp at hn; omega
  have h0 : ops[k]? = some (l.getD k default) := by rw [hl]; simp [List.getD_eq_getElem?_getD, hkl]
  have hr' : k ∈ Region.ready md ops listed := by simpa using hr
  obtain ⟨v, hy, hK⟩ : ∃ v, YieldsIf P ops S (l.getD k default) v a ∧ wpHeld P ops Q S T (picked l fs) (a.put (l.getD k default).dst v) w := h
  exact headH_first h0 (Region.noSelect_spec hsel) hQ hs hc hn hkn (fun listed' a' w' hL => seqB_ready hL.1) fs.length listed a w inv (Region.free_spec h0 hf) hr' hy hS
   (headH_of_held hl hsel hQ hs hc hn fs _ _ w (inv.set hr' hkn) hS hB' hK)
 | (k, false) :: fs, listed, a, w, inv, hS, hB, h => by
  simp only [heldB, Bool.and_eq_true, decide_eq_true_eq] at hB
  obtain ⟨⟨hkn, hr⟩, hB'⟩ := hB
  have hkl : k < l.length := by rw [hl] at hn; simp at hn; omega
  have h0 : ops[k]? = some (l.getD k default) := by rw [hl]; simp [List.getD_eq_getElem?_getD, hkl]
  have hr' : k ∈ Region.ready md ops listed := by rw [hr]; simp
  refine ⟨fun h1 => (by rw [hr] at h1; cases h1), fun i hi => ?_⟩
  rw [hr] at hi
  have hik : i = k := by simpa using hi
  subst hik
  refine ⟨hkn, ?_⟩
  have hw : wpOp P ops Q i (fun a' w' => S w' ∧ wpHeld P ops Q S T (picked l fs) a' w') a w := by
   unfold wpOp
   simp only [h0]
   have h2 : if Region.wanted (l.getD i default) (yielded ops a.tmps) = true then Oper.wp P (l.getD i default) a w (fun a' w' => S w' ∧ wpHeld P ops Q S T (picked l fs) a' w') Q else S w ∧ wpHeld P ops Q S T (picked l fs) (a.put (l.getD i default).dst undef) w := h
   by_cases hwt : Region.wanted (l.getD i default) (yielded ops a.tmps) = true
   · rw [if_pos hwt] at h2 ⊢
     exact .inl h2
   · rw [if_neg hwt] at h2 ⊢
     exact h2
  exact wpOp_mono (fun a' w' h' => ⟨h'.1, headH_of_held hl hsel hQ hs hc hn fs _ a' w' (inv.set hr' hkn) h'.1 hB' h'.2⟩) hw

/-- A region whose first operations are taken under a condition or run while it is kept, the others in one order behind them. -/
theorem wp_region_held_tail {id : Nat} {a : Act} {w : World} {l : List Oper} (fs : List (Nat × Bool)) (S : World → Prop) (hm : P.follows .mixedOrders = true) (hQ : ∀ c a d v w, Q (.panic c) (a.put d v) w → Q (.panic c) a w) (hB : heldTailB .any l.toArray fs = true) (hS : S w.drew)
 (h : wpHeld P l.toArray Q S (fun a' w' => wpList P l.toArray Q (l.drop fs.length) a' w') (picked l fs) a w.drew) : (Code.region id l.toArray true).wp P Q a w := by
 simp only [heldTailB, Bool.and_eq_true, decide_eq_true_eq] at hB
 obtain ⟨⟨⟨⟨hsel, hn⟩, hs⟩, hc⟩, hlex⟩ := hB
 have hdl : (l.drop fs.length).length = l.toArray.size - fs.length := by simp
 have inv0 : HeadInv .any l.toArray fs.length (Array.replicate l.toArray.size false) :=
  ⟨by simp, fun j oj _ hl => (by rw [getD_replicate_false] at hl; cases hl), fun t _ ht => getD_in (by simpa using ht) (getD_replicate_false _ _)⟩
 have H := headH_of_held (md := .any) (g := l.toArray.size - fs.length) (l := l) rfl hsel hQ hs hc hn fs _ a w.drew inv0 hS hlex h
 refine wp_region_any hm ?_
 have := any_of_headH (Q := Q) (S := S) (g := l.toArray.size - fs.length) (fun listed a' w' hL => by
  have := wpAny_of_seq (md := .any) (Q' := Q) (l.drop fs.length) fs.length listed a' w' (fun j => by simp [List.getElem?_drop]) (by rw [hdl]; exact hL.1) hL.2
  rwa [hdl] at this) _ _ _ _ H
 rw [show fs.length + (l.toArray.size - fs.length) = l.toArray.size by omega] at this
 exact this
end
end Go.Proofs.YteabgcollokgjaaGreatDoor
namespace Go.Proofs.YteabgcollokgjaaGreatDoor
open Go.RowKit Go.MapKept Go.ChangeMaps

section
variable {b : Nat} {w : World} {x : SR} {l : List Ob}
end
end Go.Proofs.YteabgcollokgjaaGreatDoor
namespace Go.Proofs.YteabgcollokgjaaGreatDoor
open Go.RowKit Go.Shelf Go.Sort
attribute [local go_sem] wext_cell

abbrev id0 : ID := (0, 0)
/-- Block g has the IDs l at its head. -/
def RowI (w : World) (g : Nat) (l : List ID) : Prop := ∃ cur, IsB w g 31 cur ∧ l.length * 2 ≤ cur.size ∧ ∀ j, j < l.length → cur[j * 2]? = some (.int .u64 (l.getD j id0).1) ∧ cur[j * 2 + 1]? = some (.int .i64 (l.getD j id0).2)
theorem RowI.on {w w' : World} {g : Nat} {l : List ID} (h : RowI w g l) (hb : Below w.heap.size w w') : RowI w' g l := by
 obtain ⟨cur, h1, h2⟩ := h
 exact ⟨cur, h1.on hb, h2⟩
theorem RowI.cells {w : World} {g : Nat} {l : List ID} (h : RowI w g l) {j : Nat} (hj : j < l.length) {x : ID} (hx : l.getD j id0 = x) : w.cell? ⟨g, j * 2, none⟩ = some (.int .u64 x.1) ∧ w.cell? ⟨g, j * 2 + 1, none⟩ = some (.int .i64 x.2) ∧ w.frozen? ⟨g, j * 2, none⟩ = false ∧ w.frozen? ⟨g, j * 2 + 1, none⟩ = false := by
 obtain ⟨cur, h1, h2, h3⟩ := h
 subst hx
 exact ⟨(h1.cell _).trans (h3 j hj).1, (h1.cell _).trans (h3 j hj).2, h1.frozen _, h1.frozen _⟩
theorem RowI.put {w : World} {g : Nat} {l : List ID} (h : RowI w g l) (k : Nat) (hk : k < l.length) (x : ID) : RowI ((w.setCell ⟨g, k * 2, none⟩ (.int .u64 x.1)).setCell ⟨g, k * 2 + 1, none⟩ (.int .i64 x.2)) g (l.set k x) := by
 obtain ⟨cur, h1, h2, h3⟩ := h
 refine ⟨_, (h1.set_ (k * 2) (.int .u64 x.1)).set_ (k * 2 + 1) (.int .i64 x.2), by simp; omega, fun j hj => ?_⟩
 simp only [List.length_set] at hj
 obtain ⟨c0, c1⟩ := h3 j hj
 by_cases e : k = j
 · subst e
   have e1 : (l.set k x).getD k id0 = x := by rw [List.getD_eq_getElem?_getD, List.getElem?_set_self hk]; rfl
   rw [e1]
   refine ⟨?_, ?_⟩
   · rw [Array.getElem?_setIfInBounds_ne (by omega), Array.getElem?_setIfInBounds_self_of_lt (by omega)]
   · rw [Array.getElem?_setIfInBounds_self_of_lt (by simp; omega)]
 · have e1 : (l.set k x).getD j id0 = l.getD j id0 := by rw [List.getD_eq_getElem?_getD, List.getElem?_set_ne e, List.getD_eq_getElem?_getD]
   rw [e1]
   refine ⟨?_, ?_⟩
   · rw [Array.getElem?_setIfInBounds_ne (by omega), Array.getElem?_setIfInBounds_ne (by omega)]; exact c0
   · rw [Array.getElem?_setIfInBounds_ne (by omega), Array.getElem?_setIfInBounds_ne (by omega)]; exact c1
theorem asc_any (x y : ID) (w : World) : Calls Tryz.prog 104 #[.agg #[], .agg #[.int .u64 x.1, .int .i64 x.2], .agg #[.int .u64 y.1, .int .i64 y.2]] w fun e w' => e = .returned (.int .i64 (cmpID x y)) ∧ Below w.heap.size w w' :=
 (asc_grow x.1 x.2 y.1 y.2 w).mono fun _ _ ⟨he, q, os, hw⟩ => ⟨he, hw ▸ below_grow w q os⟩
/-- The order that the sort leaves. -/
def SortedI (l : List ID) : Prop := l.Pairwise (fun a b => ltID b a = false)
/-- The row while x goes down: ahead of it the first j of S. -/
def midI (S R : List ID) (x : ID) (j : Nat) : List ID := S.take j ++ x :: (S.drop j ++ R)
theorem midI_append (S R : List ID) (x : ID) (j : Nat) : midI S R x j = (S.take j ++ x :: S.drop j) ++ R := by
 unfold midI
 rw [List.append_assoc, List.cons_append]
theorem midI_swap {S R : List ID} {x y : ID} {m : Nat} (hm : m < S.length) (hy : S.getD m id0 = y) : ((midI S R x (m + 1)).set (m + 1) y).set m x = midI S R x m := by
 have hd : S.drop m = y :: S.drop (m + 1) := by
  rw [List.drop_eq_getElem_cons hm, ← hy, List.getD_eq_getElem?_getD, List.getElem?_eq_getElem hm]
  rfl
 have ht : S.take (m + 1) = S.take m ++ [y] := by
  rw [List.take_succ_eq_append_getElem hm, ← hy, List.getD_eq_getElem?_getD, List.getElem?_eq_getElem hm]
  rfl
 have hl : (S.take m).length = m := by rw [List.length_take]; omega
 unfold midI
 rw [ht, hd, List.append_assoc, List.set_append_right _ _ (by omega), hl, show m + 1 - m = 1 by omega]
 simp only [List.cons_append, List.nil_append, List.set_cons_succ, List.set_cons_zero]
 rw [List.set_append_right _ _ (by omega), hl, Nat.sub_self]
 simp
theorem ltID_trans {a b c : ID} (h : ltID b a = false) (k : ltID c b = false) : ltID c a = false := by
 simp only [ltID, decide_eq_false_iff_not] at *
 omega
theorem ltID_asym {a b : ID} (h : ltID a b = true) : ltID b a = false := by
 simp only [ltID, decide_eq_true_eq, decide_eq_false_iff_not] at *
 omega
/-- Where x comes to rest the row is in order. -/
theorem SortedI.ins {S : List ID} {x : ID} {j : Nat} (h : SortedI S) (hjS : j ≤ S.length) (hj : ∀ y ∈ S.drop j, ltID x y = true) (hl : ∀ m, j = m + 1 → ltID x (S.getD m id0) = false) : SortedI (S.take j ++ x :: S.drop j) := by
 unfold SortedI at *
 have h' := h
 rw [← List.take_append_drop j S, List.pairwise_append] at h'
 obtain ⟨h1, h2, h3⟩ := h'
 have hx : ∀ a ∈ S.take j, ltID x a = false := by
  intro a ha
  cases j with
  | zero => simp at ha
  | succ m =>
   have hm : m < S.length := by omega
   have e1 := hl m rfl
   have ht : S.take (m + 1) = S.take m ++ [S.getD m id0] := by
    rw [List.take_succ_eq_append_getElem hm, List.getD_eq_getElem?_getD, List.getElem?_eq_getElem hm]
    rfl
   rw [ht] at ha h1
   rcases List.mem_append.1 ha with ha | ha
   · exact ltID_trans ((List.pairwise_append.1 h1).2.2 a ha _ (by simp)) e1
   · simp at ha
     rw [ha]
     exact e1
 refine List.pairwise_append.2 ⟨h1, List.pairwise_cons.2 ⟨fun b hb => ltID_asym (hj b hb), h2⟩, fun a ha b hb => ?_⟩
 rcases List.mem_cons.1 hb with rfl | hb
 · exact hx a ha
 · exact h3 a ha b hb
abbrev vAsc : Value := .func (.func 104) #[.agg #[]] #[]
theorem mid_perm {S xs : List ID} {x : ID} {i : Nat} (hp : S.Perm (xs.take i)) (hd : xs.drop i = x :: xs.drop (i + 1)) (j : Nat) : (S.take j ++ x :: S.drop j).Perm (xs.take (i + 1)) := by
 have hlt : i < xs.length := by
  rcases Nat.lt_or_ge i xs.length with h | h
  · exact h
  · rw [List.drop_of_length_le h] at hd
    cases hd
 have hx : xs.take (i + 1) = xs.take i ++ [x] := by
  rw [List.take_succ_eq_append_getElem hlt]
  rw [List.drop_eq_getElem_cons hlt] at hd
  injection hd with h1 _
  rw [h1]
 rw [hx]
 refine (List.perm_middle).trans ?_
 rw [List.take_append_drop]
 exact ((hp.cons x).trans (List.perm_append_singleton x _).symm)
set_option maxRecDepth 100000 in
set_option maxHeartbeats 4000000 in
theorem insI_any (g c : Nat) (xs : List ID) (w : World) (h : RowI w g xs) (hn : xs.length ≤ 1000) (hg : g < w.heap.size) :
 Calls Tryz.prog 202 #[.slice (some ⟨g, 0, none⟩) xs.length c, .int .i64 0, .int .i64 xs.length, vAsc] w (fun e w' => e = .returned (.tuple #[]) ∧ (∃ ys, ys.Perm xs ∧ SortedI ys ∧ RowI w' g ys) ∧ w.grownBy w' (some g)) := by
 have H := Lib.hid h
 clear h
 go_enter Tryz.func202, Tryz.ntmps202
 go_wp2_with fail
 go_loopw [8] (fun v wr => ∃ (i : Nat) (S : List ID), 1 ≤ i ∧ i ≤ max xs.length 1 ∧ v = .int .i64 i ∧ Hid (S.length = min i xs.length) ∧ SortedI S ∧ S.Perm (xs.take i) ∧ RowI wr g (S ++ xs.drop i) ∧ w.grownBy wr (some g)) (fun v _ => xs.length - (intOf v).toNat)
 case atStart =>
  refine ⟨1, xs.take 1, by omega, by omega, rfl, by simp [Hid], ?_, List.Perm.refl _, by rw [List.take_append_drop]; exact H.out, g_refl _ _⟩
  unfold SortedI
  cases xs with
  | nil => simp
  | cons a l => simp
 case round =>
  obtain ⟨i, S, hi1, hi2, rfl, HL, hs, hp, hr, hgr⟩ := hrel
  have HS := Lib.hid hs
  have HP := Lib.hid hp
  have HR := Lib.hid hr
  have HG := Lib.hid hgr
  clear hs hp hr hgr
  by_cases hlt : i < xs.length
  · go_wp2_with fail
    have hSl : S.length = i := by rw [HL.out]; omega
    obtain ⟨x, HX⟩ : ∃ x, Hid (xs.getD i id0 = x) := ⟨_, rfl⟩
    have hdrop : xs.drop i = x :: xs.drop (i + 1) := by
     rw [List.drop_eq_getElem_cons hlt, ← HX.out, List.getD_eq_getElem?_getD, List.getElem?_eq_getElem hlt]
     rfl
    have HD := Lib.hid hdrop
    have M0 : Hid (RowI wr g (midI S (xs.drop (i + 1)) x i)) := by
     rw [Hid, midI, ← hSl, List.take_length, List.drop_length, List.nil_append, hSl, ← hdrop]
     exact HR.out
    have HSl := Lib.hid hSl
    clear hdrop hSl HL
    go_loopw [9] (fun v wq => ∃ j : Nat, j ≤ i ∧ v = .int .i64 j ∧ RowI wq g (midI S (xs.drop (i + 1)) x j) ∧ (∀ y ∈ S.drop j, ltID x y = true) ∧ w.grownBy wq (some g)) (fun v _ => (intOf v).toNat)
    case atStart => exact ⟨i, Nat.le_refl _, rfl, M0.out, (by rw [← HSl.out, List.drop_length]; simp), HG.out⟩
    case round =>
     rename World => wq
     obtain ⟨j, hj, rfl, hr, hlts, hgr⟩ := hrel
     have RQ := Lib.hid hr
     have LQ := Lib.hid hlts
     have GQ := Lib.hid hgr
     clear hr hlts hgr
     have hgq : g < wq.heap.size := Nat.lt_of_lt_of_le hg GQ.out.size
     by_cases hj0 : j = 0
     · have hjf : decide (0 < j) = false := by simp [hj0]
       have HJ0 := Lib.hid hj0
       clear hj0
       go_wp2_with fail
       go_quiet (fail)
       go_wp2_with fail
       go_roundw
       case rel =>
        have hj0 := HJ0.out
        subst hj0
        refine ⟨i + 1, S.take 0 ++ x :: S.drop 0, by omega, by omega, by go_num, ?_, HS.out.ins (by omega) LQ.out (fun m e => by omega), ?_, ?_, g_drewN GQ.out _⟩
        · rw [Hid]; simp [HSl.out]; omega
        · exact mid_perm HP.out HD.out 0
        · have := RQ.out
          rw [midI_append] at this
          exact this
       case measure => simp [intOf]; omega
     · obtain ⟨m, rfl⟩ : ∃ m, j = m + 1 := ⟨j - 1, by omega⟩
       clear hj0
       obtain ⟨y, HY⟩ : ∃ y, Hid (S.getD m id0 = y) := ⟨_, rfl⟩
       have hml : (midI S (xs.drop (i + 1)) x (m + 1)).length = xs.length := by
        unfold midI
        simp only [List.length_append, List.length_take, List.length_cons, List.length_drop]
        have := HSl.out
        omega
       have g1 : (midI S (xs.drop (i + 1)) x (m + 1)).getD (m + 1) id0 = x := by
        unfold midI
        rw [List.getD_eq_getElem?_getD, List.getElem?_append_right (by rw [List.length_take]; omega), List.length_take, show m + 1 - min (m + 1) S.length = 0 by have := HSl.out; omega]
        rfl
       have g0 : (midI S (xs.drop (i + 1)) x (m + 1)).getD m id0 = y := by
        unfold midI
        rw [List.getD_eq_getElem?_getD, List.getElem?_append_left (by rw [List.length_take]; have := HSl.out; omega), List.getElem?_take_of_lt (by omega), ← List.getD_eq_getElem?_getD]
        exact HY.out
       obtain ⟨a0, a1, a2, a3⟩ := RQ.out.cells (j := m + 1) (by omega) g1
       obtain ⟨b0, b1, b2, b3⟩ := RQ.out.cells (j := m) (by omega) g0
       have ML := Lib.hid hml
       have G1x := Lib.hid g1
       have G0x := Lib.hid g0
       clear hml g1 g0
       by_cases hc : ltID x y = true
       · have hcm : decide (cmpID x y < 0) = true := by simpa using cmpID_lt hc
         have HC := Lib.hid hc
         clear hc
         go_wp2_with fail
         refine wp_region_ext (by kernel_rfl) (by kernel_rfl) ?_
         repeat (go_big_quiet_step ((go_at_call 104; exact ext_call (asc_any x y _))))
         refine wpQuiet_nil ?_
         intro w1 hb1
         have R1 : Hid (RowI w1 g (midI S (xs.drop (i + 1)) x (m + 1))) := RQ.out.on hb1
         have G1 : Hid (w.grownBy w1 (some g)) := g_below GQ.out hb1
         clear a0 a1 a2 a3 b0 b1 b2 b3 hcm
         obtain ⟨a0, a1, a2, a3⟩ := R1.out.cells (j := m + 1) (by rw [ML.out]; omega) G1x.out
         obtain ⟨b0, b1, b2, b3⟩ := R1.out.cells (j := m) (by rw [ML.out]; omega) G0x.out
         clear hb1
         go_wp2_with fail
         go_region
         go_wp2_with fail
         go_roundw
         case rel =>
          have hSl := HSl.out
          have P1 := R1.out.put (m + 1) (by rw [ML.out]; omega) y
          have P2 := P1.put m (by rw [List.length_set, ML.out]; omega) x
          rw [midI_swap (by omega) HY.out] at P2
          refine ⟨m, by omega, by go_num, P2, fun z hz => ?_, ?_⟩
          · have hd : S.drop m = y :: S.drop (m + 1) := by
             rw [List.drop_eq_getElem_cons (by omega), ← HY.out, List.getD_eq_getElem?_getD, List.getElem?_eq_getElem (by omega)]
             rfl
            rw [hd] at hz
            rcases List.mem_cons.1 hz with rfl | hz
            · exact HC.out
            · exact LQ.out z hz
          · have hgg := g_set (p := ⟨g, m * 2 + 1, none⟩) (g_set (p := ⟨g, m * 2, none⟩) (g_set (p := ⟨g, (m + 1) * 2 + 1, none⟩) (g_set (p := ⟨g, (m + 1) * 2, none⟩) G1.out (.inl rfl) (.int .u64 y.1)) (.inl rfl) (.int .i64 y.2)) (.inl rfl) (.int .u64 x.1)) (.inl rfl) (.int .i64 x.2)
            exact ⟨hgg.os, hgg.tape, hgg.output, hgg.size, hgg.block⟩
         case measure => simp [intOf]
       · have hcf : ltID x y = false := by simpa using hc
         have hcm : decide (cmpID x y < 0) = false := by simpa using cmpID_ge hcf
         have HC := Lib.hid hcf
         clear hc hcf
         go_wp2_with fail
         refine wp_region_ext (by kernel_rfl) (by kernel_rfl) ?_
         repeat (go_big_quiet_step ((go_at_call 104; exact ext_call (asc_any x y _))))
         refine wpQuiet_nil ?_
         intro w1 hb1
         have R1 : Hid (RowI w1 g (midI S (xs.drop (i + 1)) x (m + 1))) := RQ.out.on hb1
         have G1 : Hid (w.grownBy w1 (some g)) := g_below GQ.out hb1
         clear a0 a1 a2 a3 b0 b1 b2 b3 hcm hb1
         go_wp2_with fail
         go_roundw
         case rel =>
          have hSl := HSl.out
          refine ⟨i + 1, S.take (m + 1) ++ x :: S.drop (m + 1), by omega, by omega, by go_num, ?_, HS.out.ins (by omega) LQ.out (fun m' e => ?_), ?_, ?_, G1.out⟩
          · rw [Hid]; simp [hSl]; omega
          · obtain rfl : m = m' := by omega
            rw [HY.out]
            exact HC.out
          · exact mid_perm HP.out HD.out (m + 1)
          · have := R1.out
            rw [midI_append] at this
            exact this
         case measure => simp [intOf]; omega
  · go_wp2_with fail
    go_end0
    refine ⟨rfl, ⟨S, ?_, HS.out, ?_⟩, HG.out⟩
    · have := HP.out
      rwa [List.take_of_length_le (by omega)] at this
    · have := HR.out
      rwa [List.drop_of_length_le (by omega), List.append_nil] at this
end Go.Proofs.YteabgcollokgjaaGreatDoor
namespace Go.Proofs.YteabgcollokgjaaGreatDoor
open Go.RowKit Go.Shelf Go.Sort

theorem bits_len_any (n : Nat) (w : World) (hn : n ≤ 1000) : Calls Tryz.prog 151 #[.int .u64 (n : Int)] w fun e w' => (∃ k : Int, e = .returned (.int .i64 k)) ∧ w = w' :=
 (Tryz.bits_Len n w (by omega) (by omega)).mono fun _ _ h => ⟨⟨_, h.1⟩, h.2.symm⟩
set_option maxRecDepth 100000 in
set_option maxHeartbeats 4000000 in
theorem pdqI_any (g c : Nat) (xs : List ID) (k : Int) (w : World) (h : RowI w g xs) (hn : xs.length ≤ 12) (hg : g < w.heap.size) :
 Calls Tryz.prog 156 #[.slice (some ⟨g, 0, none⟩) xs.length c, .int .i64 0, .int .i64 xs.length, .int .i64 k, vAsc] w (fun e w' => e = .returned (.tuple #[]) ∧ (∃ ys, ys.Perm xs ∧ SortedI ys ∧ RowI w' g ys) ∧ w.grownBy w' (some g)) := by
 have H := Lib.hid h
 clear h
 go_enter Tryz.func156, Tryz.ntmps156
 go_wp2_with fail
 refine wp_loop_rounds 1 ?_
 rw [rounds_succ]
 go_wp2_with (go_at_call 202; refine (insI_any g c xs w H.out (by omega) hg).mono ?_; rintro e w1 ⟨rfl, hy, hgr⟩; have HY := Lib.hid hy; have HG := Lib.hid hgr; clear hy hgr)
 refine bodyPost_ret (v := .tuple #[]) (results_none rfl _ _ _) rfl ?_
 exact ⟨rfl, HY.out, HG.out⟩
set_option maxRecDepth 100000 in
set_option maxHeartbeats 4000000 in
theorem sortI_any (g c : Nat) (xs : List ID) (w : World) (h : RowI w g xs) (hn : xs.length ≤ 12) (hg : g < w.heap.size) :
 Calls Tryz.prog 103 #[.slice (some ⟨g, 0, none⟩) xs.length c, vAsc] w (fun e w' => e = .returned (.tuple #[]) ∧ (∃ ys, ys.Perm xs ∧ SortedI ys ∧ RowI w' g ys) ∧ w.grownBy w' (some g)) := by
 have H := Lib.hid h
 clear h
 go_enter Tryz.func103, Tryz.ntmps103
 go_wp2_with (first | (go_at_call 151; refine (bits_len_any xs.length _ (by omega)).mono ?_; rintro e w1 ⟨⟨k, rfl⟩, rfl⟩) | (go_at_call 156; refine (pdqI_any g c xs _ w H.out hn hg).mono ?_; rintro e w1 ⟨rfl, hy, hgr⟩; have HY := Lib.hid hy; have HG := Lib.hid hgr; clear hy hgr))
 go_end0
 exact ⟨rfl, HY.out, HG.out⟩
end Go.Proofs.YteabgcollokgjaaGreatDoor
namespace Go.Proofs.YteabgcollokgjaaGreatDoor
open Go.RowKit Go.MapKept Go.ChangeMaps Go.Shelf

set_option maxRecDepth 100000 in
set_option maxHeartbeats 1000000 in
theorem insN_any (w : World) : Calls Tryz.prog 202 #[.slice none 0 0, .int .i64 0, .int .i64 0, vAsc] w (fun e w' => e = .returned (.tuple #[]) ∧ w = w') := by
 go_enter Tryz.func202, Tryz.ntmps202
 go_wp2_with fail
 refine wp_loop_rounds 1 ?_
 rw [rounds_succ]
 go_wp2_with fail
 go_end0
 exact ⟨rfl, rfl⟩
set_option maxRecDepth 100000 in
set_option maxHeartbeats 1000000 in
theorem pdqN_any (k : Int) (w : World) : Calls Tryz.prog 156 #[.slice none 0 0, .int .i64 0, .int .i64 0, .int .i64 k, vAsc] w (fun e w' => e = .returned (.tuple #[]) ∧ w = w') := by
 go_enter Tryz.func156, Tryz.ntmps156
 go_wp2_with fail
 refine wp_loop_rounds 1 ?_
 rw [rounds_succ]
 go_wp2_with (go_at_call 202; refine (insN_any _).mono ?_; rintro e w1 ⟨rfl, rfl⟩)
 refine bodyPost_ret (v := .tuple #[]) (results_none rfl _ _ _) rfl ?_
 exact ⟨rfl, rfl⟩
set_option maxRecDepth 100000 in
set_option maxHeartbeats 1000000 in
theorem sortN_any (w : World) : Calls Tryz.prog 103 #[.slice none 0 0, vAsc] w (fun e w' => e = .returned (.tuple #[]) ∧ w = w') := by
 go_enter Tryz.func103, Tryz.ntmps103
 go_wp2_with (first | (go_at_call 151; refine (bits_len_any 0 _ (by omega)).mono ?_; rintro e w1 ⟨⟨k, rfl⟩, rfl⟩) | (go_at_call 156; refine (pdqN_any _ _).mono ?_; rintro e w1 ⟨rfl, rfl⟩))
 go_end0
 exact ⟨rfl, rfl⟩
end Go.Proofs.YteabgcollokgjaaGreatDoor
