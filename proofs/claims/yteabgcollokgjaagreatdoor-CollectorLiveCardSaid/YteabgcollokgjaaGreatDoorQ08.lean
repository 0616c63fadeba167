/- KI MA MB in one text. -/
import Derived.Test.YteabgcollokgjaaGreatDoorQ07
import Derived.Test.YteabgcollokgjaaGreatDoorQ01
import Derived.Test.YteabgcollokgjaaGreatDoorQ06
import Derived.Test.YteabgcollokgjaaGreatDoorQ02
import Derived.RegionTactic
import Derived.ChangeAlike
import Derived.IntWalk
set_option linter.unusedSimpArgs false
set_option linter.unusedVariables false
namespace Go.Proofs.YteabgcollokgjaaGreatDoor
open Go.RowKit Go.Shelf Go.Sort
attribute [local go_sem] wext_cell

section
variable {α : Type} [Inhabited α] {enc : α → List Value} {k : Nat} {d : α}
theorem bang_getD (xs : List α) (j : Nat) (hj : j < xs.length) : xs.toArray[j]! = xs.getD j d := by
 rw [List.getElem!_toArray, List.getD_eq_getElem?_getD, List.getElem?_eq_getElem hj, getElem!_pos xs j hj]
 rfl
theorem holdsK_of_own (hk : ∀ y, (enc y).length = k) (hk0 : 0 < k) {w : World} {base g n cap : Nat} {e : TypeId} {xs : List α} (h : w.ownsRow base e k (.slice (some ⟨g, 0, none⟩) n cap) n (xs.flatMap enc)) : HoldsK enc k w g 0 xs.toArray := by
 have hl := h.1
 rw [flat_len hk] at hl
 intro j hj
 rw [size_flatK] at hj
 have hj' : j < xs.length * k := by simpa using hj
 refine ⟨?_, h.frozenAt _⟩
 have hq : j / k < xs.length := by rw [Nat.div_lt_iff_lt_mul hk0]; exact hj'
 have hm : j % k < k := Nat.mod_lt _ hk0
 have hdm : j / k * k + j % k = j := by rw [Nat.mul_comm]; exact Nat.div_add_mod j k
 rw [get_flatK _ _ _ _ hj, Nat.zero_add, h.cellAt j (by omega), bang_getD (d := default) xs _ hq]
 have h1 := flat_at hk default xs (j / k) (j % k) hq hm
 rw [hdm] at h1
 rw [h1]
 have hlt : j % k < (enc (xs.getD (j / k) default)).length := by rw [hk]; exact hm
 rw [List.getElem?_eq_getElem hlt, getElem!_pos (enc (xs.getD (j / k) default)) (j % k) hlt]
 rfl
theorem Rd.of_holds (hk : ∀ y, (enc y).length = k) {w : World} {g x : Nat} {xs : List α} (h : HoldsK enc k w g 0 xs.toArray) (hg : g < w.heap.size) (hx : g ≠ x) : Rd enc k d w x (some ⟨g, 0, none⟩) xs := by
 intro _
 refine ⟨g, 0, rfl, hg, hx, fun j hj i v hi => ?_⟩
 have hik : i < k := by
  have := (List.getElem?_eq_some_iff.1 hi).1
  rwa [hk] at this
 have h0 := (h.cell (i := j) (c := i) (by simpa using hj) hik).1
 rw [bang_getD (d := d) xs j hj] at h0
 have hlt := (List.getElem?_eq_some_iff.1 hi).1
 rw [getElem!_pos (enc (xs.getD j d)) i hlt] at h0
 rw [h0, ← hi, List.getElem?_eq_getElem hlt]

def SortPost (enc : α → List Value) (k : Nat) (d : α) (cf : α → α → Int) (base g x : Nat) (xs : List α) (w : World) (e : Ending) (w' : World) : Prop :=
 e = .returned (.tuple #[]) ∧ (∃ ys, ys.Perm xs ∧ ys.Pairwise (fun a b => ltOf cf b a = false) ∧ Rd enc k d w' x (some ⟨g, 0, none⟩) ys) ∧ Below base w w'

theorem sort_post (hk : ∀ y, (enc y).length = k) {cf : α → α → Int} {f : FuncId} {base g n cap x : Nat} {e : TypeId} {xs : List α} {w : World} {gv : Value} (h : w.ownsRow base e k (.slice (some ⟨g, 0, none⟩) n cap) n (xs.flatMap enc)) (hk0 : 0 < k) (hx : x < base)
 (hcon : Calls Tryz.prog f #[.slice (some ⟨g, 0, none⟩) xs.toArray.size cap, gv] w fun e w' => e = .returned (.tuple #[]) ∧ ∃ d' m os, PermIn 0 xs.toArray.size xs.toArray d' ∧ SortedIn (ltOf cf) 0 xs.toArray.size d' ∧ w' = sortWorldK enc k w g 0 m d' os) :
 Calls Tryz.prog f #[.slice (some ⟨g, 0, none⟩) n cap, gv] w (SortPost enc k d cf base g x xs w) := by
 have hl := h.1
 rw [flat_len hk] at hl
 have hnx : n = xs.toArray.size := by
  have : xs.length = n := Nat.eq_of_mul_eq_mul_right hk0 hl
  simp [this]
 have hg := h.lt g rfl
 rw [← hnx] at hcon
 refine Calls.mono hcon ?_
 rintro e w' ⟨he, d', m, os, hp, hs, rfl⟩
 obtain ⟨hsz, _, hperm⟩ := hp
 rw [hnx, Array.extract_size, show xs.toArray.size = d'.size from hsz.symm, Array.extract_size] at hperm
 have hH := holdsK_putRowK (enc := enc) (k := k) (Sort.ahead w m) g 0 xs.toArray d' (holdsK_of_own hk hk0 h) hsz
 have hgrow : w.grownBy (sortWorldK enc k w g 0 m d' os) (some g) := by
  refine ⟨rfl, rfl, rfl, by simp [sortWorldK, putRowK], fun j hj hne => ?_⟩
  unfold sortWorldK
  rw [heap_grow_old _ _ (by simpa [putRowK] using hj)]
  have : g ≠ j := fun e => hne (by rw [e])
  simp [putRowK, putRow, mapBlock, Sort.ahead, Array.getElem?_modify, this]
 have hg2 : g < (sortWorldK enc k w g 0 m d' os).heap.size := Nat.lt_of_lt_of_le hg.2 hgrow.size
 refine ⟨he, ⟨d'.toList, by simpa using hperm, ?_, Rd.of_holds hk ?_ hg2 (by omega)⟩, (Below.refl _ _).grown hgrow (by omega) (fun q hq => by cases hq; exact hg.1)⟩
 · rw [List.pairwise_iff_getElem]
   intro i j hi hj hij
   have hi' : i < d'.size := by simpa using hi
   have hj' : j < d'.size := by simpa using hj
   have := hs i j (Nat.zero_le _) hij (by omega)
   rw [getElem!_pos d' i hi', getElem!_pos d' j hj'] at this
   simpa using this
 · exact holdsK_grow (enc := enc) (k := k) _ _ _ _ _ (by simpa [putRowK] using hg.2) hH
end


end Go.Proofs.YteabgcollokgjaaGreatDoor
namespace Go.Proofs.YteabgcollokgjaaGreatDoor
open Go.RowKit
attribute [local go_sem] wext_cell
def sumZ (l : List ID) : Int := (l.map (·.2)).sum
theorem sumZ_snoc (l : List ID) (i : ID) : sumZ (l ++ [i]) = sumZ l + i.2 := by simp [sumZ]
/-- A manifest of few chunks. -/
structure Man where
 size : Int
 ids : List ID
/-- A manifest as it lies in memory: its size; the slice of its chunks. -/
structure MR where
 size : Int
 A : Option Addr
 len : Nat
 cap : Nat
def encMR (r : MR) : List Value := [.int .i64 r.size, .slice r.A r.len r.cap]
def mr0 : MR := ⟨0, none, 0, 0⟩
def man0 : Man := ⟨0, []⟩
theorem encMR_len (r : MR) : (encMR r).length = 2 := rfl
theorem encMR_one (r : MR) : ∀ u ∈ encMR r, u.oneCell' = true := by
 intro u hu
 simp [encMR] at hu
 rcases hu with rfl | rfl <;> rfl
/-- r is m. -/
def Link (w : World) (x : Nat) (r : MR) (m : Man) : Prop := r.size = m.size ∧ r.len = m.ids.length ∧ r.len ≤ r.cap ∧ RdID w x r.A m.ids
/-- The slice value '.slice A ms.length c' holds the manifests ms. -/
def RdM (w : World) (x : Nat) (A : Option Addr) (ms : List Man) : Prop :=
 ∃ rs : List MR, Rd encMR 2 mr0 w x A rs ∧ rs.length = ms.length ∧ ∀ j, j < ms.length → Link w x (rs.getD j mr0) (ms.getD j man0)
theorem info89 : (Tryz.prog.info? 89).map (fun i => (i.zero, i.size, i.bytes)) = some (some (.agg #[.int .i64 0, .slice none 0 0]), 2, 32) := by kernel_rfl
theorem getD_snoc_lt {α : Type} (l : List α) (y d : α) (j : Nat) (h : j < l.length) : (l ++ [y]).getD j d = l.getD j d := by
 rw [List.getD_eq_getElem?_getD, List.getD_eq_getElem?_getD, List.getElem?_append_left h]
theorem getD_snoc_eq {α : Type} (l : List α) (y d : α) (j : Nat) (h : j = l.length) : (l ++ [y]).getD j d = y := by
 subst h
 rw [List.getD_eq_getElem?_getD, List.getElem?_append_right (Nat.le_refl _)]
 simp
def validB (i : ID) : Bool := decide (0 ≤ i.2) && decide (i.2 ≤ 1048576) && decide (i.1 < 2305843009213693951) && (decide (0 < i.2) || i.1 == 0)
set_option maxHeartbeats 1000000 in
theorem Valid_any (s z : Int) (w : World) : Calls Tryz.prog 165 #[.agg #[.int .u64 s, .int .i64 z]] w (Gives (.bool (validB (s, z))) w) := by
 have fin : ∀ b : Bool, validB (s, z) = b → ∀ W, W = w.alloc (.cells #[.int .u64 s, .int .i64 z] 31) → Gives (.bool (validB (s, z))) w (.returned (.bool b)) W := by
  rintro b h W rfl
  exact ⟨by rw [h], bel1 _ _⟩
 by_cases h1 : 0 ≤ z
 · by_cases h2 : z ≤ 1048576
   · by_cases h3 : s < 2305843009213693951
     · by_cases h4 : 0 < z
       · go_enter Tryz.func165, Tryz.ntmps165
         go_wp2_with fail
         go_ret
         exact fin _ (by simp [validB]; omega) _ rfl
       · by_cases h5 : s = 0
         · subst h5
           have V : Hid (validB (0, z) = true) := by simp [Hid, validB]; omega
           go_enter Tryz.func165, Tryz.ntmps165
           go_wp2_with fail
           go_ret
           exact fin _ V.out _ rfl
         · have hb : (s == 0) = false := by rw [beq_eq_false_iff_ne]; exact h5
           go_enter Tryz.func165, Tryz.ntmps165
           go_wp2_with fail
           go_ret
           exact fin _ (by simp [validB]; omega) _ rfl
     · go_enter Tryz.func165, Tryz.ntmps165
       go_wp2_with fail
       go_ret
       exact fin _ (by simp [validB]; omega) _ rfl
   · go_enter Tryz.func165, Tryz.ntmps165
     go_wp2_with fail
     go_ret
     exact fin _ (by simp [validB]; omega) _ rfl
 · go_enter Tryz.func165, Tryz.ntmps165
   go_wp2_with fail
   go_ret
   exact fin _ (by simp [validB]; omega) _ rfl
set_option maxHeartbeats 1000000 in
theorem rValid_any (s z : Int) (w : World) : Calls Tryz.prog 167 #[.agg #[.int .u64 s, .int .i64 z]] w (Gives (.bool (validB (s, z))) w) := by
 have fin : ∀ b : Bool, validB (s, z) = b → ∀ W, W = w.alloc (.cells #[.int .u64 s, .int .i64 z] 31) → Gives (.bool (validB (s, z))) w (.returned (.bool b)) W := by
  rintro b h W rfl
  exact ⟨by rw [h], bel1 _ _⟩
 by_cases h1 : 0 ≤ z
 · by_cases h2 : z ≤ 1048576
   · by_cases h3 : s < 2305843009213693951
     · by_cases h4 : 0 < z
       · go_enter Tryz.func167, Tryz.ntmps167
         go_wp2_with fail
         go_ret
         exact fin _ (by simp [validB]; omega) _ rfl
       · by_cases h5 : s = 0
         · subst h5
           have V : Hid (validB (0, z) = true) := by simp [Hid, validB]; omega
           go_enter Tryz.func167, Tryz.ntmps167
           go_wp2_with fail
           go_ret
           exact fin _ V.out _ rfl
         · have hb : (s == 0) = false := by rw [beq_eq_false_iff_ne]; exact h5
           go_enter Tryz.func167, Tryz.ntmps167
           go_wp2_with fail
           go_ret
           exact fin _ (by simp [validB]; omega) _ rfl
     · go_enter Tryz.func167, Tryz.ntmps167
       go_wp2_with fail
       go_ret
       exact fin _ (by simp [validB]; omega) _ rfl
   · go_enter Tryz.func167, Tryz.ntmps167
     go_wp2_with fail
     go_ret
     exact fin _ (by simp [validB]; omega) _ rfl
 · go_enter Tryz.func167, Tryz.ntmps167
   go_wp2_with fail
   go_ret
   exact fin _ (by simp [validB]; omega) _ rfl
def chunkB (i : ID) : Bool := validB i && decide (1 ≤ i.2) && decide (i.2 ≤ 8192)
def manE (m : Man) : Int := if 1024 < m.ids.length then 251 else if m.ids.all chunkB = false then 250 else if m.size = sumZ m.ids ∧ m.size ≤ 1048576 then 0 else 252
theorem getD_mem {α : Type} (l : List α) (d : α) (k : Nat) (h : k < l.length) : l.getD k d ∈ l := by
 rw [List.getD_eq_getElem?_getD, List.getElem?_eq_getElem h]
 exact List.getElem_mem h
theorem take_snoc {α : Type} (l : List α) (d : α) (k : Nat) (h : k < l.length) : l.take (k + 1) = l.take k ++ [l.getD k d] := by
 rw [List.take_add_one, List.getD_eq_getElem?_getD, List.getElem?_eq_getElem h]
 rfl
theorem chunkB_sound {i : ID} (h : chunkB i = true) : 1 ≤ i.2 ∧ i.2 ≤ 8192 := by
 simp [chunkB] at h
 omega
theorem sum_take_bd {l : List ID} : ∀ {k : Nat}, (l.take k).all chunkB = true → 0 ≤ sumZ (l.take k) ∧ sumZ (l.take k) ≤ 8192 * k := by
 have key : ∀ (l : List ID), l.all chunkB = true → 0 ≤ sumZ l ∧ sumZ l ≤ 8192 * l.length := by
  intro l
  induction l with
  | nil => intro _; simp [sumZ]
  | cons i l ih =>
   intro h
   rw [List.all_cons, Bool.and_eq_true] at h
   have h1 := chunkB_sound h.1
   have h2 := ih h.2
   simp only [sumZ, List.map_cons, List.sum_cons, List.length_cons] at *
   omega
 intro k h
 have := key _ h
 have hl : (l.take k).length ≤ k := by rw [List.length_take]; omega
 omega
theorem manE_bad {m : Man} {k : Nat} (hl : m.ids.length ≤ 1024) (hk : k < m.ids.length) (h : chunkB (m.ids.getD k (0, 0)) = false) : manE m = 250 := by
 unfold manE
 rw [if_neg (by omega), if_pos]
 rw [List.all_eq_false]
 exact ⟨_, getD_mem _ _ _ hk, by rw [h]; simp⟩
theorem manE_end {m : Man} (hl : m.ids.length ≤ 1024) (h : m.ids.all chunkB = true) : manE m = if m.size = sumZ m.ids ∧ m.size ≤ 1048576 then 0 else 252 := by
 unfold manE
 rw [if_neg (by omega), if_neg (by simp [h])]
set_option maxHeartbeats 2000000 in
theorem manCheck_any (x : Nat) (m : Man) (A : Option Addr) (c : Nat) (w : World) (hr : RdID w x A m.ids) (hn : m.ids.length ≤ 9223372036854775807) :
 Calls Tryz.prog 108 #[.agg #[.int .i64 m.size, .slice A m.ids.length c]] w (Gives (.int .i64 (manE m)) w) := by
 have Hr := Lib.hid hr
 clear hr
 by_cases hl : m.ids.length ≤ 1024
 · go_enter Tryz.func108, Tryz.ntmps108
   go_wp2_with fail
   go_loopw [3, 13] (fun n i wr => ∃ k : Nat, k ≤ m.ids.length ∧ i = .int .i64 k ∧ n = .int .i64 (sumZ (m.ids.take k)) ∧ (m.ids.take k).all chunkB = true ∧ IsB wr w.heap.size 89 #[.int .i64 m.size, .slice A m.ids.length c] ∧ Below w.heap.size w wr) (fun _ i _ => m.ids.length - (intOf i).toNat)
   case atStart => exact ⟨0, Nat.zero_le _, rfl, by simp [sumZ], by simp, IsB.new _ _ _, bel1 _ _⟩
   case round =>
    obtain ⟨k, hk, rfl, rfl, hall, hB, hb⟩ := hrel
    have hsz := hb.size
    have hbd := sum_take_bd hall
    have HB := Lib.hid hB
    have Hall := Lib.hid hall
    clear hB hall
    obtain ⟨S, HS⟩ : ∃ S, Hid (sumZ (m.ids.take k) = S) := ⟨_, rfl⟩
    rw [HS.out] at hbd ⊢
    by_cases hlt : k < m.ids.length
    · obtain ⟨b, o, rfl, hbB, _, hc⟩ := Hr.out (by omega)
      obtain ⟨s, z, HI⟩ : ∃ s z, Hid (m.ids.getD k (0, 0) = (s, z)) := ⟨_, _, rfl⟩
      have hc0 : wr.cell? ⟨b, o + k * 2, none⟩ = some (.int .u64 s) := by rw [hb.cell (p := ⟨b, o + k * 2, none⟩) hbB]; exact hc k hlt 0 _ (by rw [HI.out]; rfl)
      have hc1 : wr.cell? ⟨b, o + k * 2 + 1, none⟩ = some (.int .i64 z) := by rw [hb.cell (p := ⟨b, o + k * 2 + 1, none⟩) hbB]; exact hc k hlt 1 _ (by rw [HI.out]; rfl)
      clear hc
      go_wp2_with fail
      refine (Valid_any s z _).mono ?_
      rintro e w1 ⟨rfl, hb1⟩
      have hn0 : w1.cell? ⟨wr.heap.size, 0, none⟩ = some (.int .u64 s) := by rw [hb1.cell (p := ⟨wr.heap.size, 0, none⟩) (by simp)]; exact new_cell _ _ _ _ rfl 0
      have hn1 : w1.cell? ⟨wr.heap.size, 1, none⟩ = some (.int .i64 z) := by rw [hb1.cell (p := ⟨wr.heap.size, 1, none⟩) (by simp)]; exact new_cell _ _ _ _ rfl 1
      have hbw : Hid (Below w.heap.size w w1) := (hb.alloc hb.size _).trans (hb1.mono (by simp; omega))
      have HB1 : Hid (IsB w1 w.heap.size 89 #[.int .i64 m.size, .slice (some ⟨b, o, none⟩) m.ids.length c]) := (HB.out.alloc _).on hb1
      clear hb1
      cases hv : validB (s, z) with
      | false =>
       have HE : Hid (manE m = 250) := manE_bad hl hlt (by rw [HI.out]; simp [chunkB, hv])
       clear hv
       go_wp2_with fail
       go_ret
       exact gv HE.out (hbw.out)
      | true =>
       by_cases h1 : z < 1
       · have HE : Hid (manE m = 250) := manE_bad hl hlt (by rw [HI.out]; simp [chunkB]; omega)
         clear hv
         go_wp2_with fail
         go_ret
         exact gv HE.out (hbw.out)
       · by_cases h2 : 8192 < z
         · have HE : Hid (manE m = 250) := manE_bad hl hlt (by rw [HI.out]; simp [chunkB]; omega)
           clear hv
           go_wp2_with fail
           go_ret
           exact gv HE.out (hbw.out)
         · have HC : Hid (chunkB (s, z) = true) := by simp [Hid, chunkB, hv]; omega
           clear hv
           go_wp2_with fail
           go_roundw
           case rel => exact ⟨k + 1, by omega, by go_num, by rw [take_snoc _ (0, 0) _ hlt, sumZ_snoc, HS.out, HI.out], by rw [take_snoc _ (0, 0) _ hlt, List.all_append, Hall.out, HI.out]; simp [HC.out], HB1.out, hbw.out⟩
           case measure => simp [intOf]; omega
    · obtain rfl : k = m.ids.length := by omega
      rw [List.take_length] at Hall HS
      have hE := manE_end hl Hall.out
      rw [HS.out] at hE
      have hc0 : wr.cell? ⟨w.heap.size, 0, none⟩ = some (.int .i64 m.size) := by rw [HB.out.cell]; rfl
      by_cases h1 : m.size = S
      · subst h1
        by_cases h2 : m.size ≤ 1048576
        · rw [if_pos ⟨rfl, h2⟩] at hE
          have HE := Lib.hid hE
          clear hE
          go_wp2_with fail
          go_ret
          exact gv HE.out (hb)
        · rw [if_neg (by omega)] at hE
          have HE := Lib.hid hE
          clear hE
          go_wp2_with fail
          go_ret
          exact gv HE.out (hb)
      · have hbe : (m.size != S) = true := by rw [bne_iff_ne]; exact h1
        rw [if_neg (by omega)] at hE
        have HE := Lib.hid hE
        clear hE h1
        go_wp2_with fail
        go_ret
        exact gv HE.out (hb)
 · have HE : Hid (manE m = 251) := by unfold Hid manE; rw [if_pos (by omega)]
   go_enter Tryz.func108, Tryz.ntmps108
   go_wp2_with fail
   go_ret
   exact gv HE.out (bel1 _ _)
set_option maxHeartbeats 2000000 in
theorem rmanCheck_any (x : Nat) (m : Man) (A : Option Addr) (c : Nat) (w : World) (hr : RdID w x A m.ids) (hn : m.ids.length ≤ 9223372036854775807) :
 Calls Tryz.prog 127 #[.agg #[.int .i64 m.size, .slice A m.ids.length c]] w (Gives (.int .i64 (manE m)) w) := by
 have Hr := Lib.hid hr
 clear hr
 by_cases hl : m.ids.length ≤ 1024
 · go_enter Tryz.func127, Tryz.ntmps127
   go_wp2_with fail
   go_loopw [3, 4] (fun n i wr => ∃ k : Nat, k ≤ m.ids.length ∧ i = .int .i64 k ∧ n = .int .i64 (sumZ (m.ids.take k)) ∧ (m.ids.take k).all chunkB = true ∧ IsB wr w.heap.size 89 #[.int .i64 m.size, .slice A m.ids.length c] ∧ Below w.heap.size w wr) (fun _ i _ => m.ids.length - (intOf i).toNat)
   case atStart => exact ⟨0, Nat.zero_le _, rfl, by simp [sumZ], by simp, IsB.new _ _ _, bel1 _ _⟩
   case round =>
    obtain ⟨k, hk, rfl, rfl, hall, hB, hb⟩ := hrel
    have hsz := hb.size
    have hbd := sum_take_bd hall
    have hm0 : wr.cell? ⟨w.heap.size, 0, none⟩ = some (.int .i64 m.size) := by rw [hB.cell]; rfl
    have hm1 : wr.cell? ⟨w.heap.size, 1, none⟩ = some (.slice A m.ids.length c) := by rw [hB.cell]; rfl
    have hBlt := hB.lt
    have HB := Lib.hid hB
    have Hall := Lib.hid hall
    clear hB hall
    obtain ⟨S, HS⟩ : ∃ S, Hid (sumZ (m.ids.take k) = S) := ⟨_, rfl⟩
    rw [HS.out] at hbd ⊢
    by_cases hlt : k < m.ids.length
    · obtain ⟨b, o, rfl, hbB, _, hc⟩ := Hr.out (by omega)
      obtain ⟨s, z, HI⟩ : ∃ s z, Hid (m.ids.getD k (0, 0) = (s, z)) := ⟨_, _, rfl⟩
      have hc0 : wr.cell? ⟨b, o + k * 2, none⟩ = some (.int .u64 s) := by rw [hb.cell (p := ⟨b, o + k * 2, none⟩) hbB]; exact hc k hlt 0 _ (by rw [HI.out]; rfl)
      have hc1 : wr.cell? ⟨b, o + k * 2 + 1, none⟩ = some (.int .i64 z) := by rw [hb.cell (p := ⟨b, o + k * 2 + 1, none⟩) hbB]; exact hc k hlt 1 _ (by rw [HI.out]; rfl)
      clear hc
      go_wp2_with fail
      refine (rValid_any s z _).mono ?_
      rintro e w1 ⟨rfl, hb1⟩
      have hn0 : w1.cell? ⟨wr.heap.size, 0, none⟩ = some (.int .u64 s) := by rw [hb1.cell (p := ⟨wr.heap.size, 0, none⟩) (by simp)]; exact new_cell _ _ _ _ rfl 0
      have hn1 : w1.cell? ⟨wr.heap.size, 1, none⟩ = some (.int .i64 z) := by rw [hb1.cell (p := ⟨wr.heap.size, 1, none⟩) (by simp)]; exact new_cell _ _ _ _ rfl 1
      have hbw : Hid (Below w.heap.size w w1) := (hb.alloc hb.size _).trans (hb1.mono (by simp; omega))
      have HB1 : Hid (IsB w1 w.heap.size 89 #[.int .i64 m.size, .slice (some ⟨b, o, none⟩) m.ids.length c]) := (HB.out.alloc _).on hb1
      clear hb1
      cases hv : validB (s, z) with
      | false =>
       have HE : Hid (manE m = 250) := manE_bad hl hlt (by rw [HI.out]; simp [chunkB, hv])
       clear hv
       go_wp2_with fail
       go_ret
       exact gv HE.out (hbw.out)
      | true =>
       by_cases h1 : z < 1
       · have HE : Hid (manE m = 250) := manE_bad hl hlt (by rw [HI.out]; simp [chunkB]; omega)
         clear hv
         go_wp2_with fail
         go_ret
         exact gv HE.out (hbw.out)
       · by_cases h2 : 8192 < z
         · have HE : Hid (manE m = 250) := manE_bad hl hlt (by rw [HI.out]; simp [chunkB]; omega)
           clear hv
           go_wp2_with fail
           go_ret
           exact gv HE.out (hbw.out)
         · have HC : Hid (chunkB (s, z) = true) := by simp [Hid, chunkB, hv]; omega
           clear hv
           go_wp2_with fail
           go_roundw
           case rel => exact ⟨k + 1, by omega, by go_num, by rw [take_snoc _ (0, 0) _ hlt, sumZ_snoc, HS.out, HI.out], by rw [take_snoc _ (0, 0) _ hlt, List.all_append, Hall.out, HI.out]; simp [HC.out], HB1.out, hbw.out⟩
           case measure => simp [intOf]; omega
    · obtain rfl : k = m.ids.length := by omega
      rw [List.take_length] at Hall HS
      have hE := manE_end hl Hall.out
      rw [HS.out] at hE
      by_cases h1 : m.size = S
      · subst h1
        by_cases h2 : m.size ≤ 1048576
        · rw [if_pos ⟨rfl, h2⟩] at hE
          have HE := Lib.hid hE
          clear hE
          go_wp2_with fail
          go_ret
          exact gv HE.out (hb)
        · rw [if_neg (by omega)] at hE
          have HE := Lib.hid hE
          clear hE
          go_wp2_with fail
          go_ret
          exact gv HE.out (hb)
      · have hbe : (m.size != S) = true := by rw [bne_iff_ne]; exact h1
        rw [if_neg (by omega)] at hE
        have HE := Lib.hid hE
        clear hE h1
        go_wp2_with fail
        go_ret
        exact gv HE.out (hb)
 · have HE : Hid (manE m = 251) := by unfold Hid manE; rw [if_pos (by omega)]
   go_enter Tryz.func127, Tryz.ntmps127
   go_wp2_with fail
   go_ret
   exact gv HE.out (bel1 _ _)
end Go.Proofs.YteabgcollokgjaaGreatDoor
namespace Go.Proofs.YteabgcollokgjaaGreatDoor
open Go.RowKit Go.MapKept Go.ChangeMaps
attribute [local go_sem] wext_cell
/-- A row of a table: the ID, the number. -/
abbrev CT := ID × Int
def encC (c : CT) : List Value := [.int .u64 c.1.1, .int .i64 c.1.2, .int .i64 c.2]
abbrev ct0 : CT := ((0, 0), 0)
abbrev RdC (w : World) (x : Nat) (A : Option Addr) (t : List CT) : Prop := Rd encC 3 ct0 w x A t
theorem encC_len (c : CT) : (encC c).length = 3 := rfl
theorem encC_one (c : CT) : ∀ u ∈ encC c, u.oneCell' = true := by
 intro u hu
 simp [encC] at hu
 rcases hu with rfl | rfl | rfl <;> rfl
/-- Block b is a map of counts that holds L. -/
abbrev Mp (w : World) (b : Nat) (L : List CT) : Prop := MapIs okID vID vN w b L
theorem zero3 (w : World) : (zeroValue 3).run Tryz.prog w = .ok (.int .i64 0) w := by kernel_rfl
/-- The number at an ID, or 0. -/
def nAt (L : List CT) (i : ID) : Int := (asc L i).getD 0
theorem Mp.look {w : World} {b : Nat} {L : List CT} (h : Mp w b L) (s z : Int) (ha : okID (s, z)) : (Instr.lookup 200 (.map (some b)) (.agg #[.int .u64 s, .int .i64 z]) false).run Tryz.prog w = .ok (.int .i64 (nAt L (s, z))) w := by
 have := MapIs.look mkI Tryz.underlying200 (zero3 w) h ha false
 rw [show (Value.agg #[.int .u64 s, .int .i64 z]) = vID (s, z) from rfl, this]
 unfold nAt
 cases asc L (s, z) <;> simp
/-- 'm[id] += n' on a map of counts. -/
def putN (L : List CT) (i : ID) (n : Int) : List CT := setL L i (nAt L i + n)
theorem nAt_putN (L : List CT) (i j : ID) (n : Int) : nAt (putN L i n) j = if i = j then nAt L i + n else nAt L j := by
 unfold putN
 conv => lhs; unfold nAt
 rw [asc_setL]
 split <;> rfl
/-- What the region of 'm[id] += n' needs. -/
theorem Mp.step {W : World} {b : Nat} {L : List CT} (h : Mp W b L) (s z n : Int) (hok : okID (s, z)) :
 ∃ (v0 : Value) (st : Nat) (w1 w3 : World), (Instr.lookup 200 (.map (some b)) (.agg #[.int .u64 s, .int .i64 z]) false).run Tryz.prog W.drew = .ok (.int .i64 (nAt L (s, z))) W.drew ∧
  (Instr.mapEntry 200 (.map (some b)) (.agg #[.int .u64 s, .int .i64 z])).run Tryz.prog W.drew = .ok (.tuple #[v0, .int .i64 st]) w1 ∧
  (Instr.lookup 200 (.map (some b)) (.agg #[.int .u64 s, .int .i64 z]) false).run Tryz.prog w1 = .ok (.int .i64 (nAt L (s, z))) w1 ∧
  (Instr.entryStore 200 (.map (some b)) (.int .i64 st) (.int .i64 (nAt L (s, z) + n))).run Tryz.prog w1 = .ok () w3 ∧ Mp w3 b (putN L (s, z) n) ∧ W.grownBy w3 (some b) ∧ w3.heap.size = W.heap.size := by
 have hd : Mp W.drew b L := h.same rfl
 obtain ⟨v0, st, w1, e1, e2, e3, e4, e5⟩ := MapIs.entry mkI Tryz.underlying200 (z := 0) zero3 hd hok
 obtain ⟨w3, f1, f2, f3, f4⟩ := e5 w1 (nAt L (s, z) + n) rfl
 refine ⟨v0, st, w1, w3, hd.look s z hok, e1, ?_, f1, f2, ?_, f4.trans e3⟩
 · rw [Mp.look e4 s z hok]
   have : nAt (setL L (s, z) ((asc L (s, z)).getD 0)) (s, z) = nAt L (s, z) := by
    unfold nAt
    rw [asc_setL, if_pos rfl]
    rfl
   rw [this]
 · have g1 : W.grownBy W.drew (some b) := ⟨rfl, rfl, rfl, Nat.le_refl _, fun _ _ _ => rfl⟩
   exact g_trans g1 (g_trans e2 f3)
def errM : List Man → Int
 | [] => 0
 | m :: ms => if manE m = 0 then errM ms else manE m
/-- The counts with one reference more for each of the IDs. -/
def addIDs (L : List CT) (l : List ID) : List CT := l.foldl (fun L i => putN L i 1) L
def refsFrom (L : List CT) (ms : List Man) : List CT := ms.foldl (fun L m => addIDs L m.ids) L
def refs (ms : List Man) : List CT := refsFrom [] ms
theorem addIDs_snoc (L : List CT) (l : List ID) (i : ID) : addIDs L (l ++ [i]) = putN (addIDs L l) i 1 := by simp [addIDs]
theorem refs_snoc (ms : List Man) (m : Man) : refs (ms ++ [m]) = addIDs (refs ms) m.ids := by simp [refs, refsFrom]
theorem errM_snoc (ms : List Man) (m : Man) (h : errM ms = 0) : errM (ms ++ [m]) = manE m := by
 induction ms with
 | nil => simp only [List.nil_append, errM]; split <;> simp_all
 | cons a ms ih =>
  simp only [List.cons_append, errM] at h ⊢
  split at h
  · rename_i e; rw [if_pos e]; exact ih h
  · rename_i e; exact absurd h e
theorem errM_more (ms l : List Man) (h : errM ms ≠ 0) : errM (ms ++ l) = errM ms := by
 induction ms with
 | nil => exact absurd rfl h
 | cons a ms ih =>
  simp only [List.cons_append, errM] at h ⊢
  split
  · rename_i e; rw [if_pos e] at h; exact ih h
  · rfl
theorem errM_at {ms : List Man} {k : Nat} (h : errM (ms.take k) = 0) (hk : k < ms.length) (he : manE (ms.getD k man0) ≠ 0) : errM ms = manE (ms.getD k man0) := by
 have h1 := errM_snoc (ms.take k) (ms.getD k man0) h
 rw [← take_snoc _ _ _ hk] at h1
 have h2 := errM_more (ms.take (k + 1)) (ms.drop (k + 1)) (by rw [h1]; exact he)
 rw [List.take_append_drop, h1] at h2
 exact h2
theorem addIDs_bd {L : List CT} {B : Int} (hL : ∀ i, 0 ≤ nAt L i ∧ nAt L i ≤ B) (l : List ID) : ∀ i, 0 ≤ nAt (addIDs L l) i ∧ nAt (addIDs L l) i ≤ B + l.length := by
 induction l generalizing L B with
 | nil => intro i; simpa [addIDs] using hL i
 | cons c t ih =>
  intro i
  have := ih (L := putN L c 1) (B := B + 1) (fun j => by
   rw [nAt_putN]
   have h2 := hL j
   have h3 := hL c
   split <;> omega) i
  rw [List.length_cons]
  push_cast
  show 0 ≤ nAt (addIDs (putN L c 1) t) i ∧ nAt (addIDs (putN L c 1) t) i ≤ _
  omega
theorem manE_len {m : Man} (h : manE m = 0) : m.ids.length ≤ 1024 := by
 unfold manE at h
 split at h
 · cases h
 · omega
theorem refs_bd {ms : List Man} (h : errM ms = 0) : ∀ i, 0 ≤ nAt (refs ms) i ∧ nAt (refs ms) i ≤ 1024 * ms.length := by
 have key : ∀ (ms : List Man) (L : List CT) (B : Int), errM ms = 0 → (∀ i, 0 ≤ nAt L i ∧ nAt L i ≤ B) → ∀ i, 0 ≤ nAt (refsFrom L ms) i ∧ nAt (refsFrom L ms) i ≤ B + 1024 * ms.length := by
  intro ms
  induction ms with
  | nil => intro L B _ hL i; simpa [refsFrom] using hL i
  | cons m ms ih =>
   intro L B h hL i
   simp only [errM] at h
   split at h
   · rename_i e
     have hl := manE_len e
     have := ih (addIDs L m.ids) (B + 1024) h (fun j => by have := addIDs_bd hL m.ids j; omega) i
     rw [List.length_cons]
     push_cast
     show 0 ≤ nAt (refsFrom (addIDs L m.ids) ms) i ∧ nAt (refsFrom (addIDs L m.ids) ms) i ≤ _
     omega
   · rename_i e; exact absurd h e
 intro i
 have := key ms [] 0 h (fun j => by simp [nAt, asc]) i
 simpa [refs] using this
def RefsPost (ms : List Man) (w : World) (e : Ending) (w' : World) : Prop :=
 Below w.heap.size w w' ∧ ((errM ms = 0 ∧ ∃ b, w.heap.size ≤ b ∧ e = .returned (.tuple #[.map (some b), .int .i64 0]) ∧ Mp w' b (refs ms)) ∨ (errM ms ≠ 0 ∧ e = .returned (.tuple #[.map none, .int .i64 (errM ms)])))
theorem below_own {w wr w' : World} {b : Nat} (h : Below w.heap.size w wr) (hg : wr.grownBy w' (some b)) (hb : w.heap.size ≤ b) : Below w.heap.size w w' :=
 h.grown hg h.size (fun k hk => by injection hk with hk; omega)
set_option maxHeartbeats 4000000 in
theorem references_any (x : Nat) (ms : List Man) (A : Option Addr) (c : Nat) (w : World) (hr : RdM w x A ms) (hn : ms.length ≤ 1000000) (hi : ∀ m ∈ ms, m.ids.length ≤ 9223372036854775807) (hok : ∀ m ∈ ms, ∀ i ∈ m.ids, okID i) :
 Calls Tryz.prog 129 #[.slice A ms.length c] w (RefsPost ms w) := by
 have Hr := Lib.hid hr
 have Hi := Lib.hid hi
 have Hok := Lib.hid hok
 clear hr hi hok
 have hmm := @run_makeMap Tryz.prog
 go_enter Tryz.func129, Tryz.ntmps129
 go_wp2_with fail
 go_loopw [13] (fun v wr => ∃ k : Nat, k ≤ ms.length ∧ v = .int .i64 k ∧ Mp wr w.heap.size (refs (ms.take k)) ∧ errM (ms.take k) = 0 ∧ Below w.heap.size w wr) (fun v _ => ms.length - (intOf v).toNat)
 case atStart => exact ⟨0, Nat.zero_le _, rfl, MapIs.made w, rfl, bel1 _ _⟩
 case round =>
  obtain ⟨k, hk, rfl, hm, he, hb⟩ := hrel
  have hsz := hb.size
  by_cases hlt : k < ms.length
  · obtain ⟨rs, h1, h2, h3⟩ := Hr.out
    obtain ⟨b, o, rfl, hbB, _, hc⟩ := h1 (by omega)
    obtain ⟨l1, l2, l3, l4⟩ := h3 k hlt
    have hmem := getD_mem ms man0 k hlt
    obtain ⟨m, HI⟩ : ∃ m, Hid (ms.getD k man0 = m) := ⟨_, rfl⟩
    obtain ⟨⟨rz, rA, rl, rc⟩, HR⟩ : ∃ r, Hid (rs.getD k mr0 = r) := ⟨_, rfl⟩
    rw [HI.out] at l1 l2 l4 hmem
    rw [HR.out] at l1 l2 l3 l4
    simp only at l1 l2 l3 l4
    subst l1 l2
    have hil := Hi.out m hmem
    have hoks := Hok.out m hmem
    have hc0 : wr.cell? ⟨b, o + k * 2, none⟩ = some (.int .i64 m.size) := by rw [hb.cell (p := ⟨b, o + k * 2, none⟩) hbB]; exact hc k (by omega) 0 _ (by rw [HR.out]; rfl)
    have hc1 : wr.cell? ⟨b, o + k * 2 + 1, none⟩ = some (.slice rA m.ids.length rc) := by rw [hb.cell (p := ⟨b, o + k * 2 + 1, none⟩) hbB]; exact hc k (by omega) 1 _ (by rw [HR.out]; rfl)
    have L4 := Lib.hid l4
    have Hm := Lib.hid hm
    have He := Lib.hid he
    have Hb := Lib.hid hb
    have Hoks := Lib.hid hoks
    have HE : Hid (manE m ≠ 0 → errM ms = manE m) := fun h => by have := errM_at He.out hlt (by rw [HI.out]; exact h); rwa [HI.out] at this
    have HS : Hid (refs (ms.take (k + 1)) = addIDs (refs (ms.take k)) m.ids) := by rw [Hid, take_snoc _ man0 _ hlt, refs_snoc, HI.out]
    have HZ : Hid (manE m = 0 → errM (ms.take (k + 1)) = 0) := fun h => by rw [take_snoc _ man0 _ hlt, errM_snoc _ _ He.out, HI.out]; exact h
    have hbd := refs_bd He.out
    have hlen : (ms.take k).length ≤ 1000000 := by rw [List.length_take]; omega
    have Hbd := Lib.hid hbd
    clear h1 h2 h3 hc l4 hm he hb hmem hoks hbd
    go_wp2_with fail
    refine (manCheck_any x m rA rc _ ((L4.out.on Hb.out).alloc _) hil).mono ?_
    rintro e w1 ⟨rfl, hb1⟩
    have hn0 : w1.cell? ⟨wr.heap.size, 0, none⟩ = some (.int .i64 m.size) := by rw [hb1.cell (p := ⟨wr.heap.size, 0, none⟩) (by simp)]; exact new_cell _ _ _ _ rfl 0
    have hn1 : w1.cell? ⟨wr.heap.size, 1, none⟩ = some (.slice rA m.ids.length rc) := by rw [hb1.cell (p := ⟨wr.heap.size, 1, none⟩) (by simp)]; exact new_cell _ _ _ _ rfl 1
    have Hbw : Hid (Below w.heap.size w w1) := (Hb.out.alloc Hb.out.size _).trans (hb1.mono (by simp; omega))
    have Hm1 : Hid (Mp w1 w.heap.size (refs (ms.take k))) := (Hm.out.alloc _).on hb1
    clear hb1
    by_cases hE : manE m = 0
    · have hle := manE_len hE
      have HE0 := HZ.out hE
      have Hz := Lib.hid HE0
      rw [hE]
      clear HE0 hE
      go_wp2_with fail
      go_loopw [25] (fun v wr => ∃ j : Nat, j ≤ m.ids.length ∧ v = .int .i64 j ∧ Mp wr w.heap.size (addIDs (refs (ms.take k)) (m.ids.take j)) ∧ Below w.heap.size w wr) (fun v _ => m.ids.length - (intOf v).toNat)
      case atStart => exact ⟨0, Nat.zero_le _, rfl, Hm1.out, Hbw.out⟩
      case round =>
       obtain ⟨j, hj, rfl, hm, hb⟩ := hrel
       have hsz := hb.size
       by_cases hjl : j < m.ids.length
       · obtain ⟨b2, o2, rfl, hb2B, _, hc⟩ := L4.out (by omega)
         obtain ⟨s, z, HJ⟩ : ∃ s z, Hid (m.ids.getD j (0, 0) = (s, z)) := ⟨_, _, rfl⟩
         have hc0 : wr.cell? ⟨b2, o2 + j * 2, none⟩ = some (.int .u64 s) := by rw [hb.cell (p := ⟨b2, o2 + j * 2, none⟩) hb2B]; exact hc j hjl 0 _ (by rw [HJ.out]; rfl)
         have hc1 : wr.cell? ⟨b2, o2 + j * 2 + 1, none⟩ = some (.int .i64 z) := by rw [hb.cell (p := ⟨b2, o2 + j * 2 + 1, none⟩) hb2B]; exact hc j hjl 1 _ (by rw [HJ.out]; rfl)
         have hok := Hoks.out _ (getD_mem m.ids (0, 0) j hjl)
         rw [HJ.out] at hok
         have hbd2 := addIDs_bd Hbd.out (m.ids.take j) (s, z)
         have hlj : (m.ids.take j).length ≤ 1024 := by rw [List.length_take]; omega
         have Hm := Lib.hid hm
         have Hb := Lib.hid hb
         have Hok := Lib.hid hok
         clear hc hm hb hok
         go_wp2_with fail
         have hd0 : (wr.alloc (.cells #[.int .u64 s, .int .i64 z] 31)).cell? ⟨wr.heap.size, 0, none⟩ = some (.int .u64 s) := new_cell _ _ _ _ rfl 0
         have hd1 : (wr.alloc (.cells #[.int .u64 s, .int .i64 z] 31)).cell? ⟨wr.heap.size, 1, none⟩ = some (.int .i64 z) := new_cell _ _ _ _ rfl 1
         obtain ⟨v0, st, w2, w3, e1, e2, e3, e4, e5, e6, e7⟩ := Mp.step (Hm.out.alloc (.cells #[.int .u64 s, .int .i64 z] 31)) s z 1 Hok.out
         have He5 := Lib.hid e5
         have He6 : Hid (Below w.heap.size w w3) := below_own (Hb.out.alloc Hb.out.size _) e6 (Nat.le_refl _)
         clear e5 e6
         generalize nAt (addIDs (refs (ms.take k)) (m.ids.take j)) (s, z) = v at e1 e3 e4 hbd2
         have hsum : IntKind.i64.wrap (v + 1) = v + 1 := IntWalk.i64_in _ (by omega)
         generalize wr.alloc (.cells #[.int .u64 s, .int .i64 z] 31) = W at *
         clear hc0 hc1
         go_region
         all_goals (
          go_wp2_with fail
          go_roundw
          case rel => exact ⟨j + 1, by omega, by go_num, by rw [take_snoc _ (0, 0) _ hjl, addIDs_snoc, HJ.out]; exact He5.out, He6.out⟩
          case measure => simp [intOf]; omega)
       · obtain rfl : j = m.ids.length := by omega
         rw [List.take_length] at hm
         go_wp2_with fail
         go_roundw
         case rel => exact ⟨k + 1, by omega, by go_num, by rw [HS.out]; exact hm, Hz.out, hb⟩
         case measure => simp [intOf]; omega
    · have HE1 := Lib.hid (HE.out hE)
      have hbe : (manE m != 0) = true := by rw [bne_iff_ne]; exact hE
      have HN : Hid (errM ms ≠ 0) := by rw [Hid, HE1.out]; exact hE
      have Heq : Hid (∀ W, Below w.heap.size w W → RefsPost ms w (.returned (.tuple #[.map none, .int .i64 (manE m)])) W) := fun W hW => ⟨hW, .inr ⟨HN.out, by rw [HE1.out]⟩⟩
      clear hE
      go_wp2_with fail
      go_ret2
      exact Heq.out _ Hbw.out
  · obtain rfl : k = ms.length := by omega
    rw [List.take_length] at hm he
    have Hm := Lib.hid hm
    have He := Lib.hid he
    clear hm he
    go_wp2_with fail
    go_ret2
    exact ⟨hb, .inl ⟨He.out, _, Nat.le_refl _, rfl, Hm.out⟩⟩
end Go.Proofs.YteabgcollokgjaaGreatDoor
