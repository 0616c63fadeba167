/- KI KJ KK SI in one text. -/
import Derived.Test.YteabgcollokgjaaGreatDoorQ08
import Derived.Test.YteabgcollokgjaaGreatDoorQ10
import Derived.Lib.Small
import Derived.IntWalk
import Derived.Deep.AppendLies
namespace Go.Proofs.YteabgcollokgjaaGreatDoor
open Go.RowKit Go.Shelf Go.Sort
attribute [local go_sem] wext_cell

/-- What comes back, with new memory alone. -/
def Gives (v : Value) (w : World) (e : Ending) (w' : World) : Prop := e = .returned v ∧ Below w.heap.size w w'
theorem gv {a r : Int} {w W : World} (h : a = r) (hb : Below w.heap.size w W) : Gives (.int .i64 a) w (.returned (.int .i64 r)) W := ⟨by rw [h], hb⟩
theorem encID_len (i : ID) : (encID i).length = 2 := rfl
theorem encID_one (i : ID) : ∀ u ∈ encID i, u.oneCell' = true := by
  intro u hu
  simp [encID] at hu
  rcases hu with rfl | rfl <;> rfl
abbrev RdID (w : World) (x : Nat) (A : Option Addr) (l : List ID) : Prop := Rd encID 2 (0, 0) w x A l
theorem info31 : (Tryz.prog.info? 31).map (fun i => (i.zero, i.size, i.bytes)) = some (some (.agg #[.int .u64 0, .int .i64 0]), 2, 16) := by kernel_rfl
def orI (a b : Int) : Int := if a = 0 then b else a

theorem nan65 (x : Int) (w : World) : Calls Tryz.prog 210 #[.int .u64 x] w fun e w' => e = .returned (.bool false) ∧ w' = w := by
  go_enter Tryz.func210, Tryz.ntmps210
  go_wp2
  go_ret
  exact ⟨by simp, rfl⟩
set_option maxHeartbeats 1000000 in
theorem cmpU_any (x y : Int) (w : World) : Calls Tryz.prog 158 #[.int .u64 x, .int .u64 y] w fun e w' => e = .returned (.int .i64 (Lib.compareInt x y)) ∧ w' = w := by
  go_enter Tryz.func158, Tryz.ntmps158
  go_wp2_with (go_at_call 210; refine (nan65 _ _).mono ?_; rintro e w' ⟨rfl, hw⟩; rw [hw])
  all_goals (go_ret; refine ⟨?_, rfl⟩; unfold Lib.compareInt; (repeat' split) <;> first | rfl | (exfalso; omega))

theorem nan66 (x : Int) (w : World) : Calls Tryz.prog 200 #[.int .i64 x] w fun e w' => e = .returned (.bool false) ∧ w' = w := by
  go_enter Tryz.func200, Tryz.ntmps200
  go_wp2
  go_ret
  exact ⟨by simp, rfl⟩
set_option maxHeartbeats 1000000 in
theorem cmpI_any (x y : Int) (w : World) : Calls Tryz.prog 154 #[.int .i64 x, .int .i64 y] w fun e w' => e = .returned (.int .i64 (Lib.compareInt x y)) ∧ w' = w := by
  go_enter Tryz.func154, Tryz.ntmps154
  go_wp2_with (go_at_call 200; refine (nan66 _ _).mono ?_; rintro e w' ⟨rfl, hw⟩; rw [hw])
  all_goals (go_ret; refine ⟨?_, rfl⟩; unfold Lib.compareInt; (repeat' split) <;> first | rfl | (exfalso; omega))

set_option maxHeartbeats 400000 in
theorem Or_two (g : Nat) (a b : Int) (w : World) (h0 : w.cell? ⟨g, 0, none⟩ = some (.int .i64 a)) (h1 : w.cell? ⟨g, 1, none⟩ = some (.int .i64 b)) :
    Calls Tryz.prog 157 #[.slice (some ⟨g, 0, none⟩) 2 2] w fun e w' => e = .returned (.int .i64 (orI a b)) ∧ w = w' := by
  obtain ⟨r, Hr⟩ : ∃ r, Hid (orI a b = r) := ⟨_, rfl⟩
  rw [Hr.out]
  go_enter Tryz.func157, Tryz.ntmps157
  go_wp2
  go_loop [8] (fun i => ∃ k : Nat, k ≤ 2 ∧ i = .int .i64 k ∧ Hid (0 < k → a = 0) ∧ Hid (1 < k → b = 0)) (fun i => 2 - (intOf i).toNat)
  case atStart => exact ⟨0, by omega, rfl, fun h => absurd h (by omega), fun h => absurd h (by omega)⟩
  case round =>
    obtain ⟨k, hk, rfl, HA, HB⟩ := hrel
    by_cases hk0 : k = 0
    · have hc : w.cell? ⟨g, k, none⟩ = some (.int .i64 a) := by rw [hk0]; exact h0
      have Hk := Lib.hid hk0
      have hk2 : k < 2 := by omega
      clear h0 h1 hk0
      by_cases ha : a = 0
      · have hb' : (a != 0) = false := by simp [ha]
        have Ha := Lib.hid ha
        clear ha
        go_wp2
        go_round
        case rel => exact ⟨k + 1, by omega, by go_num, fun _ => Ha.out, fun h => absurd h (by have := Hk.out; omega)⟩
        case measure => simp [intOf]; omega
      · have hb' : (a != 0) = true := by simp [ha]
        have hr : r = a := by rw [← Hr.out, orI, if_neg ha]
        subst hr
        clear ha
        go_wp2
        go_ret
        exact ⟨rfl, rfl⟩
    · by_cases hk1 : k = 1
      · have hc : w.cell? ⟨g, k, none⟩ = some (.int .i64 b) := by rw [hk1]; exact h1
        have Hk := Lib.hid hk1
        have hk2 : k < 2 := by omega
        have hr : r = b := by rw [← Hr.out, orI, if_pos (HA.out (by omega))]
        subst hr
        clear h0 h1 hk0 hk1
        by_cases hb : r = 0
        · have hb' : (r != 0) = false := by simp [hb]
          have Hb := Lib.hid hb
          clear hb
          go_wp2
          go_round
          case rel => exact ⟨k + 1, by omega, by go_num, fun _ => HA.out (by have := Hk.out; omega), fun _ => Hb.out⟩
          case measure => simp [intOf]; omega
        · have hb' : (r != 0) = true := by simp [hb]
          clear hb
          go_wp2
          go_ret
          exact ⟨rfl, rfl⟩
      · have hk2 : ¬ k < 2 := by omega
        have hr : r = 0 := by rw [← Hr.out, orI, if_pos (HA.out (by omega)), HB.out (by omega)]
        subst hr
        go_wp2
        go_ret
        exact ⟨rfl, rfl⟩

theorem grow3 (W : World) (a b c : Obj) (q : Nat) : (((W.alloc a).alloc b).drewN q).alloc c = grow (W.drewN q) #[a, b, c] := by
  show ((((W.drewN q).alloc a).alloc b).alloc c) = grow (W.drewN q) #[a, b, c]
  rw [alloc_eq_grow, alloc_eq_grow, alloc_eq_grow, grow_grow, grow_grow]
  rfl


def cmpID (x y : ID) : Int := orI (Lib.compareInt x.1 y.1) (Lib.compareInt x.2 y.2)

theorem grow4 (W : World) (a b c d : Obj) (q : Nat) : ((((W.alloc a).alloc b).alloc c).drewN q).alloc d = grow (W.drewN q) #[a, b, c, d] := by
  show (((((W.drewN q).alloc a).alloc b).alloc c).alloc d) = grow (W.drewN q) #[a, b, c, d]
  rw [alloc_eq_grow, alloc_eq_grow, alloc_eq_grow, alloc_eq_grow, grow_grow, grow_grow, grow_grow]
  rfl
set_option maxHeartbeats 1000000 in
theorem compareIDs_grow (x1 x2 y1 y2 : Int) (W : World) : Calls Tryz.prog 171 #[.agg #[.int .u64 x1, .int .i64 x2], .agg #[.int .u64 y1, .int .i64 y2]] W fun e w' => e = .returned (.int .i64 (cmpID (x1, x2) (y1, y2))) ∧ ∃ q os', w' = grow (W.drewN q) os' := by
  have hcon1 := fun W' => cmpU_any x1 y1 W'
  have hcon2 := fun W' => cmpI_any x2 y2 W'
  obtain ⟨r, Hr⟩ : ∃ r, Hid (cmpID (x1, x2) (y1, y2) = r) := ⟨_, rfl⟩
  have Hr2 : Hid (orI (Lib.compareInt x1 y1) (Lib.compareInt x2 y2) = r) := Hr
  rw [Hr.out]
  generalize Lib.compareInt x1 y1 = c1 at hcon1 Hr2
  generalize Lib.compareInt x2 y2 = c2 at hcon2 Hr2
  have H1 := Lib.hid hcon1
  have H2 := Lib.hid hcon2
  clear hcon1 hcon2
  go_enter Tryz.func171, Tryz.ntmps171
  go_wp2_with fail
  refine wp_region_draw_tail 10 (by kernel_rfl) (by kernel_rfl) ?_
  simp only [List.take_succ_cons, List.take_zero, List.drop_succ_cons, List.drop_zero]
  repeat (go_big_quiet_step ((first | (go_at_call 158; exact Calls.quiet_of_same (H1.out _)) | (go_at_call 154; exact Calls.quiet_of_same (H2.out _)))))
  refine wpQuiet_nil ?_
  intro q2
  go_wp2_with (go_at_call 157; refine (Or_two _ c1 c2 _ ?c1 ?c2).mono ?_)
  case c1 => exact new_cell _ _ _ _ (by simp) 0
  case c2 => exact new_cell _ _ _ _ (by simp) 1
  rintro e w' ⟨rfl, rfl⟩
  rw [Hr2.out]
  go_wp2
  go_ret
  exact ⟨rfl, q2, _, grow3 W _ _ _ q2⟩

set_option maxHeartbeats 1000000 in
theorem asc_grow (x1 x2 y1 y2 : Int) (W : World) : Calls Tryz.prog 104 #[.agg #[], .agg #[.int .u64 x1, .int .i64 x2], .agg #[.int .u64 y1, .int .i64 y2]] W fun e w' => e = .returned (.int .i64 (cmpID (x1, x2) (y1, y2))) ∧ ∃ q os', w' = grow (W.drewN q) os' := by
  have hcon1 := fun W' => cmpU_any x1 y1 W'
  have hcon2 := fun W' => cmpI_any x2 y2 W'
  obtain ⟨r, Hr⟩ : ∃ r, Hid (cmpID (x1, x2) (y1, y2) = r) := ⟨_, rfl⟩
  have Hr2 : Hid (orI (Lib.compareInt x1 y1) (Lib.compareInt x2 y2) = r) := Hr
  rw [Hr.out]
  generalize Lib.compareInt x1 y1 = c1 at hcon1 Hr2
  generalize Lib.compareInt x2 y2 = c2 at hcon2 Hr2
  have H1 := Lib.hid hcon1
  have H2 := Lib.hid hcon2
  clear hcon1 hcon2
  go_enter Tryz.func104, Tryz.ntmps104
  go_wp2_with fail
  refine wp_region_draw_tail 10 (by kernel_rfl) (by kernel_rfl) ?_
  simp only [List.take_succ_cons, List.take_zero, List.drop_succ_cons, List.drop_zero]
  repeat (go_big_quiet_step ((first | (go_at_call 158; exact Calls.quiet_of_same (H1.out _)) | (go_at_call 154; exact Calls.quiet_of_same (H2.out _)))))
  refine wpQuiet_nil ?_
  intro q2
  go_wp2_with (go_at_call 157; refine (Or_two _ c1 c2 _ ?c1 ?c2).mono ?_)
  case c1 => exact new_cell _ _ _ _ (by simp) 0
  case c2 => exact new_cell _ _ _ _ (by simp) 1
  rintro e w' ⟨rfl, rfl⟩
  rw [Hr2.out]
  go_wp2
  go_ret
  exact ⟨rfl, q2, _, grow4 W _ _ _ _ q2⟩

set_option maxHeartbeats 1000000 in
theorem ccmp_grow (x1 x2 y1 y2 : Int) (W : World) : Calls Tryz.prog 125 #[.agg #[.int .u64 x1, .int .i64 x2], .agg #[.int .u64 y1, .int .i64 y2]] W fun e w' => e = .returned (.int .i64 (cmpID (x1, x2) (y1, y2))) ∧ ∃ q os', w' = grow (W.drewN q) os' := by
  have hcon1 := fun W' => cmpU_any x1 y1 W'
  have hcon2 := fun W' => cmpI_any x2 y2 W'
  obtain ⟨r, Hr⟩ : ∃ r, Hid (cmpID (x1, x2) (y1, y2) = r) := ⟨_, rfl⟩
  have Hr2 : Hid (orI (Lib.compareInt x1 y1) (Lib.compareInt x2 y2) = r) := Hr
  rw [Hr.out]
  generalize Lib.compareInt x1 y1 = c1 at hcon1 Hr2
  generalize Lib.compareInt x2 y2 = c2 at hcon2 Hr2
  have H1 := Lib.hid hcon1
  have H2 := Lib.hid hcon2
  clear hcon1 hcon2
  go_enter Tryz.func125, Tryz.ntmps125
  go_wp2_with fail
  refine wp_region_draw_tail 10 (by kernel_rfl) (by kernel_rfl) ?_
  simp only [List.take_succ_cons, List.take_zero, List.drop_succ_cons, List.drop_zero]
  repeat (go_big_quiet_step ((first | (go_at_call 158; exact Calls.quiet_of_same (H1.out _)) | (go_at_call 154; exact Calls.quiet_of_same (H2.out _)))))
  refine wpQuiet_nil ?_
  intro q2
  go_wp2_with (go_at_call 157; refine (Or_two _ c1 c2 _ ?c1 ?c2).mono ?_)
  case c1 => exact new_cell _ _ _ _ (by simp) 0
  case c2 => exact new_cell _ _ _ _ (by simp) 1
  rintro e w' ⟨rfl, rfl⟩
  rw [Hr2.out]
  go_wp2
  go_ret
  exact ⟨rfl, q2, _, grow3 W _ _ _ q2⟩

theorem below_grow (W : World) (q : Nat) (os : Array Obj) : Below W.heap.size W (grow (W.drewN q) os) :=
  ⟨rfl, rfl, rfl, by simp [grow], fun k hk => heap_grow_old _ _ hk⟩
theorem compareIDs_any (x1 x2 y1 y2 : Int) (w : World) : Calls Tryz.prog 171 #[.agg #[.int .u64 x1, .int .i64 x2], .agg #[.int .u64 y1, .int .i64 y2]] w (Gives (.int .i64 (cmpID (x1, x2) (y1, y2))) w) :=
  (compareIDs_grow x1 x2 y1 y2 w).mono fun _ _ ⟨he, q, os, hw⟩ => ⟨he, hw ▸ below_grow w q os⟩

def ltID (x y : ID) : Bool := decide (x.1 < y.1 ∨ x.1 = y.1 ∧ x.2 < y.2)
theorem lt_cmpID (x y : ID) : ltOf cmpID x y = ltID x y := by
  unfold ltOf cmpID orI Lib.compareInt ltID
  by_cases h1 : x.1 < y.1
  · simp [h1]
  · by_cases h2 : y.1 < x.1
    · have : ¬ x.1 = y.1 := by omega
      simp [h1, h2, this]
    · have : x.1 = y.1 := by omega
      by_cases h3 : x.2 < y.2
      · simp [this, h3]
      · by_cases h4 : y.2 < x.2 <;> simp [this, h3, h4]
theorem cmpID_lt {x y : ID} (h : ltID x y = true) : cmpID x y < 0 := by
  have := lt_cmpID x y
  rw [h] at this
  simpa [ltOf] using this
theorem cmpID_ge {x y : ID} (h : ltID x y = false) : 0 ≤ cmpID x y := by
  have := lt_cmpID x y
  rw [h] at this
  simpa [ltOf] using this
theorem cmpID_bd (x y : ID) : -1 ≤ cmpID x y ∧ cmpID x y ≤ 1 := by
  unfold cmpID orI Lib.compareInt
  repeat' split
  all_goals omega

set_option maxHeartbeats 1000000 in
theorem Less_any (x1 x2 y1 y2 : Int) (w : World) : Calls Tryz.prog 149 #[.agg #[.int .u64 x1, .int .i64 x2], .agg #[.int .u64 y1, .int .i64 y2]] w (Gives (.bool (ltID (x1, x2) (y1, y2))) w) := by
  have fin : ∀ b : Bool, ltID (x1, x2) (y1, y2) = b → ∀ W, W = (w.alloc (.cells #[.int .u64 x1, .int .i64 x2] 31)).alloc (.cells #[.int .u64 y1, .int .i64 y2] 31) → Gives (.bool (ltID (x1, x2) (y1, y2))) w (.returned (.bool b)) W := by
    rintro b h W rfl
    exact ⟨by rw [h], (bel1 _ _).alloc (by simp) _⟩
  by_cases h1 : x1 < y1
  · go_enter Tryz.func149, Tryz.ntmps149
    go_wp2_with fail
    go_ret
    exact fin _ (by simp [ltID]; omega) _ rfl
  · by_cases h2 : x1 = y1
    · subst h2
      by_cases h3 : x2 < y2
      · have V : Hid (ltID (x1, x2) (x1, y2) = true) := by simp [Hid, ltID]; omega
        go_enter Tryz.func149, Tryz.ntmps149
        go_wp2_with fail
        go_ret
        exact fin _ V.out _ rfl
      · have V : Hid (ltID (x1, x2) (x1, y2) = false) := by simp [Hid, ltID]; omega
        go_enter Tryz.func149, Tryz.ntmps149
        go_wp2_with fail
        go_ret
        exact fin _ V.out _ rfl
    · have hb : (x1 == y1) = false := by rw [beq_eq_false_iff_ne]; exact h2
      have V : Hid (ltID (x1, x2) (y1, y2) = false) := by simp [Hid, ltID]; omega
      go_enter Tryz.func149, Tryz.ntmps149
      go_wp2_with fail
      go_ret
      exact fin _ V.out _ rfl

section
variable {α : Type} [Inhabited α] {enc : α → List Value} {k : Nat} {d : α}
theorem bang_getD (xs : List α) (j : Nat) (hj : j < xs.length) : xs.toArray[j]! = xs.getD j d := by
  rw [List.getElem!_toArray, List.getD_eq_getElem?_getD, List.getElem?_eq_getElem hj, getElem!_pos xs j hj]
  rfl
theorem holdsK_of_own (hk : ∀ y, (enc y).length = k) (hk0 : 0 < k) {w : World} {base g n cap : Nat} {e : TypeId} {xs : List α} (h : w.ownsRow base e k (.slice (some ⟨g, 0, none⟩) n cap) n (xs.flatMap enc)) : HoldsK enc k w g 0 xs.toArray := by
  have hl := h.1
  rw [flat_len hk] at hl
  intro j hj
  rw [size_flatK] at hj
  have hj' : j < xs.length * k := by simpa using hj
  refine ⟨?_, h.frozenAt _⟩
  have hq : j / k < xs.length := by rw [Nat.div_lt_iff_lt_mul hk0]; exact hj'
  have hm : j % k < k := Nat.mod_lt _ hk0
  have hdm : j / k * k + j % k = j := by rw [Nat.mul_comm]; exact Nat.div_add_mod j k
  rw [get_flatK _ _ _ _ hj, Nat.zero_add, h.cellAt j (by omega), bang_getD (d := default) xs _ hq]
  have h1 := flat_at hk default xs (j / k) (j % k) hq hm
  rw [hdm] at h1
  rw [h1]
  have hlt : j % k < (enc (xs.getD (j / k) default)).length := by rw [hk]; exact hm
  rw [List.getElem?_eq_getElem hlt, getElem!_pos (enc (xs.getD (j / k) default)) (j % k) hlt]
  rfl
theorem Rd.of_holds (hk : ∀ y, (enc y).length = k) {w : World} {g x : Nat} {xs : List α} (h : HoldsK enc k w g 0 xs.toArray) (hg : g < w.heap.size) (hx : g ≠ x) : Rd enc k d w x (some ⟨g, 0, none⟩) xs := by
  intro _
  refine ⟨g, 0, rfl, hg, hx, fun j hj i v hi => ?_⟩
  have hik : i < k := by
    have := (List.getElem?_eq_some_iff.1 hi).1
    rwa [hk] at this
  have h0 := (h.cell (i := j) (c := i) (by simpa using hj) hik).1
  rw [bang_getD (d := d) xs j hj] at h0
  have hlt := (List.getElem?_eq_some_iff.1 hi).1
  rw [getElem!_pos (enc (xs.getD j d)) i hlt] at h0
  rw [h0, ← hi, List.getElem?_eq_getElem hlt]

def SortPost (enc : α → List Value) (k : Nat) (d : α) (cf : α → α → Int) (base g x : Nat) (xs : List α) (w : World) (e : Ending) (w' : World) : Prop :=
  e = .returned (.tuple #[]) ∧ (∃ ys, ys.Perm xs ∧ ys.Pairwise (fun a b => ltOf cf b a = false) ∧ Rd enc k d w' x (some ⟨g, 0, none⟩) ys) ∧ Below base w w'

theorem sort_post (hk : ∀ y, (enc y).length = k) {cf : α → α → Int} {f : FuncId} {base g n cap x : Nat} {e : TypeId} {xs : List α} {w : World} {gv : Value} (h : w.ownsRow base e k (.slice (some ⟨g, 0, none⟩) n cap) n (xs.flatMap enc)) (hk0 : 0 < k) (hx : x < base)
    (hcon : Calls Tryz.prog f #[.slice (some ⟨g, 0, none⟩) xs.toArray.size cap, gv] w fun e w' => e = .returned (.tuple #[]) ∧ ∃ d' m os, PermIn 0 xs.toArray.size xs.toArray d' ∧ SortedIn (ltOf cf) 0 xs.toArray.size d' ∧ w' = sortWorldK enc k w g 0 m d' os) :
    Calls Tryz.prog f #[.slice (some ⟨g, 0, none⟩) n cap, gv] w (SortPost enc k d cf base g x xs w) := by
  have hl := h.1
  rw [flat_len hk] at hl
  have hnx : n = xs.toArray.size := by
    have : xs.length = n := Nat.eq_of_mul_eq_mul_right hk0 hl
    simp [this]
  have hg := h.lt g rfl
  rw [← hnx] at hcon
  refine Calls.mono hcon ?_
  rintro e w' ⟨he, d', m, os, hp, hs, rfl⟩
  obtain ⟨hsz, _, hperm⟩ := hp
  rw [hnx, Array.extract_size, show xs.toArray.size = d'.size from hsz.symm, Array.extract_size] at hperm
  have hH := holdsK_putRowK (enc := enc) (k := k) (Sort.ahead w m) g 0 xs.toArray d' (holdsK_of_own hk hk0 h) hsz
  have hgrow : w.grownBy (sortWorldK enc k w g 0 m d' os) (some g) := by
    refine ⟨rfl, rfl, rfl, by simp [sortWorldK, putRowK], fun j hj hne => ?_⟩
    unfold sortWorldK
    rw [heap_grow_old _ _ (by simpa [putRowK] using hj)]
    have : g ≠ j := fun e => hne (by rw [e])
    simp [putRowK, putRow, mapBlock, Sort.ahead, Array.getElem?_modify, this]
  have hg2 : g < (sortWorldK enc k w g 0 m d' os).heap.size := Nat.lt_of_lt_of_le hg.2 hgrow.size
  refine ⟨he, ⟨d'.toList, by simpa using hperm, ?_, Rd.of_holds hk ?_ hg2 (by omega)⟩, (Below.refl _ _).grown hgrow (by omega) (fun q hq => by cases hq; exact hg.1)⟩
  · rw [List.pairwise_iff_getElem]
    intro i j hi hj hij
    have hi' : i < d'.size := by simpa using hi
    have hj' : j < d'.size := by simpa using hj
    have := hs i j (Nat.zero_le _) hij (by omega)
    rw [getElem!_pos d' i hi', getElem!_pos d' j hj'] at this
    simpa using this
  · exact holdsK_grow (enc := enc) (k := k) _ _ _ _ _ (by simpa [putRowK] using hg.2) hH
end

theorem swoID : SWO (ltOf cmpID) where
  irrefl x := by rw [lt_cmpID]; simp [ltID]
  trans x y z h1 h2 := by rw [lt_cmpID] at *; simp [ltID] at *; omega
  ntrans x y z h1 h2 := by rw [lt_cmpID] at *; simp [ltID] at *; omega

theorem sortIDc_any (base g n cap x : Nat) (xs : List ID) (w : World) (h : w.ownsRow base 31 2 (.slice (some ⟨g, 0, none⟩) n cap) n (xs.flatMap encID)) (hx : x < base) (hn : xs.length ≤ 4294967296) :
    Calls Tryz.prog 103 #[.slice (some ⟨g, 0, none⟩) n cap, .func (.func 125) #[] #[]] w (SortPost encID 2 (0, 0) cmpID base g x xs w) := by
  have hg := h.lt g rfl
  have eg : ∀ args w, (callFunc 125 args).run Tryz.prog w = .ok (.enter 125 args) w := enters_of Tryz.func125 (by kernel_rfl) rfl
  exact sort_post encID_len h (by omega) hx (AnyQ.slices_SortFunc Tryz.lay103 2 Tryz.isAgg31 Tryz.sizeOf31 encID (fun _ => rfl) encID_one cmpID swoID 125 #[] g 0 cap xs.toArray w eg
    (fun _ _ _ _ x y => ccmp_grow x.1 x.2 y.1 y.2 _) (holdsK_of_own encID_len (by omega) h) hg.2 (by simp; omega))
end Go.Proofs.YteabgcollokgjaaGreatDoor
namespace Go.Proofs.YteabgcollokgjaaGreatDoor
open Go.RowKit Go.Shelf Go.Sort
attribute [local go_sem] wext_cell

abbrev id0 : ID := (0, 0)
/-- Block g has the IDs l at its head. -/
def RowI (w : World) (g : Nat) (l : List ID) : Prop := ∃ cur, IsB w g 31 cur ∧ l.length * 2 ≤ cur.size ∧ ∀ j, j < l.length → cur[j * 2]? = some (.int .u64 (l.getD j id0).1) ∧ cur[j * 2 + 1]? = some (.int .i64 (l.getD j id0).2)
theorem RowI.on {w w' : World} {g : Nat} {l : List ID} (h : RowI w g l) (hb : Below w.heap.size w w') : RowI w' g l := by
  obtain ⟨cur, h1, h2⟩ := h
  exact ⟨cur, h1.on hb, h2⟩
theorem RowI.cells {w : World} {g : Nat} {l : List ID} (h : RowI w g l) {j : Nat} (hj : j < l.length) {x : ID} (hx : l.getD j id0 = x) : w.cell? ⟨g, j * 2, none⟩ = some (.int .u64 x.1) ∧ w.cell? ⟨g, j * 2 + 1, none⟩ = some (.int .i64 x.2) ∧ w.frozen? ⟨g, j * 2, none⟩ = false ∧ w.frozen? ⟨g, j * 2 + 1, none⟩ = false := by
  obtain ⟨cur, h1, h2, h3⟩ := h
  subst hx
  exact ⟨(h1.cell _).trans (h3 j hj).1, (h1.cell _).trans (h3 j hj).2, h1.frozen _, h1.frozen _⟩
theorem RowI.put {w : World} {g : Nat} {l : List ID} (h : RowI w g l) (k : Nat) (hk : k < l.length) (x : ID) : RowI ((w.setCell ⟨g, k * 2, none⟩ (.int .u64 x.1)).setCell ⟨g, k * 2 + 1, none⟩ (.int .i64 x.2)) g (l.set k x) := by
  obtain ⟨cur, h1, h2, h3⟩ := h
  refine ⟨_, (h1.set_ (k * 2) (.int .u64 x.1)).set_ (k * 2 + 1) (.int .i64 x.2), by simp; omega, fun j hj => ?_⟩
  simp only [List.length_set] at hj
  obtain ⟨c0, c1⟩ := h3 j hj
  by_cases e : k = j
  · subst e
    have e1 : (l.set k x).getD k id0 = x := by rw [List.getD_eq_getElem?_getD, List.getElem?_set_self hk]; rfl
    rw [e1]
    refine ⟨?_, ?_⟩
    · rw [Array.getElem?_setIfInBounds_ne (by omega), Array.getElem?_setIfInBounds_self_of_lt (by omega)]
    · rw [Array.getElem?_setIfInBounds_self_of_lt (by simp; omega)]
  · have e1 : (l.set k x).getD j id0 = l.getD j id0 := by rw [List.getD_eq_getElem?_getD, List.getElem?_set_ne e, List.getD_eq_getElem?_getD]
    rw [e1]
    refine ⟨?_, ?_⟩
    · rw [Array.getElem?_setIfInBounds_ne (by omega), Array.getElem?_setIfInBounds_ne (by omega)]; exact c0
    · rw [Array.getElem?_setIfInBounds_ne (by omega), Array.getElem?_setIfInBounds_ne (by omega)]; exact c1
theorem asc_any (x y : ID) (w : World) : Calls Tryz.prog 104 #[.agg #[], .agg #[.int .u64 x.1, .int .i64 x.2], .agg #[.int .u64 y.1, .int .i64 y.2]] w fun e w' => e = .returned (.int .i64 (cmpID x y)) ∧ Below w.heap.size w w' :=
  (asc_grow x.1 x.2 y.1 y.2 w).mono fun _ _ ⟨he, q, os, hw⟩ => ⟨he, hw ▸ below_grow w q os⟩
/-- The order that the sort leaves. -/
def SortedI (l : List ID) : Prop := l.Pairwise (fun a b => ltID b a = false)
/-- The row while x goes down: ahead of it the first j of S. -/
def midI (S R : List ID) (x : ID) (j : Nat) : List ID := S.take j ++ x :: (S.drop j ++ R)
theorem midI_append (S R : List ID) (x : ID) (j : Nat) : midI S R x j = (S.take j ++ x :: S.drop j) ++ R := by
  unfold midI
  rw [List.append_assoc, List.cons_append]
theorem midI_swap {S R : List ID} {x y : ID} {m : Nat} (hm : m < S.length) (hy : S.getD m id0 = y) : ((midI S R x (m + 1)).set (m + 1) y).set m x = midI S R x m := by
  have hd : S.drop m = y :: S.drop (m + 1) := by
    rw [List.drop_eq_getElem_cons hm, ← hy, List.getD_eq_getElem?_getD, List.getElem?_eq_getElem hm]
    rfl
  have ht : S.take (m + 1) = S.take m ++ [y] := by
    rw [List.take_succ_eq_append_getElem hm, ← hy, List.getD_eq_getElem?_getD, List.getElem?_eq_getElem hm]
    rfl
  have hl : (S.take m).length = m := by rw [List.length_take]; omega
  unfold midI
  rw [ht, hd, List.append_assoc, List.set_append_right _ _ (by omega), hl, show m + 1 - m = 1 by omega]
  simp only [List.cons_append, List.nil_append, List.set_cons_succ, List.set_cons_zero]
  rw [List.set_append_right _ _ (by omega), hl, Nat.sub_self]
  simp
theorem ltID_trans {a b c : ID} (h : ltID b a = false) (k : ltID c b = false) : ltID c a = false := by
  simp only [ltID, decide_eq_false_iff_not] at *
  omega
theorem ltID_asym {a b : ID} (h : ltID a b = true) : ltID b a = false := by
  simp only [ltID, decide_eq_true_eq, decide_eq_false_iff_not] at *
  omega
/-- Where x comes to rest the row is in order. -/
theorem SortedI.ins {S : List ID} {x : ID} {j : Nat} (h : SortedI S) (hjS : j ≤ S.length) (hj : ∀ y ∈ S.drop j, ltID x y = true) (hl : ∀ m, j = m + 1 → ltID x (S.getD m id0) = false) : SortedI (S.take j ++ x :: S.drop j) := by
  unfold SortedI at *
  have h' := h
  rw [← List.take_append_drop j S, List.pairwise_append] at h'
  obtain ⟨h1, h2, h3⟩ := h'
  have hx : ∀ a ∈ S.take j, ltID x a = false := by
    intro a ha
    cases j with
    | zero => simp at ha
    | succ m =>
      have hm : m < S.length := by omega
      have e1 := hl m rfl
      have ht : S.take (m + 1) = S.take m ++ [S.getD m id0] := by
        rw [List.take_succ_eq_append_getElem hm, List.getD_eq_getElem?_getD, List.getElem?_eq_getElem hm]
        rfl
      rw [ht] at ha h1
      rcases List.mem_append.1 ha with ha | ha
      · exact ltID_trans ((List.pairwise_append.1 h1).2.2 a ha _ (by simp)) e1
      · simp at ha
        rw [ha]
        exact e1
  refine List.pairwise_append.2 ⟨h1, List.pairwise_cons.2 ⟨fun b hb => ltID_asym (hj b hb), h2⟩, fun a ha b hb => ?_⟩
  rcases List.mem_cons.1 hb with rfl | hb
  · exact hx a ha
  · exact h3 a ha b hb
abbrev vAsc : Value := .func (.func 104) #[.agg #[]] #[]
theorem mid_perm {S xs : List ID} {x : ID} {i : Nat} (hp : S.Perm (xs.take i)) (hd : xs.drop i = x :: xs.drop (i + 1)) (j : Nat) : (S.take j ++ x :: S.drop j).Perm (xs.take (i + 1)) := by
  have hlt : i < xs.length := by
    rcases Nat.lt_or_ge i xs.length with h | h
    · exact h
    · rw [List.drop_of_length_le h] at hd
      cases hd
  have hx : xs.take (i + 1) = xs.take i ++ [x] := by
    rw [List.take_succ_eq_append_getElem hlt]
    rw [List.drop_eq_getElem_cons hlt] at hd
    injection hd with h1 _
    rw [h1]
  rw [hx]
  refine (List.perm_middle).trans ?_
  rw [List.take_append_drop]
  exact ((hp.cons x).trans (List.perm_append_singleton x _).symm)
set_option maxRecDepth 100000 in
set_option maxHeartbeats 4000000 in
theorem insI_any (g c : Nat) (xs : List ID) (w : World) (h : RowI w g xs) (hn : xs.length ≤ 1000) (hg : g < w.heap.size) :
    Calls Tryz.prog 202 #[.slice (some ⟨g, 0, none⟩) xs.length c, .int .i64 0, .int .i64 xs.length, vAsc] w (fun e w' => e = .returned (.tuple #[]) ∧ (∃ ys, ys.Perm xs ∧ SortedI ys ∧ RowI w' g ys) ∧ w.grownBy w' (some g)) := by
  have H := Lib.hid h
  clear h
  go_enter Tryz.func202, Tryz.ntmps202
  go_wp2_with fail
  go_loopw [8] (fun v wr => ∃ (i : Nat) (S : List ID), 1 ≤ i ∧ i ≤ max xs.length 1 ∧ v = .int .i64 i ∧ Hid (S.length = min i xs.length) ∧ SortedI S ∧ S.Perm (xs.take i) ∧ RowI wr g (S ++ xs.drop i) ∧ w.grownBy wr (some g)) (fun v _ => xs.length - (intOf v).toNat)
  case atStart =>
    refine ⟨1, xs.take 1, by omega, by omega, rfl, by simp [Hid], ?_, List.Perm.refl _, by rw [List.take_append_drop]; exact H.out, g_refl _ _⟩
    unfold SortedI
    cases xs with
    | nil => simp
    | cons a l => simp
  case round =>
    obtain ⟨i, S, hi1, hi2, rfl, HL, hs, hp, hr, hgr⟩ := hrel
    have HS := Lib.hid hs
    have HP := Lib.hid hp
    have HR := Lib.hid hr
    have HG := Lib.hid hgr
    clear hs hp hr hgr
    by_cases hlt : i < xs.length
    · go_wp2_with fail
      have hSl : S.length = i := by rw [HL.out]; omega
      obtain ⟨x, HX⟩ : ∃ x, Hid (xs.getD i id0 = x) := ⟨_, rfl⟩
      have hdrop : xs.drop i = x :: xs.drop (i + 1) := by
        rw [List.drop_eq_getElem_cons hlt, ← HX.out, List.getD_eq_getElem?_getD, List.getElem?_eq_getElem hlt]
        rfl
      have HD := Lib.hid hdrop
      have M0 : Hid (RowI wr g (midI S (xs.drop (i + 1)) x i)) := by
        rw [Hid, midI, ← hSl, List.take_length, List.drop_length, List.nil_append, hSl, ← hdrop]
        exact HR.out
      have HSl := Lib.hid hSl
      clear hdrop hSl HL
      go_loopw [9] (fun v wq => ∃ j : Nat, j ≤ i ∧ v = .int .i64 j ∧ RowI wq g (midI S (xs.drop (i + 1)) x j) ∧ (∀ y ∈ S.drop j, ltID x y = true) ∧ w.grownBy wq (some g)) (fun v _ => (intOf v).toNat)
      case atStart => exact ⟨i, Nat.le_refl _, rfl, M0.out, (by rw [← HSl.out, List.drop_length]; simp), HG.out⟩
      case round =>
        rename World => wq
        obtain ⟨j, hj, rfl, hr, hlts, hgr⟩ := hrel
        have RQ := Lib.hid hr
        have LQ := Lib.hid hlts
        have GQ := Lib.hid hgr
        clear hr hlts hgr
        have hgq : g < wq.heap.size := Nat.lt_of_lt_of_le hg GQ.out.size
        by_cases hj0 : j = 0
        · have hjf : decide (0 < j) = false := by simp [hj0]
          have HJ0 := Lib.hid hj0
          clear hj0
          go_wp2_with fail
          go_quiet (fail)
          go_wp2_with fail
          go_roundw
          case rel =>
            have hj0 := HJ0.out
            subst hj0
            refine ⟨i + 1, S.take 0 ++ x :: S.drop 0, by omega, by omega, by go_num, ?_, HS.out.ins (by omega) LQ.out (fun m e => by omega), ?_, ?_, g_drewN GQ.out _⟩
            · rw [Hid]; simp [HSl.out]; omega
            · exact mid_perm HP.out HD.out 0
            · have := RQ.out
              rw [midI_append] at this
              exact this
          case measure => simp [intOf]; omega
        · obtain ⟨m, rfl⟩ : ∃ m, j = m + 1 := ⟨j - 1, by omega⟩
          clear hj0
          obtain ⟨y, HY⟩ : ∃ y, Hid (S.getD m id0 = y) := ⟨_, rfl⟩
          have hml : (midI S (xs.drop (i + 1)) x (m + 1)).length = xs.length := by
            unfold midI
            simp only [List.length_append, List.length_take, List.length_cons, List.length_drop]
            have := HSl.out
            omega
          have g1 : (midI S (xs.drop (i + 1)) x (m + 1)).getD (m + 1) id0 = x := by
            unfold midI
            rw [List.getD_eq_getElem?_getD, List.getElem?_append_right (by rw [List.length_take]; omega), List.length_take, show m + 1 - min (m + 1) S.length = 0 by have := HSl.out; omega]
            rfl
          have g0 : (midI S (xs.drop (i + 1)) x (m + 1)).getD m id0 = y := by
            unfold midI
            rw [List.getD_eq_getElem?_getD, List.getElem?_append_left (by rw [List.length_take]; have := HSl.out; omega), List.getElem?_take_of_lt (by omega), ← List.getD_eq_getElem?_getD]
            exact HY.out
          obtain ⟨a0, a1, a2, a3⟩ := RQ.out.cells (j := m + 1) (by omega) g1
          obtain ⟨b0, b1, b2, b3⟩ := RQ.out.cells (j := m) (by omega) g0
          have ML := Lib.hid hml
          have G1x := Lib.hid g1
          have G0x := Lib.hid g0
          clear hml g1 g0
          by_cases hc : ltID x y = true
          · have hcm : decide (cmpID x y < 0) = true := by simpa using cmpID_lt hc
            have HC := Lib.hid hc
            clear hc
            go_wp2_with fail
            refine wp_region_ext (by kernel_rfl) (by kernel_rfl) ?_
            repeat (go_big_quiet_step ((go_at_call 104; exact ext_call (asc_any x y _))))
            refine wpQuiet_nil ?_
            intro w1 hb1
            have R1 : Hid (RowI w1 g (midI S (xs.drop (i + 1)) x (m + 1))) := RQ.out.on hb1
            have G1 : Hid (w.grownBy w1 (some g)) := g_below GQ.out hb1
            clear a0 a1 a2 a3 b0 b1 b2 b3 hcm
            obtain ⟨a0, a1, a2, a3⟩ := R1.out.cells (j := m + 1) (by rw [ML.out]; omega) G1x.out
            obtain ⟨b0, b1, b2, b3⟩ := R1.out.cells (j := m) (by rw [ML.out]; omega) G0x.out
            clear hb1
            go_wp2_with fail
            go_region
            go_wp2_with fail
            go_roundw
            case rel =>
              have hSl := HSl.out
              have P1 := R1.out.put (m + 1) (by rw [ML.out]; omega) y
              have P2 := P1.put m (by rw [List.length_set, ML.out]; omega) x
              rw [midI_swap (by omega) HY.out] at P2
              refine ⟨m, by omega, by go_num, P2, fun z hz => ?_, ?_⟩
              · have hd : S.drop m = y :: S.drop (m + 1) := by
                  rw [List.drop_eq_getElem_cons (by omega), ← HY.out, List.getD_eq_getElem?_getD, List.getElem?_eq_getElem (by omega)]
                  rfl
                rw [hd] at hz
                rcases List.mem_cons.1 hz with rfl | hz
                · exact HC.out
                · exact LQ.out z hz
              · have hgg := g_set (p := ⟨g, m * 2 + 1, none⟩) (g_set (p := ⟨g, m * 2, none⟩) (g_set (p := ⟨g, (m + 1) * 2 + 1, none⟩) (g_set (p := ⟨g, (m + 1) * 2, none⟩) G1.out (.inl rfl) (.int .u64 y.1)) (.inl rfl) (.int .i64 y.2)) (.inl rfl) (.int .u64 x.1)) (.inl rfl) (.int .i64 x.2)
                exact ⟨hgg.os, hgg.tape, hgg.output, hgg.size, hgg.block⟩
            case measure => simp [intOf]
          · have hcf : ltID x y = false := by simpa using hc
            have hcm : decide (cmpID x y < 0) = false := by simpa using cmpID_ge hcf
            have HC := Lib.hid hcf
            clear hc hcf
            go_wp2_with fail
            refine wp_region_ext (by kernel_rfl) (by kernel_rfl) ?_
            repeat (go_big_quiet_step ((go_at_call 104; exact ext_call (asc_any x y _))))
            refine wpQuiet_nil ?_
            intro w1 hb1
            have R1 : Hid (RowI w1 g (midI S (xs.drop (i + 1)) x (m + 1))) := RQ.out.on hb1
            have G1 : Hid (w.grownBy w1 (some g)) := g_below GQ.out hb1
            clear a0 a1 a2 a3 b0 b1 b2 b3 hcm hb1
            go_wp2_with fail
            go_roundw
            case rel =>
              have hSl := HSl.out
              refine ⟨i + 1, S.take (m + 1) ++ x :: S.drop (m + 1), by omega, by omega, by go_num, ?_, HS.out.ins (by omega) LQ.out (fun m' e => ?_), ?_, ?_, G1.out⟩
              · rw [Hid]; simp [hSl]; omega
              · obtain rfl : m = m' := by omega
                rw [HY.out]
                exact HC.out
              · exact mid_perm HP.out HD.out (m + 1)
              · have := R1.out
                rw [midI_append] at this
                exact this
            case measure => simp [intOf]; omega
    · go_wp2_with fail
      go_end0
      refine ⟨rfl, ⟨S, ?_, HS.out, ?_⟩, HG.out⟩
      · have := HP.out
        rwa [List.take_of_length_le (by omega)] at this
      · have := HR.out
        rwa [List.drop_of_length_le (by omega), List.append_nil] at this
end Go.Proofs.YteabgcollokgjaaGreatDoor
namespace Go.Proofs.YteabgcollokgjaaGreatDoor
open Go.RowKit Go.Shelf Go.Sort

theorem bits_len_any (n : Nat) (w : World) (hn : n ≤ 1000) : Calls Tryz.prog 151 #[.int .u64 (n : Int)] w fun e w' => (∃ k : Int, e = .returned (.int .i64 k)) ∧ w = w' :=
  (Tryz.bits_Len n w (by omega) (by omega)).mono fun _ _ h => ⟨⟨_, h.1⟩, h.2.symm⟩
set_option maxRecDepth 100000 in
set_option maxHeartbeats 4000000 in
theorem pdqI_any (g c : Nat) (xs : List ID) (k : Int) (w : World) (h : RowI w g xs) (hn : xs.length ≤ 12) (hg : g < w.heap.size) :
    Calls Tryz.prog 156 #[.slice (some ⟨g, 0, none⟩) xs.length c, .int .i64 0, .int .i64 xs.length, .int .i64 k, vAsc] w (fun e w' => e = .returned (.tuple #[]) ∧ (∃ ys, ys.Perm xs ∧ SortedI ys ∧ RowI w' g ys) ∧ w.grownBy w' (some g)) := by
  have H := Lib.hid h
  clear h
  go_enter Tryz.func156, Tryz.ntmps156
  go_wp2_with fail
  refine wp_loop_rounds 1 ?_
  rw [rounds_succ]
  go_wp2_with (go_at_call 202; refine (insI_any g c xs w H.out (by omega) hg).mono ?_; rintro e w1 ⟨rfl, hy, hgr⟩; have HY := Lib.hid hy; have HG := Lib.hid hgr; clear hy hgr)
  refine bodyPost_ret (v := .tuple #[]) (results_none rfl _ _ _) rfl ?_
  exact ⟨rfl, HY.out, HG.out⟩
set_option maxRecDepth 100000 in
set_option maxHeartbeats 4000000 in
theorem sortI_any (g c : Nat) (xs : List ID) (w : World) (h : RowI w g xs) (hn : xs.length ≤ 12) (hg : g < w.heap.size) :
    Calls Tryz.prog 103 #[.slice (some ⟨g, 0, none⟩) xs.length c, vAsc] w (fun e w' => e = .returned (.tuple #[]) ∧ (∃ ys, ys.Perm xs ∧ SortedI ys ∧ RowI w' g ys) ∧ w.grownBy w' (some g)) := by
  have H := Lib.hid h
  clear h
  go_enter Tryz.func103, Tryz.ntmps103
  go_wp2_with (first | (go_at_call 151; refine (bits_len_any xs.length _ (by omega)).mono ?_; rintro e w1 ⟨⟨k, rfl⟩, rfl⟩) | (go_at_call 156; refine (pdqI_any g c xs _ w H.out hn hg).mono ?_; rintro e w1 ⟨rfl, hy, hgr⟩; have HY := Lib.hid hy; have HG := Lib.hid hgr; clear hy hgr))
  go_end0
  exact ⟨rfl, HY.out, HG.out⟩
end Go.Proofs.YteabgcollokgjaaGreatDoor
namespace Go.Proofs.YteabgcollokgjaaGreatDoor
open Go.RowKit Go.MapKept Go.ChangeMaps Go.Shelf

set_option maxRecDepth 100000 in
set_option maxHeartbeats 1000000 in
theorem insN_any (w : World) : Calls Tryz.prog 202 #[.slice none 0 0, .int .i64 0, .int .i64 0, vAsc] w (fun e w' => e = .returned (.tuple #[]) ∧ w = w') := by
  go_enter Tryz.func202, Tryz.ntmps202
  go_wp2_with fail
  refine wp_loop_rounds 1 ?_
  rw [rounds_succ]
  go_wp2_with fail
  go_end0
  exact ⟨rfl, rfl⟩
set_option maxRecDepth 100000 in
set_option maxHeartbeats 1000000 in
theorem pdqN_any (k : Int) (w : World) : Calls Tryz.prog 156 #[.slice none 0 0, .int .i64 0, .int .i64 0, .int .i64 k, vAsc] w (fun e w' => e = .returned (.tuple #[]) ∧ w = w') := by
  go_enter Tryz.func156, Tryz.ntmps156
  go_wp2_with fail
  refine wp_loop_rounds 1 ?_
  rw [rounds_succ]
  go_wp2_with (go_at_call 202; refine (insN_any _).mono ?_; rintro e w1 ⟨rfl, rfl⟩)
  refine bodyPost_ret (v := .tuple #[]) (results_none rfl _ _ _) rfl ?_
  exact ⟨rfl, rfl⟩
set_option maxRecDepth 100000 in
set_option maxHeartbeats 1000000 in
theorem sortN_any (w : World) : Calls Tryz.prog 103 #[.slice none 0 0, vAsc] w (fun e w' => e = .returned (.tuple #[]) ∧ w = w') := by
  go_enter Tryz.func103, Tryz.ntmps103
  go_wp2_with (first | (go_at_call 151; refine (bits_len_any 0 _ (by omega)).mono ?_; rintro e w1 ⟨⟨k, rfl⟩, rfl⟩) | (go_at_call 156; refine (pdqN_any _ _).mono ?_; rintro e w1 ⟨rfl, rfl⟩))
  go_end0
  exact ⟨rfl, rfl⟩
end Go.Proofs.YteabgcollokgjaaGreatDoor
