/- Contracts of the walk, part 5. -/
import Derived.Sort.Walk0
import Derived.Shelf.SlSortCmp.Insertion
import Derived.Lib.Small
import Derived.Test.YtmiknfneeipkeaaGreatQ04
import Derived.Test.YtmiknfneeipkeaaGreatQ03
namespace Go.Proofs.YtmiknfneeipkeaaGreat
open Go.RowKit Go.Shelf Go.Sort
attribute [local go_sem] wext_cell
/-- What comes back, with new memory alone. -/
def Gives (v : Value) (w : World) (e : Ending) (w' : World) : Prop := e = .returned v ∧ Below w.heap.size w w'
theorem gv {a r : Int} {w W : World} (h : a = r) (hb : Below w.heap.size w W) : Gives (.int .i64 a) w (.returned (.int .i64 r)) W := ⟨by rw [h], hb⟩
theorem encID_one (i : ID) : ∀ u ∈ encID i, u.oneCell' = true := by
  intro u hu
  simp [encID] at hu
  rcases hu with rfl | rfl <;> rfl
abbrev RdID (w : World) (x : Nat) (A : Option Addr) (l : List ID) : Prop := Rd encID 2 (0, 0) w x A l
theorem info36 : (Tryz.prog.info? 36).map (fun i => (i.zero, i.size, i.bytes)) = some (some (.agg #[.int .u64 0, .int .i64 0]), 2, 16) := by kernel_rfl
def orI (a b : Int) : Int := if a = 0 then b else a

theorem nan65 (x : Int) (w : World) : Calls Tryz.prog 143 #[.int .u64 x] w fun e w' => e = .returned (.bool false) ∧ w' = w := by
  go_enter Tryz.func143, Tryz.ntmps143
  go_wp2
  go_ret
  exact ⟨by simp, rfl⟩
set_option maxHeartbeats 1000000 in
theorem cmpU_any (x y : Int) (w : World) : Calls Tryz.prog 107 #[.int .u64 x, .int .u64 y] w fun e w' => e = .returned (.int .i64 (Lib.compareInt x y)) ∧ w' = w := by
  go_enter Tryz.func107, Tryz.ntmps107
  go_wp2_with (go_at_call 143; refine (nan65 _ _).mono ?_; rintro e w' ⟨rfl, hw⟩; rw [hw])
  all_goals (go_ret; refine ⟨?_, rfl⟩; unfold Lib.compareInt; (repeat' split) <;> first | rfl | (exfalso; omega))

theorem nan66 (x : Int) (w : World) : Calls Tryz.prog 144 #[.int .i64 x] w fun e w' => e = .returned (.bool false) ∧ w' = w := by
  go_enter Tryz.func144, Tryz.ntmps144
  go_wp2
  go_ret
  exact ⟨by simp, rfl⟩
set_option maxHeartbeats 1000000 in
theorem cmpI_any (x y : Int) (w : World) : Calls Tryz.prog 108 #[.int .i64 x, .int .i64 y] w fun e w' => e = .returned (.int .i64 (Lib.compareInt x y)) ∧ w' = w := by
  go_enter Tryz.func108, Tryz.ntmps108
  go_wp2_with (go_at_call 144; refine (nan66 _ _).mono ?_; rintro e w' ⟨rfl, hw⟩; rw [hw])
  all_goals (go_ret; refine ⟨?_, rfl⟩; unfold Lib.compareInt; (repeat' split) <;> first | rfl | (exfalso; omega))

set_option maxHeartbeats 400000 in
theorem Or_two (g : Nat) (a b : Int) (w : World) (h0 : w.cell? ⟨g, 0, none⟩ = some (.int .i64 a)) (h1 : w.cell? ⟨g, 1, none⟩ = some (.int .i64 b)) :
    Calls Tryz.prog 106 #[.slice (some ⟨g, 0, none⟩) 2 2] w fun e w' => e = .returned (.int .i64 (orI a b)) ∧ w = w' := by
  obtain ⟨r, Hr⟩ : ∃ r, Hid (orI a b = r) := ⟨_, rfl⟩
  rw [Hr.out]
  go_enter Tryz.func106, Tryz.ntmps106
  go_wp2
  go_loop [8] (fun i => ∃ k : Nat, k ≤ 2 ∧ i = .int .i64 k ∧ Hid (0 < k → a = 0) ∧ Hid (1 < k → b = 0)) (fun i => 2 - (intOf i).toNat)
  case atStart => exact ⟨0, by omega, rfl, fun h => absurd h (by omega), fun h => absurd h (by omega)⟩
  case round =>
    obtain ⟨k, hk, rfl, HA, HB⟩ := hrel
    by_cases hk0 : k = 0
    · have hc : w.cell? ⟨g, k, none⟩ = some (.int .i64 a) := by rw [hk0]; exact h0
      have Hk := Lib.hid hk0
      have hk2 : k < 2 := by omega
      clear h0 h1 hk0
      by_cases ha : a = 0
      · have hb' : (a != 0) = false := by simp [ha]
        have Ha := Lib.hid ha
        clear ha
        go_wp2
        go_round
        case rel => exact ⟨k + 1, by omega, by go_num, fun _ => Ha.out, fun h => absurd h (by have := Hk.out; omega)⟩
        case measure => simp [intOf]; omega
      · have hb' : (a != 0) = true := by simp [ha]
        have hr : r = a := by rw [← Hr.out, orI, if_neg ha]
        subst hr
        clear ha
        go_wp2
        go_ret
        exact ⟨rfl, rfl⟩
    · by_cases hk1 : k = 1
      · have hc : w.cell? ⟨g, k, none⟩ = some (.int .i64 b) := by rw [hk1]; exact h1
        have Hk := Lib.hid hk1
        have hk2 : k < 2 := by omega
        have hr : r = b := by rw [← Hr.out, orI, if_pos (HA.out (by omega))]
        subst hr
        clear h0 h1 hk0 hk1
        by_cases hb : r = 0
        · have hb' : (r != 0) = false := by simp [hb]
          have Hb := Lib.hid hb
          clear hb
          go_wp2
          go_round
          case rel => exact ⟨k + 1, by omega, by go_num, fun _ => HA.out (by have := Hk.out; omega), fun _ => Hb.out⟩
          case measure => simp [intOf]; omega
        · have hb' : (r != 0) = true := by simp [hb]
          clear hb
          go_wp2
          go_ret
          exact ⟨rfl, rfl⟩
      · have hk2 : ¬ k < 2 := by omega
        have hr : r = 0 := by rw [← Hr.out, orI, if_pos (HA.out (by omega)), HB.out (by omega)]
        subst hr
        go_wp2
        go_ret
        exact ⟨rfl, rfl⟩

theorem grow3 (W : World) (a b c : Obj) (q : Nat) : (((W.alloc a).alloc b).drewN q).alloc c = grow (W.drewN q) #[a, b, c] := by
  show ((((W.drewN q).alloc a).alloc b).alloc c) = grow (W.drewN q) #[a, b, c]
  rw [alloc_eq_grow, alloc_eq_grow, alloc_eq_grow, grow_grow, grow_grow]
  rfl


def cmpID (x y : ID) : Int := orI (Lib.compareInt x.1 y.1) (Lib.compareInt x.2 y.2)

theorem grow4 (W : World) (a b c d : Obj) (q : Nat) : ((((W.alloc a).alloc b).alloc c).drewN q).alloc d = grow (W.drewN q) #[a, b, c, d] := by
  show (((((W.drewN q).alloc a).alloc b).alloc c).alloc d) = grow (W.drewN q) #[a, b, c, d]
  rw [alloc_eq_grow, alloc_eq_grow, alloc_eq_grow, alloc_eq_grow, grow_grow, grow_grow, grow_grow]
  rfl
set_option maxHeartbeats 1000000 in
theorem compareIDs_grow (x1 x2 y1 y2 : Int) (W : World) : Calls Tryz.prog 111 #[.agg #[.int .u64 x1, .int .i64 x2], .agg #[.int .u64 y1, .int .i64 y2]] W fun e w' => e = .returned (.int .i64 (cmpID (x1, x2) (y1, y2))) ∧ ∃ q os', w' = grow (W.drewN q) os' := by
  have hcon1 := fun W' => cmpU_any x1 y1 W'
  have hcon2 := fun W' => cmpI_any x2 y2 W'
  obtain ⟨r, Hr⟩ : ∃ r, Hid (cmpID (x1, x2) (y1, y2) = r) := ⟨_, rfl⟩
  have Hr2 : Hid (orI (Lib.compareInt x1 y1) (Lib.compareInt x2 y2) = r) := Hr
  rw [Hr.out]
  generalize Lib.compareInt x1 y1 = c1 at hcon1 Hr2
  generalize Lib.compareInt x2 y2 = c2 at hcon2 Hr2
  have H1 := Lib.hid hcon1
  have H2 := Lib.hid hcon2
  clear hcon1 hcon2
  go_enter Tryz.func111, Tryz.ntmps111
  go_wp2_with fail
  refine wp_region_draw_tail 10 (by kernel_rfl) (by kernel_rfl) ?_
  simp only [List.take_succ_cons, List.take_zero, List.drop_succ_cons, List.drop_zero]
  repeat (go_big_quiet_step ((first | (go_at_call 107; exact Calls.quiet_of_same (H1.out _)) | (go_at_call 108; exact Calls.quiet_of_same (H2.out _)))))
  refine wpQuiet_nil ?_
  intro q2
  go_wp2_with (go_at_call 106; refine (Or_two _ c1 c2 _ ?c1 ?c2).mono ?_)
  case c1 => exact new_cell _ _ _ _ (by simp) 0
  case c2 => exact new_cell _ _ _ _ (by simp) 1
  rintro e w' ⟨rfl, rfl⟩
  rw [Hr2.out]
  go_wp2
  go_ret
  exact ⟨rfl, q2, _, grow3 W _ _ _ q2⟩

set_option maxHeartbeats 1000000 in
theorem acmp_grow (x1 x2 y1 y2 : Int) (W : World) : Calls Tryz.prog 55 #[.agg #[.int .u64 x1, .int .i64 x2], .agg #[.int .u64 y1, .int .i64 y2]] W fun e w' => e = .returned (.int .i64 (cmpID (x1, x2) (y1, y2))) ∧ ∃ q os', w' = grow (W.drewN q) os' := by
  have hcon1 := fun W' => cmpU_any x1 y1 W'
  have hcon2 := fun W' => cmpI_any x2 y2 W'
  obtain ⟨r, Hr⟩ : ∃ r, Hid (cmpID (x1, x2) (y1, y2) = r) := ⟨_, rfl⟩
  have Hr2 : Hid (orI (Lib.compareInt x1 y1) (Lib.compareInt x2 y2) = r) := Hr
  rw [Hr.out]
  generalize Lib.compareInt x1 y1 = c1 at hcon1 Hr2
  generalize Lib.compareInt x2 y2 = c2 at hcon2 Hr2
  have H1 := Lib.hid hcon1
  have H2 := Lib.hid hcon2
  clear hcon1 hcon2
  go_enter Tryz.func55, Tryz.ntmps55
  go_wp2_with fail
  refine wp_region_draw_tail 10 (by kernel_rfl) (by kernel_rfl) ?_
  simp only [List.take_succ_cons, List.take_zero, List.drop_succ_cons, List.drop_zero]
  repeat (go_big_quiet_step ((first | (go_at_call 107; exact Calls.quiet_of_same (H1.out _)) | (go_at_call 108; exact Calls.quiet_of_same (H2.out _)))))
  refine wpQuiet_nil ?_
  intro q2
  go_wp2_with (go_at_call 106; refine (Or_two _ c1 c2 _ ?c1 ?c2).mono ?_)
  case c1 => exact new_cell _ _ _ _ (by simp) 0
  case c2 => exact new_cell _ _ _ _ (by simp) 1
  rintro e w' ⟨rfl, rfl⟩
  rw [Hr2.out]
  go_wp2
  go_ret
  exact ⟨rfl, q2, _, grow3 W _ _ _ q2⟩

set_option maxHeartbeats 1000000 in
theorem pcmp_grow (x1 x2 y1 y2 : Int) (W : World) : Calls Tryz.prog 90 #[.agg #[.int .u64 x1, .int .i64 x2], .agg #[.int .u64 y1, .int .i64 y2]] W fun e w' => e = .returned (.int .i64 (cmpID (x1, x2) (y1, y2))) ∧ ∃ q os', w' = grow (W.drewN q) os' := by
  have hcon1 := fun W' => cmpU_any x1 y1 W'
  have hcon2 := fun W' => cmpI_any x2 y2 W'
  obtain ⟨r, Hr⟩ : ∃ r, Hid (cmpID (x1, x2) (y1, y2) = r) := ⟨_, rfl⟩
  have Hr2 : Hid (orI (Lib.compareInt x1 y1) (Lib.compareInt x2 y2) = r) := Hr
  rw [Hr.out]
  generalize Lib.compareInt x1 y1 = c1 at hcon1 Hr2
  generalize Lib.compareInt x2 y2 = c2 at hcon2 Hr2
  have H1 := Lib.hid hcon1
  have H2 := Lib.hid hcon2
  clear hcon1 hcon2
  go_enter Tryz.func90, Tryz.ntmps90
  go_wp2_with fail
  refine wp_region_draw_tail 10 (by kernel_rfl) (by kernel_rfl) ?_
  simp only [List.take_succ_cons, List.take_zero, List.drop_succ_cons, List.drop_zero]
  repeat (go_big_quiet_step ((first | (go_at_call 107; exact Calls.quiet_of_same (H1.out _)) | (go_at_call 108; exact Calls.quiet_of_same (H2.out _)))))
  refine wpQuiet_nil ?_
  intro q2
  go_wp2_with (go_at_call 106; refine (Or_two _ c1 c2 _ ?c1 ?c2).mono ?_)
  case c1 => exact new_cell _ _ _ _ (by simp) 0
  case c2 => exact new_cell _ _ _ _ (by simp) 1
  rintro e w' ⟨rfl, rfl⟩
  rw [Hr2.out]
  go_wp2
  go_ret
  exact ⟨rfl, q2, _, grow3 W _ _ _ q2⟩

theorem below_grow (W : World) (q : Nat) (os : Array Obj) : Below W.heap.size W (grow (W.drewN q) os) :=
  ⟨rfl, rfl, rfl, by simp [grow], fun k hk => heap_grow_old _ _ hk⟩
theorem compareIDs_any (x1 x2 y1 y2 : Int) (w : World) : Calls Tryz.prog 111 #[.agg #[.int .u64 x1, .int .i64 x2], .agg #[.int .u64 y1, .int .i64 y2]] w (Gives (.int .i64 (cmpID (x1, x2) (y1, y2))) w) :=
  (compareIDs_grow x1 x2 y1 y2 w).mono fun _ _ ⟨he, q, os, hw⟩ => ⟨he, hw ▸ below_grow w q os⟩

theorem acmp_any (x1 x2 y1 y2 : Int) (w : World) : Calls Tryz.prog 55 #[.agg #[.int .u64 x1, .int .i64 x2], .agg #[.int .u64 y1, .int .i64 y2]] w (Gives (.int .i64 (cmpID (x1, x2) (y1, y2))) w) :=
  (acmp_grow x1 x2 y1 y2 w).mono fun _ _ ⟨he, q, os, hw⟩ => ⟨he, hw ▸ below_grow w q os⟩
theorem pcmp_any (x1 x2 y1 y2 : Int) (w : World) : Calls Tryz.prog 90 #[.agg #[.int .u64 x1, .int .i64 x2], .agg #[.int .u64 y1, .int .i64 y2]] w (Gives (.int .i64 (cmpID (x1, x2) (y1, y2))) w) :=
  (pcmp_grow x1 x2 y1 y2 w).mono fun _ _ ⟨he, q, os, hw⟩ => ⟨he, hw ▸ below_grow w q os⟩
def ltID (x y : ID) : Bool := decide (x.1 < y.1 ∨ x.1 = y.1 ∧ x.2 < y.2)
theorem lt_cmpID (x y : ID) : ltOf cmpID x y = ltID x y := by
  unfold ltOf cmpID orI Lib.compareInt ltID
  by_cases h1 : x.1 < y.1
  · simp [h1]
  · by_cases h2 : y.1 < x.1
    · have : ¬ x.1 = y.1 := by omega
      simp [h1, h2, this]
    · have : x.1 = y.1 := by omega
      by_cases h3 : x.2 < y.2
      · simp [this, h3]
      · by_cases h4 : y.2 < x.2 <;> simp [this, h3, h4]
theorem cmpID_lt {x y : ID} (h : ltID x y = true) : cmpID x y < 0 := by
  have := lt_cmpID x y
  rw [h] at this
  simpa [ltOf] using this
theorem cmpID_ge {x y : ID} (h : ltID x y = false) : 0 ≤ cmpID x y := by
  have := lt_cmpID x y
  rw [h] at this
  simpa [ltOf] using this
theorem cmpID_bd (x y : ID) : -1 ≤ cmpID x y ∧ cmpID x y ≤ 1 := by
  unfold cmpID orI Lib.compareInt
  repeat' split
  all_goals omega

set_option maxHeartbeats 1000000 in
theorem Less_any (x1 x2 y1 y2 : Int) (w : World) : Calls Tryz.prog 71 #[.agg #[.int .u64 x1, .int .i64 x2], .agg #[.int .u64 y1, .int .i64 y2]] w (Gives (.bool (ltID (x1, x2) (y1, y2))) w) := by
  have fin : ∀ b : Bool, ltID (x1, x2) (y1, y2) = b → ∀ W, W = (w.alloc (.cells #[.int .u64 x1, .int .i64 x2] 36)).alloc (.cells #[.int .u64 y1, .int .i64 y2] 36) → Gives (.bool (ltID (x1, x2) (y1, y2))) w (.returned (.bool b)) W := by
    rintro b h W rfl
    exact ⟨by rw [h], (bel1 _ _).alloc (by simp) _⟩
  by_cases h1 : x1 < y1
  · go_enter Tryz.func71, Tryz.ntmps71
    go_wp2_with fail
    go_ret
    exact fin _ (by simp [ltID]; omega) _ rfl
  · by_cases h2 : x1 = y1
    · subst h2
      by_cases h3 : x2 < y2
      · have V : Hid (ltID (x1, x2) (x1, y2) = true) := by simp [Hid, ltID]; omega
        go_enter Tryz.func71, Tryz.ntmps71
        go_wp2_with fail
        go_ret
        exact fin _ V.out _ rfl
      · have V : Hid (ltID (x1, x2) (x1, y2) = false) := by simp [Hid, ltID]; omega
        go_enter Tryz.func71, Tryz.ntmps71
        go_wp2_with fail
        go_ret
        exact fin _ V.out _ rfl
    · have hb : (x1 == y1) = false := by rw [beq_eq_false_iff_ne]; exact h2
      have V : Hid (ltID (x1, x2) (y1, y2) = false) := by simp [Hid, ltID]; omega
      go_enter Tryz.func71, Tryz.ntmps71
      go_wp2_with fail
      go_ret
      exact fin _ V.out _ rfl

theorem swoID : SWO (ltOf cmpID) where
  irrefl x := by rw [lt_cmpID]; simp [ltID]
  trans x y z h1 h2 := by rw [lt_cmpID] at *; simp [ltID] at *; omega
  ntrans x y z h1 h2 := by rw [lt_cmpID] at *; simp [ltID] at *; omega
end Go.Proofs.YtmiknfneeipkeaaGreat
namespace Go.Proofs.YtmiknfneeipkeaaGreat
open Go.RowKit
attribute [local go_sem] wext_cell
def sumZ (l : List ID) : Int := (l.map (·.2)).sum
theorem sumZ_snoc (l : List ID) (i : ID) : sumZ (l ++ [i]) = sumZ l + i.2 := by simp [sumZ]
/-- A manifest of few chunks. -/
structure Man where
  size : Int
  ids : List ID
/-- A manifest as it lies in memory: its size; the slice of its chunks. -/
structure MR where
  size : Int
  A : Option Addr
  len : Nat
  cap : Nat
def encMR (r : MR) : List Value := [.int .i64 r.size, .slice r.A r.len r.cap]
def mr0 : MR := ⟨0, none, 0, 0⟩
def man0 : Man := ⟨0, []⟩
theorem encMR_len (r : MR) : (encMR r).length = 2 := rfl
theorem encMR_one (r : MR) : ∀ u ∈ encMR r, u.oneCell' = true := by
  intro u hu
  simp [encMR] at hu
  rcases hu with rfl | rfl <;> rfl
/-- r is m. -/
def Link (w : World) (x : Nat) (r : MR) (m : Man) : Prop := r.size = m.size ∧ r.len = m.ids.length ∧ r.len ≤ r.cap ∧ RdID w x r.A m.ids
/-- The slice value '.slice A ms.length c' holds the manifests ms. -/
def RdM (w : World) (x : Nat) (A : Option Addr) (ms : List Man) : Prop :=
  ∃ rs : List MR, Rd encMR 2 mr0 w x A rs ∧ rs.length = ms.length ∧ ∀ j, j < ms.length → Link w x (rs.getD j mr0) (ms.getD j man0)
theorem RdM.on {w w' : World} {x : Nat} {A : Option Addr} {ms : List Man} (h : RdM w x A ms) (hb : Below w.heap.size w w') : RdM w' x A ms := by
  obtain ⟨rs, h1, h2, h3⟩ := h
  exact ⟨rs, h1.on hb, h2, fun j hj => let ⟨a, b, c, d⟩ := h3 j hj; ⟨a, b, c, d.on hb⟩⟩
theorem RdM.gr {w w' : World} {x : Nat} {A : Option Addr} {ms : List Man} (h : RdM w x A ms) (hb : w.grownBy w' (some x)) : RdM w' x A ms := by
  obtain ⟨rs, h1, h2, h3⟩ := h
  exact ⟨rs, h1.gr hb, h2, fun j hj => let ⟨a, b, c, d⟩ := h3 j hj; ⟨a, b, c, d.gr hb⟩⟩
theorem info33 : (Tryz.prog.info? 33).map (fun i => (i.zero, i.size, i.bytes)) = some (some (.agg #[.int .i64 0, .slice none 0 0]), 2, 32) := by kernel_rfl
theorem getD_snoc_lt {α : Type} (l : List α) (y d : α) (j : Nat) (h : j < l.length) : (l ++ [y]).getD j d = l.getD j d := by
  rw [List.getD_eq_getElem?_getD, List.getD_eq_getElem?_getD, List.getElem?_append_left h]
theorem getD_snoc_eq {α : Type} (l : List α) (y d : α) (j : Nat) (h : j = l.length) : (l ++ [y]).getD j d = y := by
  subst h
  rw [List.getD_eq_getElem?_getD, List.getElem?_append_right (Nat.le_refl _)]
  simp
def validB (i : ID) : Bool := decide (0 ≤ i.2) && decide (i.2 ≤ 1048576) && decide (i.1 < 2305843009213693951) && (decide (0 < i.2) || i.1 == 0)
set_option maxHeartbeats 1000000 in
theorem Valid_any (s z : Int) (w : World) : Calls Tryz.prog 112 #[.agg #[.int .u64 s, .int .i64 z]] w (Gives (.bool (validB (s, z))) w) := by
  have fin : ∀ b : Bool, validB (s, z) = b → ∀ W, W = w.alloc (.cells #[.int .u64 s, .int .i64 z] 36) → Gives (.bool (validB (s, z))) w (.returned (.bool b)) W := by
    rintro b h W rfl
    exact ⟨by rw [h], bel1 _ _⟩
  by_cases h1 : 0 ≤ z
  · by_cases h2 : z ≤ 1048576
    · by_cases h3 : s < 2305843009213693951
      · by_cases h4 : 0 < z
        · go_enter Tryz.func112, Tryz.ntmps112
          go_wp2_with fail
          go_ret
          exact fin _ (by simp [validB]; omega) _ rfl
        · by_cases h5 : s = 0
          · subst h5
            have V : Hid (validB (0, z) = true) := by simp [Hid, validB]; omega
            go_enter Tryz.func112, Tryz.ntmps112
            go_wp2_with fail
            go_ret
            exact fin _ V.out _ rfl
          · have hb : (s == 0) = false := by rw [beq_eq_false_iff_ne]; exact h5
            go_enter Tryz.func112, Tryz.ntmps112
            go_wp2_with fail
            go_ret
            exact fin _ (by simp [validB]; omega) _ rfl
      · go_enter Tryz.func112, Tryz.ntmps112
        go_wp2_with fail
        go_ret
        exact fin _ (by simp [validB]; omega) _ rfl
    · go_enter Tryz.func112, Tryz.ntmps112
      go_wp2_with fail
      go_ret
      exact fin _ (by simp [validB]; omega) _ rfl
  · go_enter Tryz.func112, Tryz.ntmps112
    go_wp2_with fail
    go_ret
    exact fin _ (by simp [validB]; omega) _ rfl
set_option maxHeartbeats 1000000 in
theorem rValid_any (s z : Int) (w : World) : Calls Tryz.prog 78 #[.agg #[.int .u64 s, .int .i64 z]] w (Gives (.bool (validB (s, z))) w) := by
  have fin : ∀ b : Bool, validB (s, z) = b → ∀ W, W = w.alloc (.cells #[.int .u64 s, .int .i64 z] 36) → Gives (.bool (validB (s, z))) w (.returned (.bool b)) W := by
    rintro b h W rfl
    exact ⟨by rw [h], bel1 _ _⟩
  by_cases h1 : 0 ≤ z
  · by_cases h2 : z ≤ 1048576
    · by_cases h3 : s < 2305843009213693951
      · by_cases h4 : 0 < z
        · go_enter Tryz.func78, Tryz.ntmps78
          go_wp2_with fail
          go_ret
          exact fin _ (by simp [validB]; omega) _ rfl
        · by_cases h5 : s = 0
          · subst h5
            have V : Hid (validB (0, z) = true) := by simp [Hid, validB]; omega
            go_enter Tryz.func78, Tryz.ntmps78
            go_wp2_with fail
            go_ret
            exact fin _ V.out _ rfl
          · have hb : (s == 0) = false := by rw [beq_eq_false_iff_ne]; exact h5
            go_enter Tryz.func78, Tryz.ntmps78
            go_wp2_with fail
            go_ret
            exact fin _ (by simp [validB]; omega) _ rfl
      · go_enter Tryz.func78, Tryz.ntmps78
        go_wp2_with fail
        go_ret
        exact fin _ (by simp [validB]; omega) _ rfl
    · go_enter Tryz.func78, Tryz.ntmps78
      go_wp2_with fail
      go_ret
      exact fin _ (by simp [validB]; omega) _ rfl
  · go_enter Tryz.func78, Tryz.ntmps78
    go_wp2_with fail
    go_ret
    exact fin _ (by simp [validB]; omega) _ rfl
def chunkB (i : ID) : Bool := validB i && decide (1 ≤ i.2) && decide (i.2 ≤ 8192)
def manE (m : Man) : Int := if 1024 < m.ids.length then 251 else if m.ids.all chunkB = false then 250 else if m.size = sumZ m.ids ∧ m.size ≤ 1048576 then 0 else 252
theorem getD_mem {α : Type} (l : List α) (d : α) (k : Nat) (h : k < l.length) : l.getD k d ∈ l := by
  rw [List.getD_eq_getElem?_getD, List.getElem?_eq_getElem h]
  exact List.getElem_mem h
theorem take_snoc {α : Type} (l : List α) (d : α) (k : Nat) (h : k < l.length) : l.take (k + 1) = l.take k ++ [l.getD k d] := by
  rw [List.take_add_one, List.getD_eq_getElem?_getD, List.getElem?_eq_getElem h]
  rfl
theorem chunkB_sound {i : ID} (h : chunkB i = true) : 1 ≤ i.2 ∧ i.2 ≤ 8192 := by
  simp [chunkB] at h
  omega
theorem sum_take_bd {l : List ID} : ∀ {k : Nat}, (l.take k).all chunkB = true → 0 ≤ sumZ (l.take k) ∧ sumZ (l.take k) ≤ 8192 * k := by
  have key : ∀ (l : List ID), l.all chunkB = true → 0 ≤ sumZ l ∧ sumZ l ≤ 8192 * l.length := by
    intro l
    induction l with
    | nil => intro _; simp [sumZ]
    | cons i l ih =>
      intro h
      rw [List.all_cons, Bool.and_eq_true] at h
      have h1 := chunkB_sound h.1
      have h2 := ih h.2
      simp only [sumZ, List.map_cons, List.sum_cons, List.length_cons] at *
      omega
  intro k h
  have := key _ h
  have hl : (l.take k).length ≤ k := by rw [List.length_take]; omega
  omega
theorem manE_bad {m : Man} {k : Nat} (hl : m.ids.length ≤ 1024) (hk : k < m.ids.length) (h : chunkB (m.ids.getD k (0, 0)) = false) : manE m = 250 := by
  unfold manE
  rw [if_neg (by omega), if_pos]
  rw [List.all_eq_false]
  exact ⟨_, getD_mem _ _ _ hk, by rw [h]; simp⟩
theorem manE_end {m : Man} (hl : m.ids.length ≤ 1024) (h : m.ids.all chunkB = true) : manE m = if m.size = sumZ m.ids ∧ m.size ≤ 1048576 then 0 else 252 := by
  unfold manE
  rw [if_neg (by omega), if_neg (by simp [h])]
set_option maxHeartbeats 2000000 in
theorem manCheck_any (x : Nat) (m : Man) (A : Option Addr) (c : Nat) (w : World) (hr : RdID w x A m.ids) (hn : m.ids.length ≤ 9223372036854775807) :
    Calls Tryz.prog 74 #[.agg #[.int .i64 m.size, .slice A m.ids.length c]] w (Gives (.int .i64 (manE m)) w) := by
  have Hr := Lib.hid hr
  clear hr
  by_cases hl : m.ids.length ≤ 1024
  · go_enter Tryz.func74, Tryz.ntmps74
    go_wp2_with fail
    go_loopw [3, 13] (fun n i wr => ∃ k : Nat, k ≤ m.ids.length ∧ i = .int .i64 k ∧ n = .int .i64 (sumZ (m.ids.take k)) ∧ (m.ids.take k).all chunkB = true ∧ IsB wr w.heap.size 33 #[.int .i64 m.size, .slice A m.ids.length c] ∧ Below w.heap.size w wr) (fun _ i _ => m.ids.length - (intOf i).toNat)
    case atStart => exact ⟨0, Nat.zero_le _, rfl, by simp [sumZ], by simp, IsB.new _ _ _, bel1 _ _⟩
    case round =>
      obtain ⟨k, hk, rfl, rfl, hall, hB, hb⟩ := hrel
      have hsz := hb.size
      have hbd := sum_take_bd hall
      have HB := Lib.hid hB
      have Hall := Lib.hid hall
      clear hB hall
      obtain ⟨S, HS⟩ : ∃ S, Hid (sumZ (m.ids.take k) = S) := ⟨_, rfl⟩
      rw [HS.out] at hbd ⊢
      by_cases hlt : k < m.ids.length
      · obtain ⟨b, o, rfl, hbB, _, hc⟩ := Hr.out (by omega)
        obtain ⟨s, z, HI⟩ : ∃ s z, Hid (m.ids.getD k (0, 0) = (s, z)) := ⟨_, _, rfl⟩
        have hc0 : wr.cell? ⟨b, o + k * 2, none⟩ = some (.int .u64 s) := by rw [hb.cell (p := ⟨b, o + k * 2, none⟩) hbB]; exact hc k hlt 0 _ (by rw [HI.out]; rfl)
        have hc1 : wr.cell? ⟨b, o + k * 2 + 1, none⟩ = some (.int .i64 z) := by rw [hb.cell (p := ⟨b, o + k * 2 + 1, none⟩) hbB]; exact hc k hlt 1 _ (by rw [HI.out]; rfl)
        clear hc
        go_wp2_with fail
        refine (Valid_any s z _).mono ?_
        rintro e w1 ⟨rfl, hb1⟩
        have hn0 : w1.cell? ⟨wr.heap.size, 0, none⟩ = some (.int .u64 s) := by rw [hb1.cell (p := ⟨wr.heap.size, 0, none⟩) (by simp)]; exact new_cell _ _ _ _ rfl 0
        have hn1 : w1.cell? ⟨wr.heap.size, 1, none⟩ = some (.int .i64 z) := by rw [hb1.cell (p := ⟨wr.heap.size, 1, none⟩) (by simp)]; exact new_cell _ _ _ _ rfl 1
        have hbw : Hid (Below w.heap.size w w1) := (hb.alloc hb.size _).trans (hb1.mono (by simp; omega))
        have HB1 : Hid (IsB w1 w.heap.size 33 #[.int .i64 m.size, .slice (some ⟨b, o, none⟩) m.ids.length c]) := (HB.out.alloc _).on hb1
        clear hb1
        cases hv : validB (s, z) with
        | false =>
          have HE : Hid (manE m = 250) := manE_bad hl hlt (by rw [HI.out]; simp [chunkB, hv])
          clear hv
          go_wp2_with fail
          go_ret
          exact gv HE.out (hbw.out)
        | true =>
          by_cases h1 : z < 1
          · have HE : Hid (manE m = 250) := manE_bad hl hlt (by rw [HI.out]; simp [chunkB]; omega)
            clear hv
            go_wp2_with fail
            go_ret
            exact gv HE.out (hbw.out)
          · by_cases h2 : 8192 < z
            · have HE : Hid (manE m = 250) := manE_bad hl hlt (by rw [HI.out]; simp [chunkB]; omega)
              clear hv
              go_wp2_with fail
              go_ret
              exact gv HE.out (hbw.out)
            · have HC : Hid (chunkB (s, z) = true) := by simp [Hid, chunkB, hv]; omega
              clear hv
              go_wp2_with fail
              go_roundw
              case rel => exact ⟨k + 1, by omega, by go_num, by rw [take_snoc _ (0, 0) _ hlt, sumZ_snoc, HS.out, HI.out], by rw [take_snoc _ (0, 0) _ hlt, List.all_append, Hall.out, HI.out]; simp [HC.out], HB1.out, hbw.out⟩
              case measure => simp [intOf]; omega
      · obtain rfl : k = m.ids.length := by omega
        rw [List.take_length] at Hall HS
        have hE := manE_end hl Hall.out
        rw [HS.out] at hE
        have hc0 : wr.cell? ⟨w.heap.size, 0, none⟩ = some (.int .i64 m.size) := by rw [HB.out.cell]; rfl
        by_cases h1 : m.size = S
        · subst h1
          by_cases h2 : m.size ≤ 1048576
          · rw [if_pos ⟨rfl, h2⟩] at hE
            have HE := Lib.hid hE
            clear hE
            go_wp2_with fail
            go_ret
            exact gv HE.out (hb)
          · rw [if_neg (by omega)] at hE
            have HE := Lib.hid hE
            clear hE
            go_wp2_with fail
            go_ret
            exact gv HE.out (hb)
        · have hbe : (m.size != S) = true := by rw [bne_iff_ne]; exact h1
          rw [if_neg (by omega)] at hE
          have HE := Lib.hid hE
          clear hE h1
          go_wp2_with fail
          go_ret
          exact gv HE.out (hb)
  · have HE : Hid (manE m = 251) := by unfold Hid manE; rw [if_pos (by omega)]
    go_enter Tryz.func74, Tryz.ntmps74
    go_wp2_with fail
    go_ret
    exact gv HE.out (bel1 _ _)
set_option maxHeartbeats 2000000 in
theorem rmanCheck_any (x : Nat) (m : Man) (A : Option Addr) (c : Nat) (w : World) (hr : RdID w x A m.ids) (hn : m.ids.length ≤ 9223372036854775807) :
    Calls Tryz.prog 37 #[.agg #[.int .i64 m.size, .slice A m.ids.length c]] w (Gives (.int .i64 (manE m)) w) := by
  have Hr := Lib.hid hr
  clear hr
  by_cases hl : m.ids.length ≤ 1024
  · go_enter Tryz.func37, Tryz.ntmps37
    go_wp2_with fail
    go_loopw [3, 4] (fun n i wr => ∃ k : Nat, k ≤ m.ids.length ∧ i = .int .i64 k ∧ n = .int .i64 (sumZ (m.ids.take k)) ∧ (m.ids.take k).all chunkB = true ∧ IsB wr w.heap.size 33 #[.int .i64 m.size, .slice A m.ids.length c] ∧ Below w.heap.size w wr) (fun _ i _ => m.ids.length - (intOf i).toNat)
    case atStart => exact ⟨0, Nat.zero_le _, rfl, by simp [sumZ], by simp, IsB.new _ _ _, bel1 _ _⟩
    case round =>
      obtain ⟨k, hk, rfl, rfl, hall, hB, hb⟩ := hrel
      have hsz := hb.size
      have hbd := sum_take_bd hall
      have hm0 : wr.cell? ⟨w.heap.size, 0, none⟩ = some (.int .i64 m.size) := by rw [hB.cell]; rfl
      have hm1 : wr.cell? ⟨w.heap.size, 1, none⟩ = some (.slice A m.ids.length c) := by rw [hB.cell]; rfl
      have hBlt := hB.lt
      have HB := Lib.hid hB
      have Hall := Lib.hid hall
      clear hB hall
      obtain ⟨S, HS⟩ : ∃ S, Hid (sumZ (m.ids.take k) = S) := ⟨_, rfl⟩
      rw [HS.out] at hbd ⊢
      by_cases hlt : k < m.ids.length
      · obtain ⟨b, o, rfl, hbB, _, hc⟩ := Hr.out (by omega)
        obtain ⟨s, z, HI⟩ : ∃ s z, Hid (m.ids.getD k (0, 0) = (s, z)) := ⟨_, _, rfl⟩
        have hc0 : wr.cell? ⟨b, o + k * 2, none⟩ = some (.int .u64 s) := by rw [hb.cell (p := ⟨b, o + k * 2, none⟩) hbB]; exact hc k hlt 0 _ (by rw [HI.out]; rfl)
        have hc1 : wr.cell? ⟨b, o + k * 2 + 1, none⟩ = some (.int .i64 z) := by rw [hb.cell (p := ⟨b, o + k * 2 + 1, none⟩) hbB]; exact hc k hlt 1 _ (by rw [HI.out]; rfl)
        clear hc
        go_wp2_with fail
        refine (rValid_any s z _).mono ?_
        rintro e w1 ⟨rfl, hb1⟩
        have hn0 : w1.cell? ⟨wr.heap.size, 0, none⟩ = some (.int .u64 s) := by rw [hb1.cell (p := ⟨wr.heap.size, 0, none⟩) (by simp)]; exact new_cell _ _ _ _ rfl 0
        have hn1 : w1.cell? ⟨wr.heap.size, 1, none⟩ = some (.int .i64 z) := by rw [hb1.cell (p := ⟨wr.heap.size, 1, none⟩) (by simp)]; exact new_cell _ _ _ _ rfl 1
        have hbw : Hid (Below w.heap.size w w1) := (hb.alloc hb.size _).trans (hb1.mono (by simp; omega))
        have HB1 : Hid (IsB w1 w.heap.size 33 #[.int .i64 m.size, .slice (some ⟨b, o, none⟩) m.ids.length c]) := (HB.out.alloc _).on hb1
        clear hb1
        cases hv : validB (s, z) with
        | false =>
          have HE : Hid (manE m = 250) := manE_bad hl hlt (by rw [HI.out]; simp [chunkB, hv])
          clear hv
          go_wp2_with fail
          go_ret
          exact gv HE.out (hbw.out)
        | true =>
          by_cases h1 : z < 1
          · have HE : Hid (manE m = 250) := manE_bad hl hlt (by rw [HI.out]; simp [chunkB]; omega)
            clear hv
            go_wp2_with fail
            go_ret
            exact gv HE.out (hbw.out)
          · by_cases h2 : 8192 < z
            · have HE : Hid (manE m = 250) := manE_bad hl hlt (by rw [HI.out]; simp [chunkB]; omega)
              clear hv
              go_wp2_with fail
              go_ret
              exact gv HE.out (hbw.out)
            · have HC : Hid (chunkB (s, z) = true) := by simp [Hid, chunkB, hv]; omega
              clear hv
              go_wp2_with fail
              go_roundw
              case rel => exact ⟨k + 1, by omega, by go_num, by rw [take_snoc _ (0, 0) _ hlt, sumZ_snoc, HS.out, HI.out], by rw [take_snoc _ (0, 0) _ hlt, List.all_append, Hall.out, HI.out]; simp [HC.out], HB1.out, hbw.out⟩
              case measure => simp [intOf]; omega
      · obtain rfl : k = m.ids.length := by omega
        rw [List.take_length] at Hall HS
        have hE := manE_end hl Hall.out
        rw [HS.out] at hE
        by_cases h1 : m.size = S
        · subst h1
          by_cases h2 : m.size ≤ 1048576
          · rw [if_pos ⟨rfl, h2⟩] at hE
            have HE := Lib.hid hE
            clear hE
            go_wp2_with fail
            go_ret
            exact gv HE.out (hb)
          · rw [if_neg (by omega)] at hE
            have HE := Lib.hid hE
            clear hE
            go_wp2_with fail
            go_ret
            exact gv HE.out (hb)
        · have hbe : (m.size != S) = true := by rw [bne_iff_ne]; exact h1
          rw [if_neg (by omega)] at hE
          have HE := Lib.hid hE
          clear hE h1
          go_wp2_with fail
          go_ret
          exact gv HE.out (hb)
  · have HE : Hid (manE m = 251) := by unfold Hid manE; rw [if_pos (by omega)]
    go_enter Tryz.func37, Tryz.ntmps37
    go_wp2_with fail
    go_ret
    exact gv HE.out (bel1 _ _)
end Go.Proofs.YtmiknfneeipkeaaGreat
