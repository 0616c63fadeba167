/- Contracts: cmp.Or at two numbers; the comparison of ranges. -/
import Derived.Test.YtahlccihjjhgfaaI
import Derived.Test.YtahlccihjjhgfaaH
namespace Go.Proofs.Ytahlccihjjhgfaa
open Go.RowKit Go.Shelf Go.Sort

/-- The first number that is not 0. -/
def orI (a b : Int) : Int := if a = 0 then b else a

set_option maxHeartbeats 400000 in
theorem Or_two (g : Nat) (a b : Int) (w : World) (h0 : w.cell? ⟨g, 0, none⟩ = some (.int .i64 a)) (h1 : w.cell? ⟨g, 1, none⟩ = some (.int .i64 b)) :
    Calls Try.prog 35 #[.slice (some ⟨g, 0, none⟩) 2 2] w fun e w' => e = .returned (.int .i64 (orI a b)) ∧ w = w' := by
  obtain ⟨r, Hr⟩ : ∃ r, Hid (orI a b = r) := ⟨_, rfl⟩
  rw [Hr.out]
  go_enter Try.func35, Try.ntmps35
  go_wp2
  go_loop [8] (fun i => ∃ k : Nat, k ≤ 2 ∧ i = .int .i64 k ∧ Hid (0 < k → a = 0) ∧ Hid (1 < k → b = 0)) (fun i => 2 - (intOf i).toNat)
  case atStart => exact ⟨0, by omega, rfl, fun h => absurd h (by omega), fun h => absurd h (by omega)⟩
  case round =>
    obtain ⟨k, hk, rfl, HA, HB⟩ := hrel
    by_cases hk0 : k = 0
    · have hc : w.cell? ⟨g, k, none⟩ = some (.int .i64 a) := by rw [hk0]; exact h0
      have Hk := Lib.hid hk0
      have hk2 : k < 2 := by omega
      clear h0 h1 hk0
      by_cases ha : a = 0
      · have hb' : (a != 0) = false := by simp [ha]
        have Ha := Lib.hid ha
        clear ha
        go_wp2
        go_round
        case rel => exact ⟨k + 1, by omega, by go_num, fun _ => Ha.out, fun h => absurd h (by have := Hk.out; omega)⟩
        case measure => simp [intOf]; omega
      · have hb' : (a != 0) = true := by simp [ha]
        have hr : r = a := by rw [← Hr.out, orI, if_neg ha]
        subst hr
        clear ha
        go_wp2
        go_ret
        exact ⟨rfl, rfl⟩
    · by_cases hk1 : k = 1
      · have hc : w.cell? ⟨g, k, none⟩ = some (.int .i64 b) := by rw [hk1]; exact h1
        have Hk := Lib.hid hk1
        have hk2 : k < 2 := by omega
        have hr : r = b := by rw [← Hr.out, orI, if_pos (HA.out (by omega))]
        subst hr
        clear h0 h1 hk0 hk1
        by_cases hb : r = 0
        · have hb' : (r != 0) = false := by simp [hb]
          have Hb := Lib.hid hb
          clear hb
          go_wp2
          go_round
          case rel => exact ⟨k + 1, by omega, by go_num, fun _ => HA.out (by have := Hk.out; omega), fun _ => Hb.out⟩
          case measure => simp [intOf]; omega
        · have hb' : (r != 0) = true := by simp [hb]
          clear hb
          go_wp2
          go_ret
          exact ⟨rfl, rfl⟩
      · have hk2 : ¬ k < 2 := by omega
        have hr : r = 0 := by rw [← Hr.out, orI, if_pos (HA.out (by omega)), HB.out (by omega)]
        subst hr
        go_wp2
        go_ret
        exact ⟨rfl, rfl⟩

def cmpR (x y : Int × Int) : Int := orI (Lib.compareInt x.1 y.1) (Lib.compareInt x.2 y.2)

theorem new_cell (W : World) (t : TypeId) (cs : Array Value) (H : Nat) (hH : W.heap.size = H) (i : Nat) : (W.alloc (.cells cs t)).cell? ⟨H, i, none⟩ = cs[i]? := by
  subst hH
  exact (IsB.new W t cs).cell i
theorem grow3 (W : World) (a b c : Obj) (q : Nat) : (((W.alloc a).alloc b).drewN q).alloc c = grow (W.drewN q) #[a, b, c] := by
  show ((((W.drewN q).alloc a).alloc b).alloc c) = grow (W.drewN q) #[a, b, c]
  rw [alloc_eq_grow, alloc_eq_grow, alloc_eq_grow, grow_grow, grow_grow]
  rfl

set_option maxHeartbeats 1000000 in
theorem closure34 (x1 x2 y1 y2 : Int) (W : World) : Calls Try.prog 34 #[.agg #[.int .i64 x1, .int .i64 x2], .agg #[.int .i64 y1, .int .i64 y2]] W fun e w' => e = .returned (.int .i64 (cmpR (x1, x2) (y1, y2))) ∧ ∃ q os', w' = grow (W.drewN q) os' := by
  have hcon1 := fun W' => AnyG.cmp_Compare_int Try.lay36 x1 y1 W'
  have hcon2 := fun W' => AnyG.cmp_Compare_int Try.lay36 x2 y2 W'
  change ∀ W', Calls Try.prog 36 _ _ _ at hcon1 hcon2
  obtain ⟨r, Hr⟩ : ∃ r, Hid (cmpR (x1, x2) (y1, y2) = r) := ⟨_, rfl⟩
  have Hr2 : Hid (orI (Lib.compareInt x1 y1) (Lib.compareInt x2 y2) = r) := Hr
  rw [Hr.out]
  generalize Lib.compareInt x1 y1 = c1 at hcon1 Hr2
  generalize Lib.compareInt x2 y2 = c2 at hcon2 Hr2
  have H1 := Lib.hid hcon1
  have H2 := Lib.hid hcon2
  clear hcon1 hcon2
  go_enter Try.func34, Try.ntmps34
  go_wp2_with fail
  refine wp_region_draw_tail 10 (by kernel_rfl) (by kernel_rfl) ?_
  simp only [List.take_succ_cons, List.take_zero, List.drop_succ_cons, List.drop_zero]
  repeat (go_big_quiet_step ((first | (go_at_call_of 36 (Value.int IntKind.i64 x1); exact Calls.quiet_of_same (H1.out _)) | (go_at_call_of 36 (Value.int IntKind.i64 x2); exact Calls.quiet_of_same (H2.out _)))))
  refine wpQuiet_nil ?_
  intro q2
  go_wp2_with (go_at_call 35; refine (Or_two _ c1 c2 _ ?c1 ?c2).mono ?_)
  case c1 => exact new_cell _ _ _ _ (by simp) 0
  case c2 => exact new_cell _ _ _ _ (by simp) 1
  rintro e w' ⟨rfl, rfl⟩
  rw [Hr2.out]
  go_wp2
  go_ret
  exact ⟨rfl, q2, _, grow3 W _ _ _ q2⟩

theorem cmpLays34 (blk off size : Nat) (w : World) : CmpLays Try.prog 34 #[] encR 2 cmpR blk off size w :=
  fun _ _ _ _ x y => closure34 x.1 x.2 y.1 y.2 _

theorem ltR (x y : Int × Int) : ltOf cmpR x y = decide (x.1 < y.1 ∨ x.1 = y.1 ∧ x.2 < y.2) := by
  unfold ltOf cmpR orI Lib.compareInt
  by_cases h1 : x.1 < y.1
  · simp [h1]
  · by_cases h2 : y.1 < x.1
    · have : ¬ x.1 = y.1 := by omega
      simp [h1, h2, this]
    · have : x.1 = y.1 := by omega
      by_cases h3 : x.2 < y.2
      · simp [this, h3]
      · by_cases h4 : y.2 < x.2 <;> simp [this, h3, h4]

theorem swoR : SWO (ltOf cmpR) where
  irrefl x := by rw [ltR]; simp
  trans x y z h1 h2 := by rw [ltR] at *; simp at *; omega
  ntrans x y z h1 h2 := by rw [ltR] at *; simp at *; omega
theorem totR (x y : Int × Int) (h1 : ltOf cmpR x y = false) (h2 : ltOf cmpR y x = false) : x = y := by
  rw [ltR] at h1 h2
  simp at h1 h2
  obtain ⟨x1, x2⟩ := x
  obtain ⟨y1, y2⟩ := y
  simp at h1 h2
  have e1 : x1 = y1 := by omega
  subst e1
  have e2 : x2 = y2 := by
    have a := h1.2 rfl
    have b := h2.2 rfl
    omega
  subst e2
  rfl

/-- The ranges in their order. -/
def sortR (xs : RL) : RL := xs.mergeSort fun x y => !ltOf cmpR y x

theorem holdsK_of_own {w : World} {base g n cap : Nat} {xs : RL} (h : w.ownsRow base 29 2 (.slice (some ⟨g, 0, none⟩) n cap) n (flatR xs)) : HoldsK encR 2 w g 0 xs.toArray := by
  have hl := h.1
  rw [flatR_length] at hl
  intro j hj
  rw [size_flatK] at hj
  have hj' : j < xs.length * 2 := by simpa using hj
  refine ⟨?_, h.frozenAt _⟩
  rw [get_flatK _ _ _ _ hj, Nat.zero_add, h.cellAt j (by omega)]
  have hq : j / 2 < xs.length := by omega
  have e : xs.toArray[j / 2]! = xs.getD (j / 2) (0, 0) := by
    rw [List.getElem!_toArray, List.getD_eq_getElem?_getD, List.getElem?_eq_getElem hq, getElem!_pos xs (j / 2) hq]; rfl
  rw [e]
  have h2 : j % 2 = 0 ∨ j % 2 = 1 := by omega
  rcases h2 with h2 | h2
  · have := flatR_fst xs (j / 2) hq
    rw [show j / 2 * 2 = j by omega] at this
    rw [this, h2]
    rfl
  · have := flatR_snd xs (j / 2) hq
    rw [show j / 2 * 2 + 1 = j by omega] at this
    rw [this, h2]
    rfl

/-- A row in its own block, its ranges now xs: as a slice that is read. -/
theorem RdR.of_holds {w : World} {g : Nat} {xs : RL} (h : HoldsK encR 2 w g 0 xs.toArray) (hg : g < w.heap.size) : RdR w w.heap.size (some ⟨g, 0, none⟩) xs := by
  intro _
  refine ⟨g, 0, rfl, hg, fun j hj => ?_⟩
  have e : xs.toArray[j]! = xs.getD j (0, 0) := by
    rw [List.getElem!_toArray, List.getD_eq_getElem?_getD, List.getElem?_eq_getElem hj, getElem!_pos xs j hj]; rfl
  have h0 := (h.cell (i := j) (c := 0) (by simpa using hj) (by omega)).1
  have h1 := (h.cell (i := j) (c := 1) (by simpa using hj) (by omega)).1
  rw [e] at h0 h1
  exact ⟨h0, h1⟩

theorem RdR.of_own {w : World} {base : Nat} {A : Option Addr} {n c : Nat} {xs : RL} (h : w.ownsRow base 29 2 (.slice A n c) n (flatR xs)) : n = xs.length ∧ RdR w w.heap.size A xs := by
  have hl := h.1
  rw [flatR_length] at hl
  refine ⟨by omega, fun hp => ?_⟩
  obtain ⟨g, cap, hv, hb, hlt⟩ := h.form (by omega)
  injection hv with h1 h2 h3
  subst h1 h3
  exact RdR.of_holds (holdsK_of_own h) hlt hp

def SortPost (base g : Nat) (ys : RL) (w : World) (e : Ending) (w' : World) : Prop :=
  e = .returned (.tuple #[]) ∧ RdR w' w'.heap.size (some ⟨g, 0, none⟩) ys ∧ Below base w w' ∧ g < w'.heap.size

theorem sort_any (base g n cap : Nat) (xs : RL) (w : World) (h : w.ownsRow base 29 2 (.slice (some ⟨g, 0, none⟩) n cap) n (flatR xs)) (hn : xs.length ≤ 4294967296) :
    Calls Try.prog 33 #[.slice (some ⟨g, 0, none⟩) n cap, .func (.func 34) #[] #[]] w (SortPost base g (sortR xs) w) := by
  have hl := h.1
  rw [flatR_length] at hl
  have hnx : n = xs.toArray.size := by simp; omega
  have hg := h.lt g rfl
  have eg : ∀ args w, (callFunc 34 args).run Try.prog w = .ok (.enter 34 args) w := enters_of Try.func34 (by kernel_rfl) rfl
  have hcon := AnyQ.slices_SortFunc_total Try.lay33 2 Try.isAgg29 Try.sizeOf29 encR (fun _ => rfl) flatR_one cmpR swoR 34 #[] g 0 cap xs.toArray w eg (cmpLays34 g 0 xs.toArray.size w) (holdsK_of_own h) hg.2 (by simp; omega) totR
  rw [← hnx] at hcon
  refine Calls.mono hcon ?_
  rintro e w' ⟨he, m, os, rfl⟩
  have hsz : (xs.toArray.toList.mergeSort fun x y => !ltOf cmpR y x).toArray.size = xs.toArray.size := by simp
  have hH := holdsK_putRowK (enc := encR) (k := 2) (Sort.ahead w m) g 0 xs.toArray (xs.toArray.toList.mergeSort fun x y => !ltOf cmpR y x).toArray (holdsK_of_own h) hsz
  have hgrow : w.grownBy (sortWorldK encR 2 w g 0 m (xs.toArray.toList.mergeSort fun x y => !ltOf cmpR y x).toArray os) (some g) := by
    refine ⟨rfl, rfl, rfl, by simp [sortWorldK, putRowK], fun k hk hne => ?_⟩
    unfold sortWorldK
    rw [heap_grow_old _ _ (by simpa [putRowK] using hk)]
    have : g ≠ k := fun e => hne (by rw [e])
    simp [putRowK, putRow, mapBlock, Sort.ahead, Array.getElem?_modify, this]
  have hg2 : g < (sortWorldK encR 2 w g 0 m (xs.toArray.toList.mergeSort fun x y => !ltOf cmpR y x).toArray os).heap.size := Nat.lt_of_lt_of_le hg.2 hgrow.size
  refine ⟨he, RdR.of_holds ?_ hg2, (Below.refl _ _).grown hgrow (by omega) (fun q hq => by cases hq; exact hg.1), hg2⟩
  exact holdsK_grow (enc := encR) (k := 2) _ _ _ _ _ (by simpa [putRowK] using hg.2) hH
end Go.Proofs.Ytahlccihjjhgfaa
