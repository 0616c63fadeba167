/- Contracts: cmp.Compare, cmp.Or at two, compareIDs, Less, Check of a table (both). -/
import Derived.Test.YtjglpmcekbjoaaaD
import Derived.Lib.Small
import Derived.Shelf.SlSortCmp.NoneTotal
namespace Go.Proofs.Ytjglpmcekbjoaaa
open Go.RowKit Go.Shelf Go.Sort
attribute [local go_sem] wext_cell

def orI (a b : Int) : Int := if a = 0 then b else a

theorem nan65 (x : Int) (w : World) : Calls Try.prog 79 #[.int .u64 x] w fun e w' => e = .returned (.bool false) ∧ w' = w := by
  go_enter Try.func79, Try.ntmps79
  go_wp2
  go_ret
  exact ⟨by simp, rfl⟩
set_option maxHeartbeats 1000000 in
theorem cmpU_any (x y : Int) (w : World) : Calls Try.prog 65 #[.int .u64 x, .int .u64 y] w fun e w' => e = .returned (.int .i64 (Lib.compareInt x y)) ∧ w' = w := by
  go_enter Try.func65, Try.ntmps65
  go_wp2_with (go_at_call 79; refine (nan65 _ _).mono ?_; rintro e w' ⟨rfl, hw⟩; rw [hw])
  all_goals (go_ret; refine ⟨?_, rfl⟩; unfold Lib.compareInt; (repeat' split) <;> first | rfl | (exfalso; omega))

theorem nan66 (x : Int) (w : World) : Calls Try.prog 80 #[.int .i64 x] w fun e w' => e = .returned (.bool false) ∧ w' = w := by
  go_enter Try.func80, Try.ntmps80
  go_wp2
  go_ret
  exact ⟨by simp, rfl⟩
set_option maxHeartbeats 1000000 in
theorem cmpI_any (x y : Int) (w : World) : Calls Try.prog 66 #[.int .i64 x, .int .i64 y] w fun e w' => e = .returned (.int .i64 (Lib.compareInt x y)) ∧ w' = w := by
  go_enter Try.func66, Try.ntmps66
  go_wp2_with (go_at_call 80; refine (nan66 _ _).mono ?_; rintro e w' ⟨rfl, hw⟩; rw [hw])
  all_goals (go_ret; refine ⟨?_, rfl⟩; unfold Lib.compareInt; (repeat' split) <;> first | rfl | (exfalso; omega))

set_option maxHeartbeats 400000 in
theorem Or_two (g : Nat) (a b : Int) (w : World) (h0 : w.cell? ⟨g, 0, none⟩ = some (.int .i64 a)) (h1 : w.cell? ⟨g, 1, none⟩ = some (.int .i64 b)) :
    Calls Try.prog 64 #[.slice (some ⟨g, 0, none⟩) 2 2] w fun e w' => e = .returned (.int .i64 (orI a b)) ∧ w = w' := by
  obtain ⟨r, Hr⟩ : ∃ r, Hid (orI a b = r) := ⟨_, rfl⟩
  rw [Hr.out]
  go_enter Try.func64, Try.ntmps64
  go_wp2
  go_loop [8] (fun i => ∃ k : Nat, k ≤ 2 ∧ i = .int .i64 k ∧ Hid (0 < k → a = 0) ∧ Hid (1 < k → b = 0)) (fun i => 2 - (intOf i).toNat)
  case atStart => exact ⟨0, by omega, rfl, fun h => absurd h (by omega), fun h => absurd h (by omega)⟩
  case round =>
    obtain ⟨k, hk, rfl, HA, HB⟩ := hrel
    by_cases hk0 : k = 0
    · have hc : w.cell? ⟨g, k, none⟩ = some (.int .i64 a) := by rw [hk0]; exact h0
      have Hk := Lib.hid hk0
      have hk2 : k < 2 := by omega
      clear h0 h1 hk0
      by_cases ha : a = 0
      · have hb' : (a != 0) = false := by simp [ha]
        have Ha := Lib.hid ha
        clear ha
        go_wp2
        go_round
        case rel => exact ⟨k + 1, by omega, by go_num, fun _ => Ha.out, fun h => absurd h (by have := Hk.out; omega)⟩
        case measure => simp [intOf]; omega
      · have hb' : (a != 0) = true := by simp [ha]
        have hr : r = a := by rw [← Hr.out, orI, if_neg ha]
        subst hr
        clear ha
        go_wp2
        go_ret
        exact ⟨rfl, rfl⟩
    · by_cases hk1 : k = 1
      · have hc : w.cell? ⟨g, k, none⟩ = some (.int .i64 b) := by rw [hk1]; exact h1
        have Hk := Lib.hid hk1
        have hk2 : k < 2 := by omega
        have hr : r = b := by rw [← Hr.out, orI, if_pos (HA.out (by omega))]
        subst hr
        clear h0 h1 hk0 hk1
        by_cases hb : r = 0
        · have hb' : (r != 0) = false := by simp [hb]
          have Hb := Lib.hid hb
          clear hb
          go_wp2
          go_round
          case rel => exact ⟨k + 1, by omega, by go_num, fun _ => HA.out (by have := Hk.out; omega), fun _ => Hb.out⟩
          case measure => simp [intOf]; omega
        · have hb' : (r != 0) = true := by simp [hb]
          clear hb
          go_wp2
          go_ret
          exact ⟨rfl, rfl⟩
      · have hk2 : ¬ k < 2 := by omega
        have hr : r = 0 := by rw [← Hr.out, orI, if_pos (HA.out (by omega)), HB.out (by omega)]
        subst hr
        go_wp2
        go_ret
        exact ⟨rfl, rfl⟩

theorem grow3 (W : World) (a b c : Obj) (q : Nat) : (((W.alloc a).alloc b).drewN q).alloc c = grow (W.drewN q) #[a, b, c] := by
  show ((((W.drewN q).alloc a).alloc b).alloc c) = grow (W.drewN q) #[a, b, c]
  rw [alloc_eq_grow, alloc_eq_grow, alloc_eq_grow, grow_grow, grow_grow]
  rfl


def cmpID (x y : ID) : Int := orI (Lib.compareInt x.1 y.1) (Lib.compareInt x.2 y.2)

set_option maxHeartbeats 1000000 in
theorem compareIDs_grow (x1 x2 y1 y2 : Int) (W : World) : Calls Try.prog 51 #[.agg #[.int .u64 x1, .int .i64 x2], .agg #[.int .u64 y1, .int .i64 y2]] W fun e w' => e = .returned (.int .i64 (cmpID (x1, x2) (y1, y2))) ∧ ∃ q os', w' = grow (W.drewN q) os' := by
  have hcon1 := fun W' => cmpU_any x1 y1 W'
  have hcon2 := fun W' => cmpI_any x2 y2 W'
  obtain ⟨r, Hr⟩ : ∃ r, Hid (cmpID (x1, x2) (y1, y2) = r) := ⟨_, rfl⟩
  have Hr2 : Hid (orI (Lib.compareInt x1 y1) (Lib.compareInt x2 y2) = r) := Hr
  rw [Hr.out]
  generalize Lib.compareInt x1 y1 = c1 at hcon1 Hr2
  generalize Lib.compareInt x2 y2 = c2 at hcon2 Hr2
  have H1 := Lib.hid hcon1
  have H2 := Lib.hid hcon2
  clear hcon1 hcon2
  go_enter Try.func51, Try.ntmps51
  go_wp2_with fail
  refine wp_region_draw_tail 10 (by kernel_rfl) (by kernel_rfl) ?_
  simp only [List.take_succ_cons, List.take_zero, List.drop_succ_cons, List.drop_zero]
  repeat (go_big_quiet_step ((first | (go_at_call 65; exact Calls.quiet_of_same (H1.out _)) | (go_at_call 66; exact Calls.quiet_of_same (H2.out _)))))
  refine wpQuiet_nil ?_
  intro q2
  go_wp2_with (go_at_call 64; refine (Or_two _ c1 c2 _ ?c1 ?c2).mono ?_)
  case c1 => exact new_cell _ _ _ _ (by simp) 0
  case c2 => exact new_cell _ _ _ _ (by simp) 1
  rintro e w' ⟨rfl, rfl⟩
  rw [Hr2.out]
  go_wp2
  go_ret
  exact ⟨rfl, q2, _, grow3 W _ _ _ q2⟩

theorem below_grow (W : World) (q : Nat) (os : Array Obj) : Below W.heap.size W (grow (W.drewN q) os) :=
  ⟨rfl, rfl, rfl, by simp [grow], fun k hk => heap_grow_old _ _ hk⟩
theorem compareIDs_any (x1 x2 y1 y2 : Int) (w : World) : Calls Try.prog 51 #[.agg #[.int .u64 x1, .int .i64 x2], .agg #[.int .u64 y1, .int .i64 y2]] w (Gives (.int .i64 (cmpID (x1, x2) (y1, y2))) w) :=
  (compareIDs_grow x1 x2 y1 y2 w).mono fun _ _ ⟨he, q, os, hw⟩ => ⟨he, hw ▸ below_grow w q os⟩

def ltID (x y : ID) : Bool := decide (x.1 < y.1 ∨ x.1 = y.1 ∧ x.2 < y.2)
theorem lt_cmpID (x y : ID) : ltOf cmpID x y = ltID x y := by
  unfold ltOf cmpID orI Lib.compareInt ltID
  by_cases h1 : x.1 < y.1
  · simp [h1]
  · by_cases h2 : y.1 < x.1
    · have : ¬ x.1 = y.1 := by omega
      simp [h1, h2, this]
    · have : x.1 = y.1 := by omega
      by_cases h3 : x.2 < y.2
      · simp [this, h3]
      · by_cases h4 : y.2 < x.2 <;> simp [this, h3, h4]
theorem cmpID_lt {x y : ID} (h : ltID x y = true) : cmpID x y < 0 := by
  have := lt_cmpID x y
  rw [h] at this
  simpa [ltOf] using this
theorem cmpID_ge {x y : ID} (h : ltID x y = false) : 0 ≤ cmpID x y := by
  have := lt_cmpID x y
  rw [h] at this
  simpa [ltOf] using this
theorem cmpID_bd (x y : ID) : -1 ≤ cmpID x y ∧ cmpID x y ≤ 1 := by
  unfold cmpID orI Lib.compareInt
  repeat' split
  all_goals omega

set_option maxHeartbeats 1000000 in
theorem Less_any (x1 x2 y1 y2 : Int) (w : World) : Calls Try.prog 56 #[.agg #[.int .u64 x1, .int .i64 x2], .agg #[.int .u64 y1, .int .i64 y2]] w (Gives (.bool (ltID (x1, x2) (y1, y2))) w) := by
  have fin : ∀ b : Bool, ltID (x1, x2) (y1, y2) = b → ∀ W, W = (w.alloc (.cells #[.int .u64 x1, .int .i64 x2] 43)).alloc (.cells #[.int .u64 y1, .int .i64 y2] 43) → Gives (.bool (ltID (x1, x2) (y1, y2))) w (.returned (.bool b)) W := by
    rintro b h W rfl
    exact ⟨by rw [h], (bel1 _ _).alloc (by simp) _⟩
  by_cases h1 : x1 < y1
  · go_enter Try.func56, Try.ntmps56
    go_wp2_with fail
    go_ret
    exact fin _ (by simp [ltID]; omega) _ rfl
  · by_cases h2 : x1 = y1
    · subst h2
      by_cases h3 : x2 < y2
      · have V : Hid (ltID (x1, x2) (x1, y2) = true) := by simp [Hid, ltID]; omega
        go_enter Try.func56, Try.ntmps56
        go_wp2_with fail
        go_ret
        exact fin _ V.out _ rfl
      · have V : Hid (ltID (x1, x2) (x1, y2) = false) := by simp [Hid, ltID]; omega
        go_enter Try.func56, Try.ntmps56
        go_wp2_with fail
        go_ret
        exact fin _ V.out _ rfl
    · have hb : (x1 == y1) = false := by rw [beq_eq_false_iff_ne]; exact h2
      have V : Hid (ltID (x1, x2) (y1, y2) = false) := by simp [Hid, ltID]; omega
      go_enter Try.func56, Try.ntmps56
      go_wp2_with fail
      go_ret
      exact fin _ V.out _ rfl

/-- A row of a table: the ID, the number. -/
abbrev CT := ID × Int
def encC (c : CT) : List Value := [.int .u64 c.1.1, .int .i64 c.1.2, .int .i64 c.2]
abbrev ct0 : CT := ((0, 0), 0)
abbrev RdC (w : World) (x : Nat) (A : Option Addr) (t : List CT) : Prop := Rd encC 3 ct0 w x A t
theorem encC_len (c : CT) : (encC c).length = 3 := rfl
theorem encC_one (c : CT) : ∀ u ∈ encC c, u.oneCell' = true := by
  intro u hu
  simp [encC] at hu
  rcases hu with rfl | rfl | rfl <;> rfl
def rowB (c : CT) : Bool := chunkB c.1 && decide (0 ≤ c.2) && decide (c.2 ≤ 1073741824)
def okC (t : List CT) (k : Nat) : Bool := rowB (t.getD k ct0) && (k == 0 || ltID (t.getD (k - 1) ct0).1 (t.getD k ct0).1)
def tblB (t : List CT) : Bool := decide (t.length ≤ 4096) && (List.range t.length).all (okC t)
def tblE (t : List CT) : Int := if tblB t then 0 else 280
theorem tbl_bad {t : List CT} {k : Nat} (hk : k < t.length) (h : okC t k = false) : tblE t = 280 := by
  unfold tblE
  rw [if_neg]
  unfold tblB
  intro hh
  rw [Bool.and_eq_true, List.all_eq_true] at hh
  have := hh.2 k (List.mem_range.2 hk)
  rw [h] at this
  cases this
theorem tbl_good {t : List CT} (hl : t.length ≤ 4096) (h : (List.range t.length).all (okC t) = true) : tblE t = 0 := by
  unfold tblE tblB
  rw [if_pos (by simp [hl, h])]
theorem tbl_long {t : List CT} (hl : ¬ t.length ≤ 4096) : tblE t = 280 := by
  unfold tblE tblB
  rw [if_neg (by simp [hl])]
theorem all_snoc {t : List CT} {k : Nat} (h : (List.range k).all (okC t) = true) (h' : okC t k = true) : (List.range (k + 1)).all (okC t) = true := by
  rw [List.range_succ, List.all_append, h]
  simp [h']
theorem okC_zero {t : List CT} {k : Nat} {c : CT} (h : t.getD k ct0 = c) (hs : rowB c = true) (hk : k = 0) : okC t k = true := by
  subst hk
  unfold okC
  rw [h]
  simp [hs]
theorem okC_bad {t : List CT} {k : Nat} {c : CT} (h : t.getD k ct0 = c) (hs : rowB c = false) : okC t k = false := by
  unfold okC
  rw [h]
  simp [hs]
theorem okC_near {t : List CT} {k : Nat} {c p : CT} (h : t.getD k ct0 = c) (h' : t.getD (k - 1) ct0 = p) (hk : 0 < k) (hs : ltID p.1 c.1 = false) : okC t k = false := by
  unfold okC
  rw [h, h', hs]
  have : (k == 0) = false := by simp; omega
  simp [this]
theorem okC_far {t : List CT} {k : Nat} {c p : CT} (h : t.getD k ct0 = c) (h' : t.getD (k - 1) ct0 = p) (hr : rowB c = true) (hs : ltID p.1 c.1 = true) : okC t k = true := by
  unfold okC
  rw [h, h', hs, hr]
  simp

set_option maxHeartbeats 4000000 in
theorem Check_any (x : Nat) (t : List CT) (A : Option Addr) (c : Nat) (w : World) (hr : RdC w x A t) (hn : t.length ≤ 9223372036854775807) :
    Calls Try.prog 34 #[.slice A t.length c] w (Gives (.int .i64 (tblE t)) w) := by
  have Hr := Lib.hid hr
  clear hr
  by_cases hl : t.length ≤ 4096
  · go_enter Try.func34, Try.ntmps34
    go_wp2_with fail
    go_loopw [10] (fun i wr => ∃ k : Nat, k ≤ t.length ∧ i = .int .i64 k ∧ Hid ((List.range k).all (okC t) = true) ∧ Below w.heap.size w wr) (fun i _ => t.length - (intOf i).toNat)
    case atStart => exact ⟨0, Nat.zero_le _, rfl, rfl, Below.refl _ _⟩
    case round =>
      obtain ⟨k, hk, rfl, HK, hb⟩ := hrel
      have hsz := hb.size
      by_cases hlt : k < t.length
      · obtain ⟨b, o, rfl, hbB, _, hc⟩ := Hr.out (by omega)
        obtain ⟨s, z, n, HI⟩ : ∃ s z n, Hid (t.getD k ct0 = ((s, z), n)) := ⟨_, _, _, rfl⟩
        have hc0 : wr.cell? ⟨b, o + k * 3, none⟩ = some (.int .u64 s) := by rw [hb.cell (p := ⟨b, o + k * 3, none⟩) hbB]; exact hc k hlt 0 _ (by rw [HI.out]; rfl)
        have hc1 : wr.cell? ⟨b, o + k * 3 + 1, none⟩ = some (.int .i64 z) := by rw [hb.cell (p := ⟨b, o + k * 3 + 1, none⟩) hbB]; exact hc k hlt 1 _ (by rw [HI.out]; rfl)
        have hc2 : wr.cell? ⟨b, o + k * 3 + 2, none⟩ = some (.int .i64 n) := by rw [hb.cell (p := ⟨b, o + k * 3 + 2, none⟩) hbB]; exact hc k hlt 2 _ (by rw [HI.out]; rfl)
        have HC := Lib.hid hc
        clear hc
        go_wp2_with fail
        refine (Valid_any s z _).mono ?_
        rintro e w1 ⟨rfl, hb1⟩
        have hn0 : w1.cell? ⟨wr.heap.size, 0, none⟩ = some (.int .u64 s) := by rw [hb1.cell (p := ⟨wr.heap.size, 0, none⟩) (by simp)]; exact new_cell _ _ _ _ rfl 0
        have hn1 : w1.cell? ⟨wr.heap.size, 1, none⟩ = some (.int .i64 z) := by rw [hb1.cell (p := ⟨wr.heap.size, 1, none⟩) (by simp)]; exact new_cell _ _ _ _ rfl 1
        have hn2 : w1.cell? ⟨wr.heap.size, 2, none⟩ = some (.int .i64 n) := by rw [hb1.cell (p := ⟨wr.heap.size, 2, none⟩) (by simp)]; exact new_cell _ _ _ _ rfl 2
        have hbw : Below w.heap.size w w1 := (hb.alloc hb.size _).trans (hb1.mono (by simp; omega))
        have hs1 : wr.heap.size < w1.heap.size := by have := hb1.size; simp at this; omega
        have Hbw := Lib.hid hbw
        clear hb1
        cases hv : validB (s, z) with
        | false =>
          have HE : Hid (tblE t = 280) := tbl_bad hlt (okC_bad HI.out (by simp [rowB, chunkB, hv]))
          clear hv hbw
          go_wp2_with fail
          go_ret
          exact gv HE.out Hbw.out
        | true =>
          by_cases h0 : z < 1
          · have HE : Hid (tblE t = 280) := tbl_bad hlt (okC_bad HI.out (by simp [rowB, chunkB]; omega))
            clear hv hbw
            go_wp2_with fail
            go_ret
            exact gv HE.out Hbw.out
          · skip
            by_cases h1 : 8192 < z
            · have HE : Hid (tblE t = 280) := tbl_bad hlt (okC_bad HI.out (by simp [rowB, chunkB]; omega))
              clear hv hbw
              go_wp2_with fail
              go_ret
              exact gv HE.out Hbw.out
            · skip
              by_cases h2 : n < 0
              · have HE : Hid (tblE t = 280) := tbl_bad hlt (okC_bad HI.out (by simp [rowB, chunkB]; omega))
                clear hv hbw
                go_wp2_with fail
                go_ret
                exact gv HE.out Hbw.out
              · skip
                by_cases h3 : 1073741824 < n
                · have HE : Hid (tblE t = 280) := tbl_bad hlt (okC_bad HI.out (by simp [rowB, chunkB]; omega))
                  clear hv hbw
                  go_wp2_with fail
                  go_ret
                  exact gv HE.out Hbw.out
                · skip
                  have HR : Hid (rowB ((s, z), n) = true) := by simp [Hid, rowB, chunkB, hv]; omega
                  clear hv
                  by_cases hk0 : k = 0
                  · have hkd : decide (0 < k) = false := by simp [hk0]
                    have HO : Hid (okC t k = true) := okC_zero HI.out HR.out hk0
                    clear hk0 hbw
                    go_wp2_with fail
                    refine wp_region_ext (by kernel_rfl) (by kernel_rfl) ?_
                    repeat (go_big_quiet_step (fail))
                    refine wpQuiet_nil ?_
                    intro w2 hb2
                    go_wp2_with fail
                    go_roundw
                    case rel => exact ⟨k + 1, by omega, by go_num, all_snoc HK.out HO.out, Hbw.out.trans (hb2.mono (by have := Hbw.out.size; omega))⟩
                    case measure => simp [intOf]; omega
                  · have hkd : decide (0 < k) = true := by simp; omega
                    have hk1 : 0 < k := by omega
                    obtain ⟨p, r, m, HP⟩ : ∃ p r m, Hid (t.getD (k - 1) ct0 = ((p, r), m)) := ⟨_, _, _, rfl⟩
                    have ek : ((k : Int) - 1).toNat = k - 1 := by omega
                    have hp0 : w1.cell? ⟨b, o + (k - 1) * 3, none⟩ = some (.int .u64 p) := by rw [hbw.cell (p := ⟨b, o + (k - 1) * 3, none⟩) hbB]; exact HC.out (k - 1) (by omega) 0 _ (by rw [HP.out]; rfl)
                    have hp1 : w1.cell? ⟨b, o + (k - 1) * 3 + 1, none⟩ = some (.int .i64 r) := by rw [hbw.cell (p := ⟨b, o + (k - 1) * 3 + 1, none⟩) hbB]; exact HC.out (k - 1) (by omega) 1 _ (by rw [HP.out]; rfl)
                    have hltb : b < w1.heap.size := by omega
                    clear hbw
                    cases hlo : ltID (p, r) (s, z) with
                    | true =>
                      have HO : Hid (okC t k = true) := okC_far HI.out HP.out HR.out hlo
                      have hcm := cmpID_lt hlo
                      have hcb := cmpID_bd (p, r) (s, z)
                      have H51 := Lib.hid (fun W => compareIDs_any p r s z W)
                      generalize cmpID (p, r) (s, z) = cm at hcm hcb H51
                      clear hlo
                      go_wp2_with fail
                      refine wp_region_ext (by kernel_rfl) (by kernel_rfl) ?_
                      repeat (go_big_quiet_step ((go_at_call 51; exact ext_call (H51.out _))))
                      refine wpQuiet_nil ?_
                      intro w2 hb2
                      go_wp2_with fail
                      go_roundw
                      case rel => exact ⟨k + 1, by omega, by go_num, all_snoc HK.out HO.out, Hbw.out.trans (hb2.mono (by have := Hbw.out.size; omega))⟩
                      case measure => simp [intOf]; omega
                    | false =>
                      have HE : Hid (tblE t = 280) := tbl_bad hlt (okC_near HI.out HP.out hk1 hlo)
                      have hcm := cmpID_ge hlo
                      have hcb := cmpID_bd (p, r) (s, z)
                      have H51 := Lib.hid (fun W => compareIDs_any p r s z W)
                      generalize cmpID (p, r) (s, z) = cm at hcm hcb H51
                      clear hlo
                      go_wp2_with fail
                      refine wp_region_ext (by kernel_rfl) (by kernel_rfl) ?_
                      repeat (go_big_quiet_step ((go_at_call 51; exact ext_call (H51.out _))))
                      refine wpQuiet_nil ?_
                      intro w2 hb2
                      go_wp2_with fail
                      go_ret
                      exact gv HE.out (Hbw.out.trans (hb2.mono (by have := Hbw.out.size; omega)))
      · obtain rfl : k = t.length := by omega
        have HE : Hid (tblE t = 0) := tbl_good hl HK.out
        go_wp2_with fail
        go_ret
        exact gv HE.out hb
  · have HE : Hid (tblE t = 280) := tbl_long hl
    go_enter Try.func34, Try.ntmps34
    go_wp2_with fail
    go_ret
    exact gv HE.out (Below.refl _ _)
end Go.Proofs.Ytjglpmcekbjoaaa
