/- Contracts: many, Same. -/
import Derived.Test.YtahlccihjjhgfaaF
namespace Go.Proofs.Ytahlccihjjhgfaa
open Go.RowKit

theorem only_of_below {a w : World} (h : Below a.heap.size a w) (row : Option Nat) : a.grownBy w row := ⟨h.os, h.tape, h.output, h.size, fun i hi _ => h.block i hi⟩
theorem bdrewN {B : Nat} {a w : World} (h : Below B a w) (n : Nat) : Below B a (w.drewN n) := ⟨h.os, h.tape, h.output, h.size, h.block⟩

/-- '==' on ranges. -/
theorem eqlR (x1 x2 y1 y2 : Int) (w : World) :
    (Op.equalIn 10000 29 (.agg #[.int .i64 x1, .int .i64 x2]) (.agg #[.int .i64 y1, .int .i64 y2])).run Try.prog w = .ok (x1 == y1 && x2 == y2) w := by
  have u3 := Try.underlying3
  have a3 := Try.isAgg3
  have z3 := Try.sizeOf3
  have hS : Try.prog.underlying 29 = some (.struct (Try.prog.fieldsOf 29)) := by kernel_rfl
  have hp : Try.prog.stoodInHeld 29 = false := by kernel_rfl
  rw [show (10000 : Nat) = 9999 + 1 from rfl, run_equalIn_agg w 9999 29 _ _ hS hp]
  simp only [Program.fieldsOf, Try.underlying29]
  go_simp
  by_cases h1 : x1 = y1 <;> by_cases h2 : x2 = y2 <;> simp [h1, h2]
theorem eqlR_yes (x1 x2 y1 y2 : Int) (h : (x1, x2) = (y1, y2)) (w : World) :
    (Op.equalIn 10000 29 (.agg #[.int .i64 x1, .int .i64 x2]) (.agg #[.int .i64 y1, .int .i64 y2])).run Try.prog w = .ok true w := by
  rw [eqlR]
  simp only [Prod.mk.injEq] at h
  simp [h.1, h.2]
theorem eqlR_no (x1 x2 y1 y2 : Int) (h : (x1, x2) ≠ (y1, y2)) (w : World) :
    (Op.equalIn 10000 29 (.agg #[.int .i64 x1, .int .i64 x2]) (.agg #[.int .i64 y1, .int .i64 y2])).run Try.prog w = .ok false w := by
  rw [eqlR]
  have : (x1 == y1 && x2 == y2) = false := by
    rw [Bool.eq_false_iff]
    intro hh
    simp at hh
    exact h (by rw [hh.1, hh.2])
  rw [this]

set_option maxHeartbeats 400000 in
theorem many_any (g : Nat) (ls : List (Option Addr × Nat × Nat)) (w : World) (hn : ls.length ≤ 1000) (hc : ∀ j, j < ls.length → w.cell? ⟨g, j, none⟩ = some (.slice (ls.getD j (none, 0, 0)).1 (ls.getD j (none, 0, 0)).2.1 (ls.getD j (none, 0, 0)).2.2)) :
    Calls Try.prog 11 #[.slice (some ⟨g, 0, none⟩) ls.length ls.length] w fun e w' => e = .returned (.bool (ls.any fun x => decide (40 < x.2.1))) ∧ w = w' := by
  have Hc := Lib.hid hc
  clear hc
  obtain ⟨v, Hv⟩ : ∃ v, Hid ((ls.any fun x => decide (40 < x.2.1)) = v) := ⟨_, rfl⟩
  rw [Hv.out]
  go_enter Try.func11, Try.ntmps11
  go_wp2
  go_loop [7] (fun i => ∃ k : Nat, k ≤ ls.length ∧ i = .int .i64 k ∧ Hid (((ls.take k).any fun x => decide (40 < x.2.1)) = false)) (fun i => ls.length - (intOf i).toNat)
  case atStart => exact ⟨0, Nat.zero_le _, rfl, by simp [Hid]⟩
  case round =>
    obtain ⟨k, hk, rfl, HK⟩ := hrel
    by_cases hlt : k < ls.length
    · obtain ⟨A, n, c, HA⟩ : ∃ A n c, Hid (ls.getD k (none, 0, 0) = (A, n, c)) := ⟨_, _, _, rfl⟩
      have hc0 : w.cell? ⟨g, k, none⟩ = some (.slice A n c) := by rw [Hc.out k hlt, HA.out]
      have HT : Hid (((ls.take (k + 1)).any fun x => decide (40 < x.2.1)) = decide (40 < n)) := by
        show ((ls.take (k + 1)).any fun x => decide (40 < x.2.1)) = decide (40 < n)
        have e : ls[k] = (A, n, c) := by rw [← HA.out, List.getD_eq_getElem?_getD, List.getElem?_eq_getElem hlt]; rfl
        rw [List.take_succ_eq_append_getElem hlt, List.any_append, HK.out, e]
        simp
      by_cases h1 : 40 < n
      · have hv : v = true := by
          rw [← Hv.out, List.any_eq_true]
          have h := HT.out
          rw [decide_eq_true h1, List.any_eq_true] at h
          obtain ⟨x, hx, hh⟩ := h
          exact ⟨x, List.mem_of_mem_take hx, hh⟩
        subst hv
        go_wp2
        go_ret
        exact ⟨rfl, rfl⟩
      · go_wp2
        go_round
        case rel => exact ⟨k + 1, by omega, by go_num, HT.out.trans (by simp; omega)⟩
        case measure => simp [intOf]; omega
    · obtain rfl : k = ls.length := by omega
      have hv : v = false := by rw [← Hv.out, ← HK.out, List.take_length]
      subst hv
      go_wp2
      go_ret
      exact ⟨rfl, rfl⟩

set_option maxHeartbeats 1000000 in
/-- Two lists of ranges are equal. -/
theorem Same_any (A B : Option Addr) (c d : Nat) (xs ys : RL) (w : World) (hr : RdR w w.heap.size A xs) (hr' : RdR w w.heap.size B ys) (hn : xs.length ≤ 4294967296) (hn' : ys.length ≤ 4294967296) :
    Calls Try.prog 14 #[.slice A xs.length c, .slice B ys.length d] w fun e w' => e = .returned (.bool (decide (xs = ys))) ∧ Below w.heap.size w w' := by
  have Hr := Lib.hid hr
  have Hr' := Lib.hid hr'
  clear hr hr'
  have hgd : ∀ op a b x y w, (eqGuard op 29 a b (.agg x) (.agg y)).run Try.prog w = .ok () w := fun op a b x y w => run_eqGuard_agg w op 29 a b x y (by kernel_rfl)
  by_cases hl : xs.length = ys.length
  · obtain ⟨v, Hv⟩ : ∃ v, Hid (decide (xs = ys) = v) := ⟨_, rfl⟩
    rw [Hv.out]
    have Hl := Lib.hid hl
    rw [← hl]
    clear hl
    go_enter Try.func14, Try.ntmps14
    go_wp2
    go_loopw [13] (fun i wr => ∃ k : Nat, k ≤ xs.length ∧ i = .int .i64 k ∧ Hid (xs.take k = ys.take k) ∧ Below w.heap.size w wr) (fun i _ => xs.length - (intOf i).toNat)
    case atStart => exact ⟨0, Nat.zero_le _, rfl, by simp [Hid], Below.refl _ _⟩
    case round =>
      obtain ⟨k, hk, rfl, HK, hb⟩ := hrel
      by_cases hlt : k < xs.length
      · obtain ⟨b, o, rfl, hbB, hc⟩ := Hr.out (by omega)
        obtain ⟨b', o', rfl, hbB', hc'⟩ := Hr'.out (by have := Hl.out; omega)
        have hlt' : k < ys.length := by have := Hl.out; omega
        obtain ⟨a1, a2, HA⟩ : ∃ a1 a2, Hid (xs.getD k (0, 0) = (a1, a2)) := ⟨_, _, rfl⟩
        obtain ⟨b1, b2, HB⟩ : ∃ b1 b2, Hid (ys.getD k (0, 0) = (b1, b2)) := ⟨_, _, rfl⟩
        have hc0 : wr.cell? ⟨b, o + k * 2, none⟩ = some (.int .i64 a1) := by rw [hb.cell (p := ⟨b, o + k * 2, none⟩) hbB, (hc k hlt).1, HA.out]
        have hc1 : wr.cell? ⟨b, o + k * 2 + 1, none⟩ = some (.int .i64 a2) := by rw [hb.cell (p := ⟨b, o + k * 2 + 1, none⟩) hbB, (hc k hlt).2, HA.out]
        have hd0 : wr.cell? ⟨b', o' + k * 2, none⟩ = some (.int .i64 b1) := by rw [hb.cell (p := ⟨b', o' + k * 2, none⟩) hbB', (hc' k hlt').1, HB.out]
        have hd1 : wr.cell? ⟨b', o' + k * 2 + 1, none⟩ = some (.int .i64 b2) := by rw [hb.cell (p := ⟨b', o' + k * 2 + 1, none⟩) hbB', (hc' k hlt').2, HB.out]
        clear hc hc'
        have ex : xs[k] = (a1, a2) := by rw [← HA.out, List.getD_eq_getElem?_getD, List.getElem?_eq_getElem hlt]; rfl
        have ey : ys[k] = (b1, b2) := by rw [← HB.out, List.getD_eq_getElem?_getD, List.getElem?_eq_getElem hlt']; rfl
        by_cases he : (a1, a2) = (b1, b2)
        · have HT : Hid (xs.take (k + 1) = ys.take (k + 1)) := by
            show xs.take (k + 1) = ys.take (k + 1)
            rw [List.take_succ_eq_append_getElem hlt, List.take_succ_eq_append_getElem hlt', HK.out, ex, ey, he]
          have heq := eqlR_yes a1 a2 b1 b2 he
          clear ex ey he
          go_wp2_with fail
          go_quiet (fail)
          go_wp2
          go_roundw
          case rel => exact ⟨k + 1, by omega, by go_num, HT, bdrewN hb _⟩
          case measure => simp [intOf]; omega
        · have hv : v = false := by
            rw [← Hv.out, decide_eq_false_iff_not]
            intro h
            subst h
            rw [ex] at ey
            exact he ey
          subst hv
          have heq := eqlR_no a1 a2 b1 b2 he
          clear ex ey he
          go_wp2_with fail
          go_quiet (fail)
          go_wp2
          go_ret
          exact ⟨rfl, bdrewN hb _⟩
      · obtain rfl : k = xs.length := by omega
        have hv : v = true := by
          rw [← Hv.out, decide_eq_true_iff]
          have := HK.out
          rwa [List.take_length, Hl.out, List.take_length] at this
        subst hv
        go_wp2
        go_ret
        exact ⟨rfl, hb⟩
  · have hv : decide (xs = ys) = false := by
      rw [decide_eq_false_iff_not]
      intro h
      exact hl (by rw [h])
    rw [hv]
    clear hv
    have hne : ((xs.length : Int) != (ys.length : Int)) = true := by rw [bne_iff_ne]; omega
    clear hl
    go_enter Try.func14, Try.ntmps14
    go_wp2
    go_ret
    exact ⟨rfl, Below.refl _ _⟩
end Go.Proofs.Ytahlccihjjhgfaa
