/- Contracts: side.state, side.past, the closures of Union, Meet, Minus. -/
import Derived.Test.YtahlccihjjhgfaaL
import Derived.Test.YtahlccihjjhgfaaPC
namespace Go.Proofs.Ytahlccihjjhgfaa
open Go.RowKit

set_option maxHeartbeats 1000000 in
theorem state_any (A : Option Addr) (c : Nat) (xs : RL) (n : Int) (w : World) (hr : RdR w w.heap.size A xs) (hn : xs.length ≤ 4294967296) (hx : ∀ x ∈ xs, 0 ≤ x.2 ∧ x.2 ≤ 1073741824) :
    Calls Try.prog 50 #[.slice A xs.length c, .int .i64 n] w fun e w' => e = .returned (.tuple #[.bool (stB xs n), .int .i64 (stE xs n)]) ∧ Below w.heap.size w w' := by
  cases xs with
  | nil =>
    clear hr hx
    go_enter Try.func50, Try.ntmps50
    go_wp2
    go_ret2
    exact ⟨rfl, Below.refl _ _⟩
  | cons x t =>
    obtain ⟨b, o, rfl, hb, hc⟩ := hr (by simp)
    have h0 := hc 0 (by simp)
    have hx0 := hx x (by simp)
    obtain ⟨x1, x2⟩ := x
    simp only at hx0
    obtain ⟨h1, h2⟩ := hx0
    have hc0 : w.cell? ⟨b, o, none⟩ = some (.int .i64 x1) := by simpa using h0.1
    have hc1 : w.cell? ⟨b, o + 1, none⟩ = some (.int .i64 x2) := by simpa using h0.2
    clear hc h0 hr hx
    obtain ⟨l, Hl⟩ : ∃ l, Hid (((x1, x2) :: t).length = l) := ⟨_, rfl⟩
    have hl1 : 1 ≤ l := by rw [← Hl.out]; simp
    have hz : ((l : Int) == 0) = false := by rw [beq_eq_false_iff_ne]; omega
    rw [Hl.out] at hn ⊢
    by_cases hlt : n < x1
    · have e1 : stB ((x1, x2) :: t) n = false := by simp [stB]; omega
      have e2 : stE ((x1, x2) :: t) n = x1 := by simp [stE, hlt]
      rw [e1, e2]
      clear e1 e2
      go_enter Try.func50, Try.ntmps50
      go_wp2_with fail
      go_quiet (fail)
      go_wp2
      go_ret2
      exact ⟨rfl, bdrewN (Below.refl _ _) _⟩
    · have e1 : stB ((x1, x2) :: t) n = true := by simp [stB]; omega
      have e2 : stE ((x1, x2) :: t) n = x2 + 1 := by simp [stE, hlt]
      rw [e1, e2]
      clear e1 e2
      go_enter Try.func50, Try.ntmps50
      go_wp2_with fail
      go_quiet (fail)
      go_wp2
      go_ret2
      exact ⟨rfl, bdrewN (Below.refl _ _) _⟩

def PastPost (B : Nat) (ys : RL) (w : World) (e : Ending) (w' : World) : Prop :=
  ∃ A c, e = .returned (.slice A ys.length c) ∧ RdR w B A ys ∧ ys.length ≤ c ∧ w = w'

set_option maxHeartbeats 1000000 in
theorem past_any (B : Nat) (A : Option Addr) (c : Nat) (xs : RL) (n : Int) (w : World) (hr : RdR w B A xs) (hn : xs.length ≤ 4294967296) (hcap : xs.length ≤ c) :
    Calls Try.prog 51 #[.slice A xs.length c, .int .i64 n] w (PastPost B (pastL xs n) w) := by
  cases xs with
  | nil =>
    have Hr := Lib.hid hr
    clear hr
    go_enter Try.func51, Try.ntmps51
    go_wp2
    go_ret
    exact ⟨A, c, rfl, Hr.out, hcap, rfl⟩
  | cons x t =>
    obtain ⟨b, o, rfl, hb, hc⟩ := hr (by simp)
    have Hr := Lib.hid hr
    have h0 := hc 0 (by simp)
    obtain ⟨x1, x2⟩ := x
    have hc1 : w.cell? ⟨b, o + 1, none⟩ = some (.int .i64 x2) := by simpa using h0.2
    have HC := Lib.hid hc
    clear hc h0 hr
    obtain ⟨l, Hl⟩ : ∃ l, Hid (t.length = l) := ⟨_, rfl⟩
    have Hl1 : Hid (((x1, x2) :: t).length = l + 1) := by simp [Hid, Hl.out]
    rw [Hl1.out] at hn hcap ⊢
    have hd : decide (0 < l + 1) = true := by simp
    by_cases hlt : x2 < n
    · have e1 : pastL ((x1, x2) :: t) n = t := by simp [pastL, hlt]
      rw [e1]
      clear e1
      have Hrd : Hid (1 < c → RdR w B (some ⟨b, o + 2, none⟩) t) := fun _ hp => by
        refine ⟨b, o + 2, rfl, hb, fun j hj => ?_⟩
        have hh := HC.out (j + 1) (by simp; omega)
        rw [show o + (j + 1) * 2 = o + 2 + j * 2 by omega] at hh
        simpa using hh
      by_cases hc1' : c = 1
      · have ht : t = [] := List.eq_nil_of_length_eq_zero (by rw [Hl.out]; omega)
        obtain rfl : l = 0 := by omega
        subst hc1'
        go_enter Try.func51, Try.ntmps51
        go_wp2
        go_ret
        subst ht
        exact ⟨_, _, rfl, fun hp => absurd hp (by simp), by simp, rfl⟩
      · have hc2 : ¬ c = 1 := hc1'
        go_enter Try.func51, Try.ntmps51
        go_wp2
        go_ret
        exact ⟨some ⟨b, o + 2, none⟩, c - 1, by rw [Hl.out]; rfl, Hrd.out (by omega), by rw [Hl.out]; omega, rfl⟩
    · have e1 : pastL ((x1, x2) :: t) n = (x1, x2) :: t := by simp [pastL, hlt]
      rw [e1]
      clear e1
      go_enter Try.func51, Try.ntmps51
      go_wp2
      go_ret
      exact ⟨_, c, by rw [Hl1.out]; rfl, Hr.out, by rw [Hl1.out]; exact hcap, rfl⟩

theorem closure42 (x y : Bool) (w : World) : Calls Try.prog 42 #[.bool x, .bool y] w fun e w' => e = .returned (.bool (x || y)) ∧ w = w' := by
  cases x
  all_goals
    go_enter Try.func42, Try.ntmps42
    go_wp2
    go_ret
    exact ⟨rfl, rfl⟩
theorem closure43 (x y : Bool) (w : World) : Calls Try.prog 43 #[.bool x, .bool y] w fun e w' => e = .returned (.bool (x && y)) ∧ w = w' := by
  cases x
  all_goals
    go_enter Try.func43, Try.ntmps43
    go_wp2
    go_ret
    exact ⟨rfl, rfl⟩
theorem closure44 (x y : Bool) (w : World) : Calls Try.prog 44 #[.bool x, .bool y] w fun e w' => e = .returned (.bool (x && !y)) ∧ w = w' := by
  cases x
  all_goals
    go_enter Try.func44, Try.ntmps44
    go_wp2
    go_ret
    exact ⟨rfl, rfl⟩
end Go.Proofs.Ytahlccihjjhgfaa
