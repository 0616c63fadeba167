/- Contracts: Count, Members, Has. -/
import Derived.Test.YtahlccihjjhgfaaB
namespace Go.Proofs.Ytahlccihjjhgfaa
open Go.RowKit
attribute [local go_sem] wext_cell

theorem Check_ok (A : Option Addr) (c : Nat) (xs : RL) (w : World) (hr : RdR w w.heap.size A xs) (hn : xs.length ≤ 4294967296) (h : checkB xs = true) :
    Calls Try.prog 15 #[.slice A xs.length c] w fun e w' => e = .returned (.int .i64 0) ∧ Below w.heap.size w w' := by
  have := Check_any A c xs w hr hn
  unfold chkE at this
  rwa [if_pos h] at this
theorem Check_no (A : Option Addr) (c : Nat) (xs : RL) (w : World) (hr : RdR w w.heap.size A xs) (hn : xs.length ≤ 4294967296) (h : checkB xs = false) :
    Calls Try.prog 15 #[.slice A xs.length c] w fun e w' => e = .returned (.int .i64 120) ∧ Below w.heap.size w w' := by
  have := Check_any A c xs w hr hn
  unfold chkE at this
  rwa [if_neg (by rw [h]; exact Bool.false_ne_true)] at this

theorem checkB_at {xs : RL} {k : Nat} (h : checkB xs = true) (hk : k < xs.length) : okAt xs k = true := all_at h hk

/-- How many numbers the first k ranges have. -/
def cnt (xs : RL) : Nat → Int
  | 0 => 0
  | k + 1 => cnt xs k + ((xs.getD k (0, 0)).2 - (xs.getD k (0, 0)).1 + 1)

theorem cnt_bd {xs : RL} (h : checkB xs = true) : ∀ k, k ≤ xs.length → 0 ≤ cnt xs k ∧ cnt xs k ≤ 1073741824 * k
  | 0, _ => by simp [cnt]
  | k + 1, hk => by
    have ih := cnt_bd h k (by omega)
    have hs := okAt_sound (checkB_at h (show k < xs.length by omega))
    simp only [cnt]
    push_cast
    omega

set_option maxHeartbeats 1000000 in
theorem Count_no (A : Option Addr) (c : Nat) (xs : RL) (w : World) (hr : RdR w w.heap.size A xs) (hn : xs.length ≤ 4294967296) (h : checkB xs = false) :
    Calls Try.prog 16 #[.slice A xs.length c] w fun e w' => e = .returned (.tuple #[.int .i64 0, .int .i64 120]) ∧ Below w.heap.size w w' := by
  have Hr := Lib.hid hr
  have H := Lib.hid h
  clear hr h
  go_enter Try.func16, Try.ntmps16
  go_wp2_with (go_at_call 15; refine (Check_no _ _ xs _ Hr.out hn H.out).mono ?_; rintro e w1 ⟨rfl, hb1⟩)
  go_ret2
  exact ⟨rfl, hb1⟩

set_option maxHeartbeats 1000000 in
theorem Count_ok (A : Option Addr) (c : Nat) (xs : RL) (w : World) (hr : RdR w w.heap.size A xs) (hn : xs.length ≤ 4294967296) (h : checkB xs = true) :
    Calls Try.prog 16 #[.slice A xs.length c] w fun e w' => e = .returned (.tuple #[.int .i64 (cnt xs xs.length), .int .i64 0]) ∧ Below w.heap.size w w' := by
  have Hr := Lib.hid hr
  have H := Lib.hid h
  clear hr h
  go_enter Try.func16, Try.ntmps16
  go_wp2_with (go_at_call 15; refine (Check_ok _ _ xs _ Hr.out hn H.out).mono ?_; rintro e w1 ⟨rfl, hb1⟩)
  go_loopw [5, 15] (fun n i wr => ∃ k : Nat, k ≤ xs.length ∧ i = .int .i64 k ∧ n = .int .i64 (cnt xs k) ∧ Below w.heap.size w wr) (fun _ i _ => xs.length - (intOf i).toNat)
  case atStart => exact ⟨0, Nat.zero_le _, rfl, rfl, hb1⟩
  case round =>
    obtain ⟨k, hk, rfl, rfl, hb⟩ := hrel
    by_cases hlt : k < xs.length
    · obtain ⟨b, o, rfl, hbB, hc⟩ := Hr.out (by omega)
      have hsz := hb.size
      have hbd := cnt_bd H.out k hk
      have hs := okAt_sound (checkB_at H.out hlt)
      have HN : Hid (cnt xs (k + 1) = cnt xs k + ((xs.getD k (0, 0)).2 - (xs.getD k (0, 0)).1 + 1)) := rfl
      obtain ⟨a1, a2, HA⟩ : ∃ a1 a2, Hid (xs.getD k (0, 0) = (a1, a2)) := ⟨_, _, rfl⟩
      rw [HA.out] at hs HN
      obtain ⟨h1, h2, h3⟩ := hs
      have hc0 : wr.cell? ⟨b, o + k * 2, none⟩ = some (.int .i64 a1) := by rw [hb.cell (p := ⟨b, o + k * 2, none⟩) hbB, (hc k hlt).1, HA.out]
      have hc1 : wr.cell? ⟨b, o + k * 2 + 1, none⟩ = some (.int .i64 a2) := by rw [hb.cell (p := ⟨b, o + k * 2 + 1, none⟩) hbB, (hc k hlt).2, HA.out]
      clear hc
      go_wp2
      go_roundw
      case rel => exact ⟨k + 1, by omega, by go_num, by rw [HN.out], hb.alloc hb.size _⟩
      case measure => simp [intOf]; omega
    · obtain rfl : k = xs.length := by omega
      go_wp2
      go_ret2
      exact ⟨rfl, hb⟩
end Go.Proofs.Ytahlccihjjhgfaa
