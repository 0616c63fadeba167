/- Contracts: Check. -/
import Derived.Test.YtahlccihjjhgfaaA
import Derived.Test.YtahlccihjjhgfaaE
namespace Go.Proofs.Ytahlccihjjhgfaa
open Go.RowKit
attribute [local go_sem] wext_cell

abbrev RL := List (Int × Int)

/-- The slice value '.slice A xs.length c' holds the ranges xs, below block B. -/
def RdR (w : World) (B : Nat) (A : Option Addr) (xs : RL) : Prop :=
  0 < xs.length → ∃ b o, A = some ⟨b, o, none⟩ ∧ b < B ∧ ∀ j, j < xs.length →
    w.cell? ⟨b, o + j * 2, none⟩ = some (.int .i64 (xs.getD j (0, 0)).1) ∧ w.cell? ⟨b, o + j * 2 + 1, none⟩ = some (.int .i64 (xs.getD j (0, 0)).2)

theorem RdR.keep {w w' : World} {B : Nat} {A : Option Addr} {xs : RL} (h : RdR w B A xs) (hk : ∀ b o, b < B → w'.cell? ⟨b, o, none⟩ = w.cell? ⟨b, o, none⟩) : RdR w' B A xs := by
  intro hp
  obtain ⟨b, o, e, hb, hc⟩ := h hp
  exact ⟨b, o, e, hb, fun j hj => by rw [hk _ _ hb, hk _ _ hb]; exact hc j hj⟩
theorem RdR.more {w : World} {B B' : Nat} {A : Option Addr} {xs : RL} (h : RdR w B A xs) (hB : B ≤ B') : RdR w B' A xs := by
  intro hp
  obtain ⟨b, o, e, hb, hc⟩ := h hp
  exact ⟨b, o, e, by omega, hc⟩
theorem RdR.below {w w' : World} {B : Nat} {A : Option Addr} {xs : RL} (h : RdR w B A xs) (hb : Below B w w') : RdR w' B A xs :=
  h.keep fun _ _ hp => hb.cell hp

/-- Element k of a list of ranges that are a set is in order. -/
def okAt (xs : RL) (k : Nat) : Bool := soundB (xs.getD k (0, 0)).1 (xs.getD k (0, 0)).2 && (k == 0 || decide (2 ≤ (xs.getD k (0, 0)).1 - (xs.getD (k - 1) (0, 0)).2))
/-- The ranges are a set. -/
def checkB (xs : RL) : Bool := (List.range xs.length).all (okAt xs)
def chkE (xs : RL) : Int := if checkB xs then 0 else 120

theorem soundB_iff {a b : Int} : soundB a b = true ↔ 1 ≤ a ∧ a ≤ b ∧ b ≤ 1073741824 := by simp [soundB]

theorem sound_no (a b : Int) (w : World) (h : soundB a b = false) :
    Calls Try.prog 31 #[.agg #[.int .i64 a, .int .i64 b]] w fun e w' => e = .returned (.bool false) ∧ w.alloc (.cells #[.int .i64 a, .int .i64 b] 29) = w' := by
  rw [← h]; exact sound_any a b w
theorem sound_yes (a b : Int) (w : World) (h : soundB a b = true) :
    Calls Try.prog 31 #[.agg #[.int .i64 a, .int .i64 b]] w fun e w' => e = .returned (.bool true) ∧ w.alloc (.cells #[.int .i64 a, .int .i64 b] 29) = w' := by
  rw [← h]; exact sound_any a b w
theorem sound_no' (a b : Int) (w : World) (h : soundB a b = false) :
    Calls Try.prog 31 #[.agg #[.int .i64 a, .int .i64 b]] w fun e w' => e = .returned (.bool false) ∧ Below w.heap.size w w' :=
  (sound_no a b w h).mono fun _ _ ⟨he, hw⟩ => ⟨he, hw ▸ (Below.refl _ _).alloc (Nat.le_refl _) _⟩
theorem sound_yes' (a b : Int) (w : World) (h : soundB a b = true) :
    Calls Try.prog 31 #[.agg #[.int .i64 a, .int .i64 b]] w fun e w' => e = .returned (.bool true) ∧ Below w.heap.size w w' :=
  (sound_yes a b w h).mono fun _ _ ⟨he, hw⟩ => ⟨he, hw ▸ (Below.refl _ _).alloc (Nat.le_refl _) _⟩
theorem chk_bad {xs : RL} {k : Nat} (hk : k < xs.length) (h : okAt xs k = false) : chkE xs = 120 := by
  unfold chkE
  rw [if_neg]
  unfold checkB
  rw [List.all_eq_true]
  intro hh
  have := hh k (List.mem_range.2 hk)
  rw [h] at this
  cases this
theorem chk_good {xs : RL} (h : (List.range xs.length).all (okAt xs) = true) : chkE xs = 0 := by
  unfold chkE checkB
  rw [if_pos h]
theorem all_snoc {xs : RL} {k : Nat} (h : (List.range k).all (okAt xs) = true) (h' : okAt xs k = true) : (List.range (k + 1)).all (okAt xs) = true := by
  rw [List.range_succ, List.all_append, h]
  simp [h']
theorem all_at {xs : RL} {k j : Nat} (h : (List.range k).all (okAt xs) = true) (hj : j < k) : okAt xs j = true :=
  List.all_eq_true.1 h j (List.mem_range.2 hj)
theorem okAt_sound {xs : RL} {k : Nat} (h : okAt xs k = true) : 1 ≤ (xs.getD k (0, 0)).1 ∧ (xs.getD k (0, 0)).1 ≤ (xs.getD k (0, 0)).2 ∧ (xs.getD k (0, 0)).2 ≤ 1073741824 := by
  unfold okAt at h
  rw [Bool.and_eq_true] at h
  exact soundB_iff.1 h.1
theorem okAt_zero {xs : RL} {k : Nat} {a b : Int} (h : xs.getD k (0, 0) = (a, b)) (hs : soundB a b = true) (hk : k = 0) : okAt xs k = true := by
  subst hk
  unfold okAt
  rw [h]
  simp [hs]
theorem okAt_bad {xs : RL} {k : Nat} {a b : Int} (h : xs.getD k (0, 0) = (a, b)) (hs : soundB a b = false) : okAt xs k = false := by
  unfold okAt
  rw [h]
  simp [hs]
theorem okAt_near {xs : RL} {k : Nat} {a b p q : Int} (h : xs.getD k (0, 0) = (a, b)) (h' : xs.getD (k - 1) (0, 0) = (p, q)) (hk : 0 < k) (hs : a - q < 2) : okAt xs k = false := by
  unfold okAt
  rw [h, h']
  have : (k == 0) = false := by simp; omega
  rw [this]
  have : decide (2 ≤ a - q) = false := by simp; omega
  simp [this]
theorem okAt_far {xs : RL} {k : Nat} {a b p q : Int} (h : xs.getD k (0, 0) = (a, b)) (h' : xs.getD (k - 1) (0, 0) = (p, q)) (hs : soundB a b = true) (hf : 2 ≤ a - q) : okAt xs k = true := by
  unfold okAt
  rw [h, h']
  have : decide (2 ≤ a - q) = true := by simp; omega
  simp [this, hs]

set_option maxHeartbeats 1000000 in
theorem Check_any (A : Option Addr) (c : Nat) (xs : RL) (w : World) (hr : RdR w w.heap.size A xs) (hn : xs.length ≤ 4294967296) :
    Calls Try.prog 15 #[.slice A xs.length c] w fun e w' => e = .returned (.int .i64 (chkE xs)) ∧ Below w.heap.size w w' := by
  have Hr := Lib.hid hr
  clear hr
  go_enter Try.func15, Try.ntmps15
  go_wp2
  go_loopw [7] (fun i wr => ∃ k : Nat, k ≤ xs.length ∧ i = .int .i64 k ∧ Hid ((List.range k).all (okAt xs) = true) ∧ Below w.heap.size w wr) (fun i _ => xs.length - (intOf i).toNat)
  case atStart => exact ⟨0, Nat.zero_le _, rfl, rfl, Below.refl _ _⟩
  case round =>
    obtain ⟨k, hk, rfl, HK, hb⟩ := hrel
    by_cases hlt : k < xs.length
    · obtain ⟨b, o, rfl, hbB, hc⟩ := Hr.out (by omega)
      have hsz := hb.size
      obtain ⟨a1, a2, HA⟩ : ∃ a1 a2, Hid (xs.getD k (0, 0) = (a1, a2)) := ⟨_, _, rfl⟩
      have hc0 : wr.cell? ⟨b, o + k * 2, none⟩ = some (.int .i64 a1) := by rw [hb.cell (p := ⟨b, o + k * 2, none⟩) hbB, (hc k hlt).1, HA.out]
      have hc1 : wr.cell? ⟨b, o + k * 2 + 1, none⟩ = some (.int .i64 a2) := by rw [hb.cell (p := ⟨b, o + k * 2 + 1, none⟩) hbB, (hc k hlt).2, HA.out]
      have hbne : b < wr.heap.size := by omega
      have HC := Lib.hid hc
      clear hc
      have fin : ∀ w2, Below (wr.heap.size + 1) (wr.alloc (.cells #[.int .i64 a1, .int .i64 a2] 29)) w2 → Below w.heap.size w w2 := fun w2 h2 =>
        (hb.alloc hb.size _).trans (h2.mono (by omega))
      have Fin := Lib.hid fin
      clear fin
      cases hs : soundB a1 a2 with
      | false =>
        have Hs := Lib.hid hs
        clear hs
        go_wp2_with fail
        refine wp_region_ext (by kernel_rfl) (by kernel_rfl) ?_
        repeat (go_big_quiet_step ((go_at_call 31; exact ext_call (sound_no' a1 a2 _ Hs.out))))
        refine wpQuiet_nil ?_
        intro w2 hb2
        go_wp2
        go_ret
        rw [chk_bad hlt (okAt_bad HA.out Hs.out)]
        exact ⟨rfl, Fin.out w2 (by simpa using hb2)⟩
      | true =>
        have hsd := soundB_iff.1 hs
        have Hs := Lib.hid hs
        clear hs
        obtain ⟨h1, h2, h3⟩ := hsd
        by_cases hk0 : k = 0
        · have hkd : decide (0 < k) = false := by simp [hk0]
          have Hk0 := Lib.hid hk0
          clear hk0
          go_wp2_with fail
          refine wp_region_ext (by kernel_rfl) (by kernel_rfl) ?_
          repeat (go_big_quiet_step ((go_at_call 31; exact ext_call (sound_yes' a1 a2 _ Hs.out))))
          refine wpQuiet_nil ?_
          intro w2 hb2
          go_wp2
          go_roundw
          case rel => exact ⟨k + 1, by omega, by go_num, all_snoc HK.out (okAt_zero HA.out Hs.out Hk0.out), Fin.out w2 (by simpa using hb2)⟩
          case measure => simp [intOf]; omega
        · obtain ⟨p1, p2, HP⟩ : ∃ p1 p2, Hid (xs.getD (k - 1) (0, 0) = (p1, p2)) := ⟨_, _, rfl⟩
          have hp := okAt_sound (all_at HK.out (show k - 1 < k by omega))
          rw [HP.out] at hp
          obtain ⟨h4, h5, h6⟩ := hp
          have hcp : wr.cell? ⟨b, o + (k - 1) * 2 + 1, none⟩ = some (.int .i64 p2) := by rw [hb.cell (p := ⟨b, o + (k - 1) * 2 + 1, none⟩) hbB, (HC.out (k - 1) (by omega)).2, HP.out]
          have hkd : decide (0 < k) = true := by simp; omega
          have hbn : b < wr.heap.size + 1 := by omega
          by_cases hg : a1 - p2 < 2
          · go_wp2_with fail
            refine wp_region_ext (by kernel_rfl) (by kernel_rfl) ?_
            repeat (go_big_quiet_step ((go_at_call 31; exact ext_call (sound_yes' a1 a2 _ Hs.out))))
            refine wpQuiet_nil ?_
            intro w2 hb2
            go_wp2
            go_ret
            rw [chk_bad hlt (okAt_near HA.out HP.out (by omega) hg)]
            exact ⟨rfl, Fin.out w2 (by simpa using hb2)⟩
          · go_wp2_with fail
            refine wp_region_ext (by kernel_rfl) (by kernel_rfl) ?_
            repeat (go_big_quiet_step ((go_at_call 31; exact ext_call (sound_yes' a1 a2 _ Hs.out))))
            refine wpQuiet_nil ?_
            intro w2 hb2
            go_wp2
            go_roundw
            case rel => exact ⟨k + 1, by omega, by go_num, all_snoc HK.out (okAt_far HA.out HP.out Hs.out (by omega)), Fin.out w2 (by simpa using hb2)⟩
            case measure => simp [intOf]; omega
    · obtain rfl : k = xs.length := by omega
      go_wp2
      go_ret
      rw [chk_good HK.out]
      exact ⟨rfl, hb⟩
end Go.Proofs.Ytahlccihjjhgfaa
