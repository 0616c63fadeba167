/- The law RevsetMembers. -/
import Derived.Test.YtahlccihjjhgfaaL
import Derived.Test.YtahlccihjjhgfaaPM
namespace Go.Proofs.Ytahlccihjjhgfaa
open Go.RowKit

theorem many_one (g : Nat) (A : Option Addr) (n c : Nat) (w : World) (hc : w.cell? ⟨g, 0, none⟩ = some (.slice A n c)) :
    Calls Try.prog 11 #[.slice (some ⟨g, 0, none⟩) 1 1] w fun e w' => e = .returned (.bool (decide (40 < n))) ∧ w = w' := by
  have h := many_any g [(A, n, c)] w (by simp) (fun j hj => by
    have : j = 0 := by simp at hj; omega
    subst this
    exact hc)
  simpa using h
theorem many_one_yes (g : Nat) (A : Option Addr) (n c : Nat) (w : World) (hc : w.cell? ⟨g, 0, none⟩ = some (.slice A n c)) (h : 40 < n) :
    Calls Try.prog 11 #[.slice (some ⟨g, 0, none⟩) 1 1] w fun e w' => e = .returned (.bool true) ∧ w = w' := by
  have := many_one g A n c w hc
  rwa [decide_eq_true h] at this
theorem many_one_no (g : Nat) (A : Option Addr) (n c : Nat) (w : World) (hc : w.cell? ⟨g, 0, none⟩ = some (.slice A n c)) (h : ¬ 40 < n) :
    Calls Try.prog 11 #[.slice (some ⟨g, 0, none⟩) 1 1] w fun e w' => e = .returned (.bool false) ∧ w = w' := by
  have := many_one g A n c w hc
  rwa [decide_eq_false h] at this

def LawPost (w : World) (e : Ending) (w' : World) : Prop := e = .returned (.bool true) ∧ Below w.heap.size w w'

set_option maxRecDepth 100000 in
set_option maxHeartbeats 1000000 in
theorem law5_many (A : Option Addr) (m c : Nat) (most n : Int) (w : World) (h : 40 < m) :
    Calls Try.prog 5 #[.slice A m c, .int .i64 most, .int .i64 n] w (LawPost w) := by
  go_enter Try.func5, Try.ntmps5
  go_wp2_with (first | (go_at_call 11; refine (many_one_yes _ A m c _ (new_cell _ _ _ _ (by simp) 0) h).mono ?_; rintro e w' ⟨rfl, rfl⟩) | (go_at_call 12; refine (awake_any _).mono ?_; rintro e w1 ⟨rfl, hb1⟩))
  go_ret
  exact ⟨rfl, ((Below.refl _ w).alloc (Nat.le_refl _) _).trans (hb1.mono (by simp))⟩

set_option maxRecDepth 100000 in
set_option maxHeartbeats 1000000 in
theorem law5_most (A : Option Addr) (m c : Nat) (most n : Int) (w : World) (h : ¬ 40 < m) (hmost : 2000 < most) :
    Calls Try.prog 5 #[.slice A m c, .int .i64 most, .int .i64 n] w (LawPost w) := by
  go_enter Try.func5, Try.ntmps5
  go_wp2_with (first | (go_at_call 11; refine (many_one_no _ A m c _ (new_cell _ _ _ _ (by simp) 0) h).mono ?_; rintro e w' ⟨rfl, rfl⟩) | (go_at_call 12; refine (awake_any _).mono ?_; rintro e w1 ⟨rfl, hb1⟩))
  go_ret
  exact ⟨rfl, ((Below.refl _ w).alloc (Nat.le_refl _) _).trans (hb1.mono (by simp))⟩

set_option maxRecDepth 100000 in
set_option maxHeartbeats 1000000 in
theorem law5_bad (A : Option Addr) (xs : RL) (c : Nat) (most n : Int) (w : World) (hr : RdR w w.heap.size A xs) (h : ¬ 40 < xs.length) (hmost : ¬ 2000 < most) (hk : checkB xs = false) :
    Calls Try.prog 5 #[.slice A xs.length c, .int .i64 most, .int .i64 n] w (LawPost w) := by
  have Hr := Lib.hid hr
  have Hk := Lib.hid hk
  clear hr hk
  go_enter Try.func5, Try.ntmps5
  go_wp2_with (first | (go_at_call 11; refine (many_one_no _ A xs.length c _ (new_cell _ _ _ _ (by simp) 0) h).mono ?_; rintro e w' ⟨rfl, rfl⟩) | (go_at_call 15; refine (Check_no _ _ xs _ (Hr.out.alloc _) (by omega) Hk.out).mono ?_; rintro e w1 ⟨rfl, hb1⟩) | (go_at_call 12; refine (awake_any _).mono ?_; rintro e w2 ⟨rfl, hb2⟩))
  go_ret
  have hb := ((Below.refl _ w).alloc (Nat.le_refl _) (.cells #[.slice A xs.length c] 22)).trans (hb1.mono (by simp))
  exact ⟨rfl, hb.trans (hb2.mono hb.size)⟩

theorem Has_at (A : Option Addr) (c : Nat) (xs : RL) (n : Int) (w : World) (hr : RdR w w.heap.size A xs) (hn : xs.length ≤ 4294967296) (h : checkB xs = true) (v : Bool) (hv : xs.any (inR n) = v) :
    Calls Try.prog 18 #[.slice A xs.length c, .int .i64 n] w fun e w' => e = .returned (.bool v) ∧ Below w.heap.size w w' := by
  have := Has_ok A c xs n w hr hn h
  rwa [hv] at this

theorem Has_yes (A : Option Addr) (c : Nat) (xs : RL) (n : Int) (w : World) (hr : RdR w w.heap.size A xs) (hn : xs.length ≤ 4294967296) (h : checkB xs = true) (hh : xs.any (inR n) = true) :
    Calls Try.prog 18 #[.slice A xs.length c, .int .i64 n] w fun e w' => e = .returned (.bool true) ∧ Below w.heap.size w w' := by
  have := Has_ok A c xs n w hr hn h
  rwa [hh] at this

set_option maxRecDepth 100000 in
set_option maxHeartbeats 2000000 in
theorem law5_ok (A : Option Addr) (xs : RL) (c : Nat) (most n : Int) (w : World) (hr : RdR w w.heap.size A xs) (h : ¬ 40 < xs.length) (hmost : ¬ 2000 < most) (hk : checkB xs = true) :
    Calls Try.prog 5 #[.slice A xs.length c, .int .i64 most, .int .i64 n] w (LawPost w) := by
  have Hr := Lib.hid hr
  have Hk := Lib.hid hk
  have Hlen := Lib.hid (memb_length (most := most) hk)
  obtain ⟨q, Hq⟩ : ∃ q, Hid (cnt xs xs.length = q) := ⟨_, rfl⟩
  rw [Hq.out] at Hlen
  obtain ⟨L, HL⟩ : ∃ L, Hid (memb xs most = L) := ⟨_, rfl⟩
  rw [HL.out] at Hlen
  have hmd : decide (2000 < most) = false := by simp; omega
  have hlen : ((L.length : Int) != min (max most 0) q) = false := by rw [Hlen.out]; simp
  clear hr hk
  go_enter Try.func5, Try.ntmps5
  go_wp2_with (first | (go_at_call 11; refine (many_one_no _ A xs.length c _ (new_cell _ _ _ _ (by simp) 0) h).mono ?_; rintro e w' ⟨rfl, rfl⟩) | (go_at_call 15; refine (Check_ok _ _ xs _ (Hr.out.alloc _) (by omega) Hk.out).mono ?_; rintro e w1 ⟨rfl, hb1⟩))
  have hb01 := ((Below.refl _ w).alloc (Nat.le_refl _) (.cells #[.slice A xs.length c] 22)).trans (hb1.mono (by simp))
  clear hb1
  refine (Members_ok _ _ xs most _ (Hr.out.on hb01) (by omega) (by omega) Hk.out).mono ?_
  rw [HL.out]
  rintro e w2 ⟨A2, c2, rfl, hr2, hb2⟩
  have Hr2 := Lib.hid hr2
  have hb02 := hb01.trans (hb2.mono hb01.size)
  clear hr2 hb2 hb01
  go_wp2_with fail
  refine (Count_ok _ _ xs _ (Hr.out.on hb02) (by omega) Hk.out).mono ?_
  rw [Hq.out]
  rintro e w3 ⟨rfl, hb3⟩
  have hb03 := hb02.trans (hb3.mono hb02.size)
  have Hr3 := Lib.hid ((Hr2.out.below hb3).more hb3.size)
  clear hb02 hb3
  go_wp2_with fail
  have hL40 : L.length ≤ 2000 := by have h7 := Hlen.out; omega
  go_loopw [11, 55] (fun t i wr => ∃ k : Nat, k ≤ L.length ∧ i = .int .i64 k ∧ t = .bool ((L.take k).contains n) ∧ Below w3.heap.size w3 wr) (fun _ i _ => L.length - (intOf i).toNat)
  case atStart => exact ⟨0, Nat.zero_le _, rfl, rfl, Below.refl _ _⟩
  case round =>
    obtain ⟨k, hk, rfl, rfl, hb⟩ := hrel
    have hsz := hb.size
    have hb0r := hb03.trans (hb.mono hb03.size)
    obtain ⟨t, Ht⟩ : ∃ t, Hid ((L.take k).contains n = t) := ⟨_, rfl⟩
    rw [Ht.out]
    by_cases hlt : k < L.length
    · obtain ⟨b, o, rfl, hbB, hc⟩ := Hr3.out (by omega)
      have HT : Hid ((L.take (k + 1)).contains n = (t || L.getD k 0 == n)) := by
        show (L.take (k + 1)).contains n = (t || L.getD k 0 == n)
        rw [contains_snoc n hlt, Ht.out]
      have Hany : Hid (xs.any (inR (L.getD k 0)) = true) := (any_inR inR (fun x => rfl)).2 (memb_mem (most := most) (by rw [HL.out]; exact getD_mem hlt))
      have Hlt := Lib.hid (fun h0 : 0 < k => getD_lt (L := L) (by rw [← HL.out]; exact memb_sorted Hk.out) (show k - 1 < k by omega) hlt)
      have hc0 : wr.cell? ⟨b, o + k, none⟩ = some (.int .i64 (L.getD k 0)) := by rw [hb.cell (p := ⟨b, o + k, none⟩) hbB, hc k hlt]
      have HC := Lib.hid hc
      clear hc
      obtain ⟨x, Hx⟩ : ∃ x, Hid (L.getD k 0 = x) := ⟨_, rfl⟩
      rw [Hx.out] at HT Hany hc0 Hlt
      have fin : ∀ wz, Below wr.heap.size wr wz → Below w3.heap.size w3 wz := fun wz hz => hb.trans (hz.mono hb.size)
      have Fin := Lib.hid fin
      clear fin
      by_cases hk0 : k = 0
      · have hkd : decide (0 < k) = false := by simp [hk0]
        clear hk0 Hlt
        cases t with
        | false =>
          go_wp2_with (go_at_call 18; refine (Has_yes _ _ xs _ _ (Hr.out.on hb0r) (by omega) Hk.out Hany.out).mono ?_; rintro e w4 ⟨rfl, hb4⟩)
          go_roundw
          case rel => exact ⟨k + 1, by omega, by go_num, by rw [HT.out]; rfl, Fin.out _ hb4⟩
          case measure => simp [intOf]; omega
        | true =>
          go_wp2_with (go_at_call 18; refine (Has_yes _ _ xs _ _ (Hr.out.on hb0r) (by omega) Hk.out Hany.out).mono ?_; rintro e w4 ⟨rfl, hb4⟩)
          go_roundw
          case rel => exact ⟨k + 1, by omega, by go_num, by rw [HT.out]; rfl, Fin.out _ hb4⟩
          case measure => simp [intOf]; omega
      · have hkd : decide (0 < k) = true := by simp; omega
        have hc1 : wr.cell? ⟨b, o + (k - 1), none⟩ = some (.int .i64 (L.getD (k - 1) 0)) := by rw [hb.cell (p := ⟨b, o + (k - 1), none⟩) hbB, HC.out (k - 1) (by omega)]
        have hxp := Hlt.out (by omega)
        obtain ⟨p, Hp⟩ : ∃ p, Hid (L.getD (k - 1) 0 = p) := ⟨_, rfl⟩
        rw [Hp.out] at hc1 hxp
        have hk1 : 1 ≤ k := by omega
        clear hk0 Hlt
        have hle : ¬ x ≤ p := by omega
        cases t with
        | false =>
          go_wp2_with (go_at_call 18; refine (Has_yes _ _ xs _ _ (Hr.out.on hb0r) (by omega) Hk.out Hany.out).mono ?_; rintro e w4 ⟨rfl, hb4⟩)
          go_roundw
          case rel => exact ⟨k + 1, by omega, by go_num, by rw [HT.out]; rfl, Fin.out _ hb4⟩
          case measure => simp [intOf]; omega
        | true =>
          go_wp2_with (go_at_call 18; refine (Has_yes _ _ xs _ _ (Hr.out.on hb0r) (by omega) Hk.out Hany.out).mono ?_; rintro e w4 ⟨rfl, hb4⟩)
          go_roundw
          case rel => exact ⟨k + 1, by omega, by go_num, by rw [HT.out]; rfl, Fin.out _ hb4⟩
          case measure => simp [intOf]; omega
    · obtain rfl : k = L.length := by omega
      have Ht2 : Hid (L.contains n = t) := by have h8 := Ht.out; rwa [List.take_length] at h8
      by_cases hl0 : L.length = 0
      · have ht : t = false := by
          rw [← Ht2.out, List.eq_nil_of_length_eq_zero hl0]; rfl
        subst ht
        have hz : ((L.length : Int) == 0) = true := by rw [hl0]; rfl
        clear hl0
        go_wp2_with (go_at_call 12; refine (awake_any _).mono ?_; rintro e w4 ⟨rfl, hb4⟩)
        go_ret
        exact ⟨rfl, hb0r.trans (hb4.mono hb0r.size)⟩
      · have hz : ((L.length : Int) == 0) = false := by rw [beq_eq_false_iff_ne]; omega
        obtain ⟨b, o, rfl, hbB, hc⟩ := Hr3.out (by omega)
        have hc0 : wr.cell? ⟨b, o + (L.length - 1), none⟩ = some (.int .i64 (L.getD (L.length - 1) 0)) := by rw [hb.cell (p := ⟨b, o + (L.length - 1), none⟩) hbB, hc _ (by omega)]
        clear hc
        obtain ⟨p, Hp⟩ : ∃ p, Hid (L.getD (L.length - 1) 0 = p) := ⟨_, rfl⟩
        rw [Hp.out] at hc0
        have hlp : 1 ≤ L.length := by omega
        by_cases hp : p < n
        · have ht : t = false := by
            rw [← Ht2.out, Bool.eq_false_iff]
            intro hh
            have h9 := memb_past (xs := xs) (most := most) (n := n) Hk.out (by rw [HL.out]; omega) (by rw [HL.out, Hp.out]; exact hp)
            rw [HL.out] at h9
            exact h9 (by simpa using hh)
          subst ht
          clear hl0
          go_wp2_with (go_at_call 12; refine (awake_any _).mono ?_; rintro e w4 ⟨rfl, hb4⟩)
          go_ret
          exact ⟨rfl, hb0r.trans (hb4.mono hb0r.size)⟩
        · have ht : xs.any (inR n) = t := by
            rw [← Ht2.out]
            have h9 := memb_upto (xs := xs) (most := most) (n := n) Hk.out (by rw [HL.out]; omega) (by rw [HL.out, Hp.out]; omega)
            rw [HL.out] at h9
            have h10 := any_inR (xs := xs) (n := n) inR (fun x => rfl)
            rw [Bool.eq_iff_iff, h10, ← h9]
            simp
          have hcon := Has_ok (w := wr) A c xs n (by exact Hr.out.on hb0r) (by omega) Hk.out
          rw [ht] at hcon
          have Hcon := Lib.hid hcon
          clear hl0 hcon ht
          cases t with
          | false =>
            go_wp2_with (first | (go_at_call 18; refine Hcon.out.mono ?_; rintro e w4 ⟨rfl, hb4⟩) | (go_at_call 12; refine (awake_any _).mono ?_; rintro e w5 ⟨rfl, hb5⟩))
            go_ret
            have hb4' := hb0r.trans (hb4.mono hb0r.size)
            exact ⟨rfl, hb4'.trans (hb5.mono hb4'.size)⟩
          | true =>
            go_wp2_with (first | (go_at_call 18; refine Hcon.out.mono ?_; rintro e w4 ⟨rfl, hb4⟩) | (go_at_call 12; refine (awake_any _).mono ?_; rintro e w5 ⟨rfl, hb5⟩))
            go_ret
            have hb4' := hb0r.trans (hb4.mono hb0r.size)
            exact ⟨rfl, hb4'.trans (hb5.mono hb4'.size)⟩

theorem law5 (A : Option Addr) (len c : Nat) (xs : RL) (hx : xs.length = len) (most n : Int) (w : World) (hr : RdR w w.heap.size A xs) :
    Calls Try.prog 5 #[.slice A len c, .int .i64 most, .int .i64 n] w (LawPost w) := by
  subst hx
  by_cases h : 40 < xs.length
  · exact law5_many A xs.length c most n w h
  · by_cases hm : 2000 < most
    · exact law5_most A xs.length c most n w h hm
    · cases hk : checkB xs with
      | false => exact law5_bad A xs c most n w hr h hm hk
      | true => exact law5_ok A xs c most n w hr h hm hk
end Go.Proofs.Ytahlccihjjhgfaa
