/- The law RevsetAsks. -/
import Derived.Test.YtahlccihjjhgfaaM
import Derived.Test.YtahlccihjjhgfaaG
namespace Go.Proofs.Ytahlccihjjhgfaa
open Go.RowKit
attribute [local go_sem] wext_cell

set_option maxRecDepth 100000 in
set_option maxHeartbeats 1000000 in
theorem law4_many (A : Option Addr) (m c : Nat) (n most : Int) (w : World) (h : 40 < m) :
    Calls Try.prog 4 #[.slice A m c, .int .i64 n, .int .i64 most] w (LawPost w) := by
  go_enter Try.func4, Try.ntmps4
  go_wp2_with (first | (go_at_call 11; refine (many_one_yes _ A m c _ (new_cell _ _ _ _ (by simp) 0) h).mono ?_; rintro e w' ⟨rfl, rfl⟩) | (go_at_call 12; refine (awake_any _).mono ?_; rintro e w1 ⟨rfl, hb1⟩))
  go_ret
  exact ⟨rfl, ((Below.refl _ w).alloc (Nat.le_refl _) _).trans (hb1.mono (by simp))⟩

set_option maxRecDepth 100000 in
set_option maxHeartbeats 1000000 in
theorem law4_most (A : Option Addr) (m c : Nat) (n most : Int) (w : World) (h : ¬ 40 < m) (hmost : 2000 < most) :
    Calls Try.prog 4 #[.slice A m c, .int .i64 n, .int .i64 most] w (LawPost w) := by
  go_enter Try.func4, Try.ntmps4
  go_wp2_with (first | (go_at_call 11; refine (many_one_no _ A m c _ (new_cell _ _ _ _ (by simp) 0) h).mono ?_; rintro e w' ⟨rfl, rfl⟩) | (go_at_call 12; refine (awake_any _).mono ?_; rintro e w1 ⟨rfl, hb1⟩))
  go_ret
  exact ⟨rfl, ((Below.refl _ w).alloc (Nat.le_refl _) _).trans (hb1.mono (by simp))⟩

set_option maxRecDepth 100000 in
set_option maxHeartbeats 2000000 in
theorem law4_bad (A : Option Addr) (xs : RL) (c : Nat) (n most : Int) (w : World) (hr : RdR w w.heap.size A xs) (h : ¬ 40 < xs.length) (hmost : ¬ 2000 < most) (hk : checkB xs = false) :
    Calls Try.prog 4 #[.slice A xs.length c, .int .i64 n, .int .i64 most] w (LawPost w) := by
  have Hr := Lib.hid hr
  have Hk := Lib.hid hk
  clear hr hk
  have hmd : decide (2000 < most) = false := by simp; omega
  go_enter Try.func4, Try.ntmps4
  go_wp2_with (first | (go_at_call 11; refine (many_one_no _ A xs.length c _ (new_cell _ _ _ _ (by simp) 0) h).mono ?_; rintro e w' ⟨rfl, rfl⟩))
  refine (Count_no _ _ xs _ (Hr.out.alloc _) (by omega) Hk.out).mono ?_
  rintro e w1 ⟨rfl, hb1⟩
  have hb01 := ((Below.refl _ w).alloc (Nat.le_refl _) (.cells #[.slice A xs.length c] 22)).trans (hb1.mono (by simp))
  clear hb1
  go_wp2_with fail
  refine (Members_no _ _ xs most _ (Hr.out.on hb01) (by omega) Hk.out).mono ?_
  rintro e w2 ⟨rfl, hb2⟩
  have hb02 := hb01.trans (hb2.mono hb01.size)
  clear hb01 hb2
  go_wp2_with fail
  refine (Has_no _ _ xs n _ (Hr.out.on hb02) (by omega) Hk.out).mono ?_
  rintro e w3 ⟨rfl, hb3⟩
  have hb03 := hb02.trans (hb3.mono hb02.size)
  clear hb02 hb3
  go_wp2_with fail
  refine (rCheck_no _ _ xs _ (Hr.out.on hb03) (by omega) Hk.out).mono ?_
  rintro e w4 ⟨rfl, hb4⟩
  have hb04 := hb03.trans (hb4.mono hb03.size)
  clear hb03 hb4
  go_wp2_with (go_at_call 12; refine (awake_any _).mono ?_; rintro e w5 ⟨rfl, hb5⟩)
  go_ret
  exact ⟨rfl, hb04.trans (hb5.mono hb04.size)⟩

set_option maxRecDepth 100000 in
set_option maxHeartbeats 4000000 in
theorem law4_ok (A : Option Addr) (xs : RL) (c : Nat) (n most : Int) (w : World) (hr : RdR w w.heap.size A xs) (h : ¬ 40 < xs.length) (hmost : ¬ 2000 < most) (hk : checkB xs = true) (v : Bool) (hv : xs.any (inR n) = v) :
    Calls Try.prog 4 #[.slice A xs.length c, .int .i64 n, .int .i64 most] w (LawPost w) := by
  have Hr := Lib.hid hr
  have Hk := Lib.hid hk
  have Hv := Lib.hid hv
  have Hlen := Lib.hid (memb_length (most := most) hk)
  obtain ⟨q, Hq⟩ : ∃ q, Hid (cnt xs xs.length = q) := ⟨_, rfl⟩
  obtain ⟨L, HL⟩ : ∃ L, Hid (memb xs most = L) := ⟨_, rfl⟩
  rw [HL.out] at Hlen
  have hL40 : L.length ≤ 2000 := by have h7 := Hlen.out; omega
  clear hr hk hv
  have hmd : decide (2000 < most) = false := by simp; omega
  have hqq : (q != q) = false := by simp
  have hvv : (v != v) = false := by simp
  have hll : ((L.length : Int) != (L.length : Int)) = false := by simp
  go_enter Try.func4, Try.ntmps4
  go_wp2_with (first | (go_at_call 11; refine (many_one_no _ A xs.length c _ (new_cell _ _ _ _ (by simp) 0) h).mono ?_; rintro e w' ⟨rfl, rfl⟩))
  refine (Count_ok _ _ xs _ (Hr.out.alloc _) (by omega) Hk.out).mono ?_
  rw [Hq.out]
  rintro e w1 ⟨rfl, hb1⟩
  have hb01 := ((Below.refl _ w).alloc (Nat.le_refl _) (.cells #[.slice A xs.length c] 22)).trans (hb1.mono (by simp))
  clear hb1
  go_wp2_with fail
  refine (Members_ok _ _ xs most _ (Hr.out.on hb01) (by omega) (by omega) Hk.out).mono ?_
  rw [HL.out]
  rintro e w2 ⟨A2, c2, rfl, hr2, hb2⟩
  have Hr2 := Lib.hid hr2
  have hb02 := hb01.trans (hb2.mono hb01.size)
  clear hb01 hb2 hr2
  go_wp2_with fail
  refine (Has_at _ _ xs n _ (Hr.out.on hb02) (by omega) Hk.out v Hv.out).mono ?_
  rintro e w3 ⟨rfl, hb3⟩
  have hb03 := hb02.trans (hb3.mono hb02.size)
  have hb23 := hb3
  clear hb02 hb3
  go_wp2_with fail
  refine (rCheck_ok _ _ xs _ (Hr.out.on hb03) (by omega) Hk.out).mono ?_
  rintro e w4 ⟨rfl, hb4⟩
  have hb04 := hb03.trans (hb4.mono hb03.size)
  have hb24 := hb23.trans (hb4.mono hb23.size)
  clear hb03 hb4 hb23
  go_wp2_with fail
  refine (rMembers_ok _ _ xs most _ (Hr.out.on hb04) (by omega) (by omega) Hk.out).mono ?_
  rw [HL.out]
  rintro e w5 ⟨A5, c5, rfl, hr5, hb5⟩
  have Hr5 := Lib.hid hr5
  have hb05 := hb04.trans (hb5.mono hb04.size)
  have hb25 := hb24.trans (hb5.mono hb24.size)
  clear hb04 hb5 hb24 hr5
  go_wp2_with fail
  refine (rCount_ok _ _ xs _ (Hr.out.on hb05) (by omega) Hk.out).mono ?_
  rw [Hq.out]
  rintro e w6 ⟨rfl, hb6⟩
  have hb06 := hb05.trans (hb6.mono hb05.size)
  have hb26 := hb25.trans (hb6.mono hb25.size)
  have hb56 := hb6
  clear hb05 hb6 hb25
  go_wp2_with fail
  refine (In_at _ _ xs n _ (Hr.out.on hb06) (by omega) v Hv.out).mono ?_
  rintro e w7 ⟨rfl, hb7⟩
  have hb07 := hb06.trans (hb7.mono hb06.size)
  have hb27 := hb26.trans (hb7.mono hb26.size)
  have hb57 := hb56.trans (hb7.mono hb56.size)
  clear hb06 hb7 hb26 hb56
  have Hm := Lib.hid ((Hr2.out.below hb27).more hb27.size)
  have Hm' := Lib.hid ((Hr5.out.below hb57).more hb57.size)
  go_wp2_with fail
  go_loopw [96] (fun i wr => ∃ k : Nat, k ≤ L.length ∧ i = .int .i64 k ∧ Below w7.heap.size w7 wr) (fun i _ => L.length - (intOf i).toNat)
  case atStart => exact ⟨0, Nat.zero_le _, rfl, Below.refl _ _⟩
  case round =>
    obtain ⟨k, hk, rfl, hb⟩ := hrel
    have hsz := hb.size
    have hb0r := hb07.trans (hb.mono hb07.size)
    by_cases hlt : k < L.length
    · obtain ⟨b, o, rfl, hbB, hc⟩ := Hm.out (by omega)
      obtain ⟨b', o', rfl, hbB', hc'⟩ := Hm'.out (by omega)
      obtain ⟨x, Hx⟩ : ∃ x, Hid (L.getD k 0 = x) := ⟨_, rfl⟩
      have hc0 : wr.cell? ⟨b, o + k, none⟩ = some (.int .i64 x) := by rw [hb.cell (p := ⟨b, o + k, none⟩) hbB, hc k hlt, Hx.out]
      have hc1 : wr.cell? ⟨b', o' + k, none⟩ = some (.int .i64 x) := by rw [hb.cell (p := ⟨b', o' + k, none⟩) hbB', hc' k hlt, Hx.out]
      clear hc hc'
      have hxx : (x != x) = false := by simp
      go_wp2_with fail
      go_quiet (fail)
      go_wp2
      go_roundw
      case rel => exact ⟨k + 1, by omega, by go_num, bdrewN hb _⟩
      case measure => simp [intOf]; omega
    · obtain rfl : k = L.length := by omega
      go_wp2_with (go_at_call 12; refine (awake_any _).mono ?_; rintro e w8 ⟨rfl, hb8⟩)
      go_ret
      exact ⟨rfl, hb0r.trans (hb8.mono hb0r.size)⟩

theorem law4 (A : Option Addr) (len c : Nat) (xs : RL) (hx : xs.length = len) (n most : Int) (w : World) (hr : RdR w w.heap.size A xs) :
    Calls Try.prog 4 #[.slice A len c, .int .i64 n, .int .i64 most] w (LawPost w) := by
  subst hx
  by_cases h : 40 < xs.length
  · exact law4_many A xs.length c n most w h
  · by_cases hm : 2000 < most
    · exact law4_most A xs.length c n most w h hm
    · cases hk : checkB xs with
      | false => exact law4_bad A xs c n most w hr h hm hk
      | true => exact law4_ok A xs c n most w hr h hm hk _ rfl
end Go.Proofs.Ytahlccihjjhgfaa
