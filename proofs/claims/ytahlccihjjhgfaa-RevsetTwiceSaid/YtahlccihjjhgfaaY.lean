/- The law RevsetTwice. -/
import Derived.Test.YtahlccihjjhgfaaU
import Derived.Test.YtahlccihjjhgfaaPT
namespace Go.Proofs.Ytahlccihjjhgfaa
open Go.RowKit

set_option maxRecDepth 100000 in
set_option maxHeartbeats 1000000 in
theorem law3_many (A : Option Addr) (m c : Nat) (turn cut : Int) (w : World) (h : 40 < m) :
    Calls Try.prog 3 #[.slice A m c, .int .i64 turn, .int .i64 cut] w (LawPost w) := by
  go_enter Try.func3, Try.ntmps3
  go_wp2_with (first | (go_at_call 11; refine (many_one_yes _ A m c _ (new_cell _ _ _ _ (by simp) 0) h).mono ?_; rintro e w' ⟨rfl, rfl⟩) | (go_at_call 12; refine (awake_any _).mono ?_; rintro e w1 ⟨rfl, hb1⟩))
  go_ret
  exact ⟨rfl, ((Below.refl _ w).alloc (Nat.le_refl _) _).trans (hb1.mono (by simp))⟩

set_option maxRecDepth 100000 in
set_option maxHeartbeats 1000000 in
theorem law3_early (A : Option Addr) (m c : Nat) (turn cut : Int) (w : World) (h : ¬ 40 < m) (he : m = 0 ∨ turn < 0 ∨ cut < 1) :
    Calls Try.prog 3 #[.slice A m c, .int .i64 turn, .int .i64 cut] w (LawPost w) := by
  by_cases hm : m = 0
  · have hz : ((m : Int) == 0) = true := by simp [hm]
    clear hm he
    go_enter Try.func3, Try.ntmps3
    go_wp2_with (first | (go_at_call 11; refine (many_one_no _ A m c _ (new_cell _ _ _ _ (by simp) 0) h).mono ?_; rintro e w' ⟨rfl, rfl⟩) | (go_at_call 12; refine (awake_any _).mono ?_; rintro e w1 ⟨rfl, hb1⟩))
    go_ret
    exact ⟨rfl, ((Below.refl _ w).alloc (Nat.le_refl _) _).trans (hb1.mono (by simp))⟩
  · have hz : ((m : Int) == 0) = false := by simp [hm]
    by_cases ht : turn < 0
    · clear hm he
      go_enter Try.func3, Try.ntmps3
      go_wp2_with (first | (go_at_call 11; refine (many_one_no _ A m c _ (new_cell _ _ _ _ (by simp) 0) h).mono ?_; rintro e w' ⟨rfl, rfl⟩) | (go_at_call 12; refine (awake_any _).mono ?_; rintro e w1 ⟨rfl, hb1⟩))
      go_ret
      exact ⟨rfl, ((Below.refl _ w).alloc (Nat.le_refl _) _).trans (hb1.mono (by simp))⟩
    · have hc : cut < 1 := by omega
      clear hm he
      go_enter Try.func3, Try.ntmps3
      go_wp2_with (first | (go_at_call 11; refine (many_one_no _ A m c _ (new_cell _ _ _ _ (by simp) 0) h).mono ?_; rintro e w' ⟨rfl, rfl⟩) | (go_at_call 12; refine (awake_any _).mono ?_; rintro e w1 ⟨rfl, hb1⟩))
      go_ret
      exact ⟨rfl, ((Below.refl _ w).alloc (Nat.le_refl _) _).trans (hb1.mono (by simp))⟩

set_option maxRecDepth 100000 in
set_option maxHeartbeats 1000000 in
theorem law3_bad (A : Option Addr) (xs : RL) (c : Nat) (turn cut : Int) (w : World) (hr : RdR w w.heap.size A xs) (h : ¬ 40 < xs.length) (h0 : 0 < xs.length) (ht : 0 ≤ turn) (hc : 1 ≤ cut) (hk : allSound xs = false) :
    Calls Try.prog 3 #[.slice A xs.length c, .int .i64 turn, .int .i64 cut] w (LawPost w) := by
  have Hr := Lib.hid hr
  have Hk := Lib.hid hk
  have hz : ((xs.length : Int) == 0) = false := by rw [beq_eq_false_iff_ne]; omega
  have ht' : decide (turn < 0) = false := by simp; omega
  have hc' : decide (cut < 1) = false := by simp; omega
  clear hr hk
  go_enter Try.func3, Try.ntmps3
  go_wp2_with fail
  refine (many_one_no _ A xs.length c _ (new_cell _ _ _ _ (by simp) 0) h).mono ?_
  rintro e w' ⟨rfl, rfl⟩
  go_wp2_with fail
  refine (Normalize_bad _ _ xs _ (Hr.out.alloc _) (by omega) Hk.out).mono ?_
  rintro e w1 ⟨rfl, hb1⟩
  have hb01 := ((Below.refl _ w).alloc (Nat.le_refl _) (.cells #[.slice A xs.length c] 22)).trans (hb1.mono (by simp))
  clear hb1
  go_wp2_with fail
  refine (awake_any _).mono ?_
  rintro e w2 ⟨rfl, hb2⟩
  go_wp2_with fail
  go_ret
  exact ⟨rfl, hb01.trans (hb2.mono hb01.size)⟩

theorem four_new (W : World) (x y z u : Value) (t : TypeId) (H : Nat) (hH : W.heap.size = H) : ∀ j v, [x, y, z, u][j]? = some v → (W.alloc (.cells #[x, y, z, u] t)).cell? ((⟨H, 0, none⟩ : Addr).add j) = some v := by
  subst hH
  intro j v hv
  have hc := fun i => (IsB.new W t #[x, y, z, u]).cell i
  match j, hv with
  | 0, hv => simp at hv; subst hv; simp [Addr.add, hc]
  | 1, hv => simp at hv; subst hv; simp [Addr.add, hc]
  | 2, hv => simp at hv; subst hv; simp [Addr.add, hc]
  | 3, hv => simp at hv; subst hv; simp [Addr.add, hc]
  | j + 4, hv => simp at hv
theorem four_one (x y z u : Int) : ∀ v ∈ [Value.int .i64 x, Value.int .i64 y, Value.int .i64 z, Value.int .i64 u], v.oneCell' = true := by
  intro v hv
  simp at hv
  rcases hv with rfl | rfl | rfl | rfl <;> rfl

set_option maxRecDepth 100000 in
set_option maxHeartbeats 4000000 in
theorem law3_ok (A : Option Addr) (xs : RL) (c : Nat) (turn cut : Int) (w : World) (hr : RdR w w.heap.size A xs) (h : ¬ 40 < xs.length) (h0 : 0 < xs.length) (ht : 0 ≤ turn) (hc : 1 ≤ cut) (hk : allSound xs = true) :
    Calls Try.prog 3 #[.slice A xs.length c, .int .i64 turn, .int .i64 cut] w (LawPost w) := by
  obtain ⟨i0, hi, hz0, hz1, hz2⟩ := info_parts info29
  have Hr := Lib.hid hr
  have Hk := Lib.hid hk
  have Ht := Lib.hid (turned_norm (turn := turn) (cut := cut) h0 hk)
  have Hn := Lib.hid (norm_norm hk)
  have hz : ((xs.length : Int) == 0) = false := by rw [beq_eq_false_iff_ne]; omega
  have ht' : decide (turn < 0) = false := by simp; omega
  have hc' : decide (cut < 1) = false := by simp; omega
  obtain ⟨S, HS⟩ : ∃ S, Hid (normR xs = S) := ⟨_, rfl⟩
  rw [HS.out] at Ht Hn
  have hS1 := canon_len (canon_iff.1 Hn.out.2.2)
  have Hpl := Lib.hid (fun k => placeOf_eq h0 turn k)
  have Hpt := Lib.hid (fun k => placeOf_lt h0 turn k)
  have hq0 := Int.emod_nonneg turn (show (xs.length : Int) ≠ 0 by omega)
  have hq1 := Int.emod_lt_of_pos turn (show (0 : Int) < (xs.length : Int) by omega)
  obtain ⟨q, hq⟩ : ∃ q, turn % (xs.length : Int) = q := ⟨_, rfl⟩
  rw [hq] at hq0 hq1 Hpl
  clear hr hk
  go_enter Try.func3, Try.ntmps3
  go_wp2_with fail
  refine (many_one_no _ A xs.length c _ (new_cell _ _ _ _ (by simp) 0) h).mono ?_
  rintro e w' ⟨rfl, rfl⟩
  go_wp2_with fail
  refine (Normalize_ok _ _ xs _ (Hr.out.alloc _) (by omega) Hk.out).mono ?_
  rw [HS.out]
  rintro e w1 ⟨A1, c1, rfl, hr1, hb1⟩
  have hb01 := ((Below.refl _ w).alloc (Nat.le_refl _) (.cells #[.slice A xs.length c] 22)).trans (hb1.mono (by simp))
  replace Hr := Lib.hid (Hr.out.on hb01)
  have Hr1 := Lib.hid hr1
  clear hb1 hr1
  go_wp2_with fail
  go_loopw [9, 47] (fun v i wr => ∃ (k : Nat) (A3 : Option Addr) (n3 c3 : Nat), k ≤ xs.length ∧ i = .int .i64 k ∧ v = .slice A3 n3 c3 ∧ wr.ownsRow w1.heap.size 29 2 (.slice A3 n3 c3) n3 (flatR (turned xs turn cut k)) ∧ Below w1.heap.size w1 wr) (fun _ i _ => xs.length - (intOf i).toNat)
  case atStart => exact ⟨0, none, 0, 0, Nat.zero_le _, rfl, rfl, World.ownsRow_nil _ _ _ _, Below.refl _ _⟩
  case round =>
    obtain ⟨k, A3, n3, c3, hk, rfl, rfl, hown3, hb3⟩ := hrel
    obtain ⟨M, HM⟩ : ∃ M, Hid (turned xs turn cut k = M) := ⟨_, rfl⟩
    have hMl := turned_len xs turn cut k
    rw [HM.out] at hown3 hMl
    have hn3 : n3 = M.length := (RdR.of_own hown3).1
    subst hn3
    have hlt3 := hown3.lt
    have Hlt3 := Lib.hid hlt3
    have Hown3 := Lib.hid hown3
    clear hown3 hlt3
    have hsz3 := hb3.size
    by_cases hlt : k < xs.length
    · obtain ⟨b, o, rfl, hbB, hcl⟩ := Hr.out (by omega)
      have hpj := Hpl.out k
      have hpt := Hpt.out k
      have HN : Hid (turned xs turn cut (k + 1) = M ++ piece cut (xs.getD (placeOf xs.length turn k) (0, 0))) := by
        show turned xs turn cut (k + 1) = _
        rw [turned, HM.out]
      obtain ⟨j, Hj⟩ : ∃ j, Hid (placeOf xs.length turn k = j) := ⟨_, rfl⟩
      rw [Hj.out] at hpj hpt HN
      obtain ⟨a1, a2, HA⟩ : ∃ a1 a2, Hid (xs.getD j (0, 0) = (a1, a2)) := ⟨_, _, rfl⟩
      rw [HA.out] at HN
      have Hs := soundB_iff.1 (allSound_at Hk.out hpt)
      rw [HA.out] at Hs
      obtain ⟨g1, g2, g3⟩ := Hs
      simp only at g1 g2 g3
      have hc0 : wr.cell? ⟨b, o + j * 2, none⟩ = some (.int .i64 a1) := by rw [hb3.cell (p := ⟨b, o + j * 2, none⟩) hbB, (hcl j hpt).1, HA.out]
      have hc1 : wr.cell? ⟨b, o + j * 2 + 1, none⟩ = some (.int .i64 a2) := by rw [hb3.cell (p := ⟨b, o + j * 2 + 1, none⟩) hbB, (hcl j hpt).2, HA.out]
      clear hcl
      by_cases hcut : a1 < cut ∧ cut ≤ a2
      · obtain ⟨hcu1, hcu2⟩ := hcut
        have HP : Hid (piece cut (a1, a2) = [(cut, a2), (a1, cut - 1)] ++ [(a1, a2)]) := by
          show piece cut (a1, a2) = _
          unfold piece
          rw [if_pos ⟨hcu1, hcu2⟩]
        go_wp2_with (at_builtin; refine wpList_append_lies _ rfl _ _ _ rfl w1.heap.size 29 i0 _ 2 16 Try.underlying22 hi hz0 hz1 hz2 rfl (by decide) _ M.length _ rfl (Hown3.out.alloc _ |>.alloc _) ⟨wr.heap.size + 1, 0, none⟩ 2 2 [.int .i64 cut, .int .i64 a2, .int .i64 a1, .int .i64 (cut - 1)] rfl rfl ?c1 ?c2 ?c3 ?c4 ?c5 ?c6 _ rfl ?_)
        case c1 => exact four_new _ _ _ _ _ _ _ (by simp)
        case c2 => exact four_one _ _ _ _
        case c3 => omega
        case c4 => unfold maxLen; omega
        case c5 => omega
        case c6 => simp; omega
        intro g cap w3 hown4 hgrow hat hltg
        have hne : some wr.heap.size ≠ (Value.slice A3 M.length c3).ownBlock := fun e => by have := (Hlt3.out _ e.symm).2; omega
        have hbox := (((IsB.new wr 29 #[.int .i64 a1, .int .i64 a2]).alloc (.cells #[.int .i64 cut, .int .i64 a2, .int .i64 a1, .int .i64 (cut - 1)] 29))).grown hgrow hne
        have hx0 : w3.cell? ⟨wr.heap.size, 0, none⟩ = some (.int .i64 a1) := by rw [hbox.cell]; rfl
        have hx1 : w3.cell? ⟨wr.heap.size, 1, none⟩ = some (.int .i64 a2) := by rw [hbox.cell]; rfl
        have hb13 : Below w1.heap.size w1 w3 := ((hb3.alloc hb3.size _).alloc (by simp; omega) _).grown hgrow (by simp; omega) (fun k hk => (Hlt3.out k hk).1)
        have hs13 := hb13.size
        have Hown4 := Lib.hid hown4
        clear hown4 hgrow hat hne hbox
        go_wp2_with (at_builtin; refine wpList_append_lies _ rfl _ _ _ rfl w1.heap.size 29 i0 _ 2 16 Try.underlying22 hi hz0 hz1 hz2 rfl (by decide) _ (M.length + 2) _ rfl (Hown4.out.alloc _) ⟨w3.heap.size, 0, none⟩ 1 1 [.int .i64 a1, .int .i64 a2] rfl rfl ?d1 ?d2 ?d3 ?d4 ?d5 ?d6 _ rfl ?_)
        case d1 => exact two_new _ _ _ _ _ rfl
        case d2 => exact two_one _ _
        case d3 => omega
        case d4 => unfold maxLen; omega
        case d5 => omega
        case d6 => simp; omega
        intro g' cap' w4 hown5 hgrow2 hat2 hltg2
        have hb14 : Below w1.heap.size w1 w4 := (hb13.alloc hb13.size _).grown hgrow2 (by simp; omega) (fun k hk => (Hown4.out.lt k hk).1)
        have Hown5 := Lib.hid hown5
        clear hown5 hgrow2 hat2
        go_wp2_with fail
        go_roundw
        case rel =>
          refine ⟨k + 1, some ⟨g', 0, none⟩, M.length + 2 + 1, cap', by omega, by go_num, rfl, ?_, hb14⟩
          rw [HN.out, HP.out, flatR_append, flatR_append]
          exact Hown5.out
        case measure => simp [intOf]; omega
      · have HP : Hid (piece cut (a1, a2) = [(a1, a2)]) := by
          show piece cut (a1, a2) = _
          unfold piece
          rw [if_neg hcut]
          rfl
        have hd : (a1 < cut ∧ ¬ cut ≤ a2) ∨ ¬ a1 < cut := by
          by_cases h1 : a1 < cut
          · exact .inl ⟨h1, fun h2 => hcut ⟨h1, h2⟩⟩
          · exact .inr h1
        clear hcut
        rcases hd with ⟨hd1, hd2⟩ | hd1
        all_goals
          go_wp2_with (at_builtin; refine wpList_append_lies _ rfl _ _ _ rfl w1.heap.size 29 i0 _ 2 16 Try.underlying22 hi hz0 hz1 hz2 rfl (by decide) _ M.length _ rfl (Hown3.out.alloc _ |>.alloc _) ⟨wr.heap.size + 1, 0, none⟩ 1 1 [.int .i64 a1, .int .i64 a2] rfl rfl (two_new _ _ _ _ _ (by simp)) (two_one _ _) (by omega) (by unfold maxLen; omega) (by omega) (by simp; omega) _ rfl ?_)
          intro g' cap' w4 hown5 hgrow2 hat2 hltg2
          have hb14 : Below w1.heap.size w1 w4 := ((hb3.alloc hb3.size _).alloc (by simp; omega) _).grown hgrow2 (by simp; omega) (fun k hk => (Hlt3.out k hk).1)
          have Hown5 := Lib.hid hown5
          clear hown5 hgrow2 hat2
          go_wp2_with fail
          go_roundw
          case rel =>
            refine ⟨k + 1, some ⟨g', 0, none⟩, M.length + 1, cap', by omega, by go_num, rfl, ?_, hb14⟩
            rw [HN.out, HP.out, flatR_append]
            exact Hown5.out
          case measure => simp [intOf]; omega
    · obtain rfl : k = xs.length := by omega
      rw [HM.out] at Ht
      have hb0r := hb01.trans (hb3.mono hb01.size)
      replace Hr1 := Lib.hid (Hr1.out.on hb3)
      have Hrm := Lib.hid (RdR.of_own Hown3.out).2
      have hc3 := own_cap Hown3.out
      go_wp2_with fail
      refine (Normalize_ok _ _ M _ Hrm.out (by omega) Ht.out.1).mono ?_
      rw [Ht.out.2]
      rintro e w5 ⟨A5, c5, rfl, hr5, hb5⟩
      replace hb0r := hb0r.trans (hb5.mono hb0r.size)
      replace Hr1 := Lib.hid (Hr1.out.on hb5)
      have Hr5 := Lib.hid hr5
      clear hb5 hr5
      go_wp2_with fail
      refine (Normalize_ok _ _ S _ Hr1.out (by omega) Hn.out.1).mono ?_
      rw [Hn.out.2.1]
      rintro e w6 ⟨A6, c6, rfl, hr6, hb6⟩
      replace hb0r := hb0r.trans (hb6.mono hb0r.size)
      replace Hr1 := Lib.hid (Hr1.out.on hb6)
      replace Hr5 := Lib.hid (Hr5.out.on hb6)
      have Hr6 := Lib.hid hr6
      clear hb6 hr6
      go_wp2_with fail
      refine (same_yes _ _ _ _ S S _ Hr1.out Hr5.out (by omega) (by omega) rfl).mono ?_
      rintro e w7 ⟨rfl, hb7⟩
      replace hb0r := hb0r.trans (hb7.mono hb0r.size)
      replace Hr1 := Lib.hid (Hr1.out.on hb7)
      replace Hr6 := Lib.hid (Hr6.out.on hb7)
      clear hb7
      go_wp2_with fail
      refine (same_yes _ _ _ _ S S _ Hr1.out Hr6.out (by omega) (by omega) rfl).mono ?_
      rintro e w8 ⟨rfl, hb8⟩
      replace hb0r := hb0r.trans (hb8.mono hb0r.size)
      replace Hr1 := Lib.hid (Hr1.out.on hb8)
      clear hb8
      go_wp2_with fail
      refine (Check_ok _ _ S _ Hr1.out (by omega) Hn.out.2.2).mono ?_
      rintro e w9 ⟨rfl, hb9⟩
      replace hb0r := hb0r.trans (hb9.mono hb0r.size)
      clear hb9
      go_wp2_with fail
      refine (awake_any _).mono ?_
      rintro e w10 ⟨rfl, hb10⟩
      replace hb0r := hb0r.trans (hb10.mono hb0r.size)
      go_wp2_with fail
      go_ret
      exact ⟨rfl, hb0r⟩

theorem law3 (A : Option Addr) (len c : Nat) (xs : RL) (hx : xs.length = len) (turn cut : Int) (w : World) (hr : RdR w w.heap.size A xs) :
    Calls Try.prog 3 #[.slice A len c, .int .i64 turn, .int .i64 cut] w (LawPost w) := by
  subst hx
  by_cases h : 40 < xs.length
  · exact law3_many A xs.length c turn cut w h
  · by_cases he : xs.length = 0 ∨ turn < 0 ∨ cut < 1
    · exact law3_early A xs.length c turn cut w h he
    · cases hk : allSound xs with
      | false => exact law3_bad A xs c turn cut w hr h (by omega) (by omega) (by omega) hk
      | true => exact law3_ok A xs c turn cut w hr h (by omega) (by omega) (by omega) hk
end Go.Proofs.Ytahlccihjjhgfaa
