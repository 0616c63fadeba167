/- Contracts: the reference's Sound, Check, Count, Members, In. -/
import Derived.Test.YtahlccihjjhgfaaD
import Derived.Test.YtahlccihjjhgfaaF
namespace Go.Proofs.Ytahlccihjjhgfaa
open Go.RowKit
attribute [local go_sem] wext_cell

set_option maxHeartbeats 400000 in
theorem rsound_any (a b : Int) (w : World) :
    Calls Try.prog 40 #[.agg #[.int .i64 a, .int .i64 b]] w fun e w' => e = .returned (.bool (soundB a b)) ∧ w.alloc (.cells #[.int .i64 a, .int .i64 b] 29) = w' := by
  by_cases h1 : 1 ≤ a
  · by_cases h2 : a ≤ b
    · by_cases h3 : b ≤ 1073741824
      · have hs : soundB a b = true := by simp [soundB, h1, h2, h3]
        have Hs := Lib.hid hs
        clear hs
        go_enter Try.func40, Try.ntmps40
        go_wp2
        go_ret
        rw [Hs.out]
        exact ⟨rfl, rfl⟩
      · have hs : soundB a b = false := by simp [soundB, h3]
        have Hs := Lib.hid hs
        clear hs
        go_enter Try.func40, Try.ntmps40
        go_wp2
        go_ret
        rw [Hs.out]
        exact ⟨rfl, rfl⟩
    · have hs : soundB a b = false := by simp [soundB, h2]
      have Hs := Lib.hid hs
      clear hs
      go_enter Try.func40, Try.ntmps40
      go_wp2
      go_ret
      rw [Hs.out]
      exact ⟨rfl, rfl⟩
  · have hs : soundB a b = false := by simp [soundB, h1]
    have Hs := Lib.hid hs
    clear hs
    go_enter Try.func40, Try.ntmps40
    go_wp2
    go_ret
    rw [Hs.out]
    exact ⟨rfl, rfl⟩

theorem rsound_no (a b : Int) (w : World) (h : soundB a b = false) :
    Calls Try.prog 40 #[.agg #[.int .i64 a, .int .i64 b]] w fun e w' => e = .returned (.bool false) ∧ w.alloc (.cells #[.int .i64 a, .int .i64 b] 29) = w' := by
  rw [← h]; exact rsound_any a b w

theorem rsound_yes (a b : Int) (w : World) (h : soundB a b = true) :
    Calls Try.prog 40 #[.agg #[.int .i64 a, .int .i64 b]] w fun e w' => e = .returned (.bool true) ∧ w.alloc (.cells #[.int .i64 a, .int .i64 b] 29) = w' := by
  rw [← h]; exact rsound_any a b w

theorem rsound_no' (a b : Int) (w : World) (h : soundB a b = false) :
    Calls Try.prog 40 #[.agg #[.int .i64 a, .int .i64 b]] w fun e w' => e = .returned (.bool false) ∧ Below w.heap.size w w' :=
  (rsound_no a b w h).mono fun _ _ ⟨he, hw⟩ => ⟨he, hw ▸ (Below.refl _ _).alloc (Nat.le_refl _) _⟩

theorem rsound_yes' (a b : Int) (w : World) (h : soundB a b = true) :
    Calls Try.prog 40 #[.agg #[.int .i64 a, .int .i64 b]] w fun e w' => e = .returned (.bool true) ∧ Below w.heap.size w w' :=
  (rsound_yes a b w h).mono fun _ _ ⟨he, hw⟩ => ⟨he, hw ▸ (Below.refl _ _).alloc (Nat.le_refl _) _⟩

set_option maxHeartbeats 1000000 in
theorem rCheck_any (A : Option Addr) (c : Nat) (xs : RL) (w : World) (hr : RdR w w.heap.size A xs) (hn : xs.length ≤ 4294967296) :
    Calls Try.prog 19 #[.slice A xs.length c] w fun e w' => e = .returned (.int .i64 (chkE xs)) ∧ Below w.heap.size w w' := by
  have Hr := Lib.hid hr
  clear hr
  go_enter Try.func19, Try.ntmps19
  go_wp2
  go_loopw [7] (fun i wr => ∃ k : Nat, k ≤ xs.length ∧ i = .int .i64 k ∧ Hid ((List.range k).all (okAt xs) = true) ∧ Below w.heap.size w wr) (fun i _ => xs.length - (intOf i).toNat)
  case atStart => exact ⟨0, Nat.zero_le _, rfl, rfl, Below.refl _ _⟩
  case round =>
    obtain ⟨k, hk, rfl, HK, hb⟩ := hrel
    by_cases hlt : k < xs.length
    · obtain ⟨b, o, rfl, hbB, hc⟩ := Hr.out (by omega)
      have hsz := hb.size
      obtain ⟨a1, a2, HA⟩ : ∃ a1 a2, Hid (xs.getD k (0, 0) = (a1, a2)) := ⟨_, _, rfl⟩
      have hc0 : wr.cell? ⟨b, o + k * 2, none⟩ = some (.int .i64 a1) := by rw [hb.cell (p := ⟨b, o + k * 2, none⟩) hbB, (hc k hlt).1, HA.out]
      have hc1 : wr.cell? ⟨b, o + k * 2 + 1, none⟩ = some (.int .i64 a2) := by rw [hb.cell (p := ⟨b, o + k * 2 + 1, none⟩) hbB, (hc k hlt).2, HA.out]
      have hbne : b < wr.heap.size := by omega
      have HC := Lib.hid hc
      clear hc
      have fin : ∀ w2, Below (wr.heap.size + 1) (wr.alloc (.cells #[.int .i64 a1, .int .i64 a2] 29)) w2 → Below w.heap.size w w2 := fun w2 h2 =>
        (hb.alloc hb.size _).trans (h2.mono (by omega))
      have Fin := Lib.hid fin
      clear fin
      cases hs : soundB a1 a2 with
      | false =>
        have Hs := Lib.hid hs
        clear hs
        go_wp2_with fail
        refine wp_region_ext (by kernel_rfl) (by kernel_rfl) ?_
        repeat (go_big_quiet_step ((go_at_call 40; exact ext_call (rsound_no' a1 a2 _ Hs.out))))
        refine wpQuiet_nil ?_
        intro w2 hb2
        go_wp2
        go_ret
        rw [chk_bad hlt (okAt_bad HA.out Hs.out)]
        exact ⟨rfl, Fin.out w2 (by simpa using hb2)⟩
      | true =>
        have hsd := soundB_iff.1 hs
        have Hs := Lib.hid hs
        clear hs
        obtain ⟨h1, h2, h3⟩ := hsd
        by_cases hk0 : k = 0
        · have hkd : decide (0 < k) = false := by simp [hk0]
          have Hk0 := Lib.hid hk0
          clear hk0
          go_wp2_with fail
          refine wp_region_ext (by kernel_rfl) (by kernel_rfl) ?_
          repeat (go_big_quiet_step ((go_at_call 40; exact ext_call (rsound_yes' a1 a2 _ Hs.out))))
          refine wpQuiet_nil ?_
          intro w2 hb2
          go_wp2
          go_roundw
          case rel => exact ⟨k + 1, by omega, by go_num, all_snoc HK.out (okAt_zero HA.out Hs.out Hk0.out), Fin.out w2 (by simpa using hb2)⟩
          case measure => simp [intOf]; omega
        · obtain ⟨p1, p2, HP⟩ : ∃ p1 p2, Hid (xs.getD (k - 1) (0, 0) = (p1, p2)) := ⟨_, _, rfl⟩
          have hp := okAt_sound (all_at HK.out (show k - 1 < k by omega))
          rw [HP.out] at hp
          obtain ⟨h4, h5, h6⟩ := hp
          have hcp : wr.cell? ⟨b, o + (k - 1) * 2 + 1, none⟩ = some (.int .i64 p2) := by rw [hb.cell (p := ⟨b, o + (k - 1) * 2 + 1, none⟩) hbB, (HC.out (k - 1) (by omega)).2, HP.out]
          have hkd : decide (0 < k) = true := by simp; omega
          have hbn : b < wr.heap.size + 1 := by omega
          by_cases hg : a1 < p2 + 2
          · go_wp2_with fail
            refine wp_region_ext (by kernel_rfl) (by kernel_rfl) ?_
            repeat (go_big_quiet_step ((go_at_call 40; exact ext_call (rsound_yes' a1 a2 _ Hs.out))))
            refine wpQuiet_nil ?_
            intro w2 hb2
            go_wp2
            go_ret
            rw [chk_bad hlt (okAt_near HA.out HP.out (by omega) (by omega))]
            exact ⟨rfl, Fin.out w2 (by simpa using hb2)⟩
          · go_wp2_with fail
            refine wp_region_ext (by kernel_rfl) (by kernel_rfl) ?_
            repeat (go_big_quiet_step ((go_at_call 40; exact ext_call (rsound_yes' a1 a2 _ Hs.out))))
            refine wpQuiet_nil ?_
            intro w2 hb2
            go_wp2
            go_roundw
            case rel => exact ⟨k + 1, by omega, by go_num, all_snoc HK.out (okAt_far HA.out HP.out Hs.out (by omega)), Fin.out w2 (by simpa using hb2)⟩
            case measure => simp [intOf]; omega
    · obtain rfl : k = xs.length := by omega
      go_wp2
      go_ret
      rw [chk_good HK.out]
      exact ⟨rfl, hb⟩

set_option maxHeartbeats 1000000 in
theorem rCount_ok (A : Option Addr) (c : Nat) (xs : RL) (w : World) (hr : RdR w w.heap.size A xs) (hn : xs.length ≤ 4294967296) (h : checkB xs = true) :
    Calls Try.prog 21 #[.slice A xs.length c] w fun e w' => e = .returned (.int .i64 (cnt xs xs.length)) ∧ Below w.heap.size w w' := by
  have Hr := Lib.hid hr
  have H := Lib.hid h
  clear hr h
  go_enter Try.func21, Try.ntmps21
  go_wp2
  go_loopw [3, 8] (fun n i wr => ∃ k : Nat, k ≤ xs.length ∧ i = .int .i64 k ∧ n = .int .i64 (cnt xs k) ∧ Below w.heap.size w wr) (fun _ i _ => xs.length - (intOf i).toNat)
  case atStart => exact ⟨0, Nat.zero_le _, rfl, rfl, Below.refl _ _⟩
  case round =>
    obtain ⟨k, hk, rfl, rfl, hb⟩ := hrel
    by_cases hlt : k < xs.length
    · obtain ⟨b, o, rfl, hbB, hc⟩ := Hr.out (by omega)
      have hsz := hb.size
      have hbd := cnt_bd H.out k hk
      have hs := okAt_sound (checkB_at H.out hlt)
      have HN : Hid (cnt xs (k + 1) = cnt xs k + ((xs.getD k (0, 0)).2 - (xs.getD k (0, 0)).1 + 1)) := rfl
      obtain ⟨a1, a2, HA⟩ : ∃ a1 a2, Hid (xs.getD k (0, 0) = (a1, a2)) := ⟨_, _, rfl⟩
      rw [HA.out] at hs HN
      obtain ⟨h1, h2, h3⟩ := hs
      have hc0 : wr.cell? ⟨b, o + k * 2, none⟩ = some (.int .i64 a1) := by rw [hb.cell (p := ⟨b, o + k * 2, none⟩) hbB, (hc k hlt).1, HA.out]
      have hc1 : wr.cell? ⟨b, o + k * 2 + 1, none⟩ = some (.int .i64 a2) := by rw [hb.cell (p := ⟨b, o + k * 2 + 1, none⟩) hbB, (hc k hlt).2, HA.out]
      clear hc
      go_wp2
      go_roundw
      case rel => exact ⟨k + 1, by omega, by go_num, by rw [HN.out], hb.alloc hb.size _⟩
      case measure => simp [intOf]; omega
    · obtain rfl : k = xs.length := by omega
      go_wp2
      go_ret
      exact ⟨rfl, hb⟩

def rMembPost (zs : List Int) (w : World) (e : Ending) (w' : World) : Prop :=
  ∃ A c, e = .returned (.slice A zs.length c) ∧ RdI w' w'.heap.size A zs ∧ Below w.heap.size w w'

set_option maxHeartbeats 2000000 in
theorem rMembers_ok (A : Option Addr) (c : Nat) (xs : RL) (most : Int) (w : World) (hr : RdR w w.heap.size A xs) (hn : xs.length ≤ 4294967296) (hmost : most ≤ 2000) (h : checkB xs = true) :
    Calls Try.prog 20 #[.slice A xs.length c, .int .i64 most] w (rMembPost (memb xs most) w) := by
  have Hr := Lib.hid hr
  have H := Lib.hid h
  clear hr h
  obtain ⟨i0, hi, hz0, hz1, hz2⟩ := info_parts info3
  go_enter Try.func20, Try.ntmps20
  go_wp2
  go_loopw [5, 11] (fun v i wr => ∃ (k : Nat) (A' : Option Addr) (n c' : Nat), k ≤ xs.length ∧ i = .int .i64 k ∧ v = .slice A' n c' ∧ wr.ownsRow w.heap.size 3 1 (.slice A' n c') n (((allM xs k).take most.toNat).map (Value.int .i64)) ∧ Below w.heap.size w wr) (fun _ i _ => xs.length - (intOf i).toNat)
  case atStart => exact ⟨0, none, 0, 0, Nat.zero_le _, rfl, rfl, by simpa [allM] using World.ownsRow_nil _ _ _ _, Below.refl _ _⟩
  case round =>
    obtain ⟨wo, rfl⟩ : ∃ wo : World, wo = wr := ⟨_, rfl⟩
    obtain ⟨k, A', n, c', hk, rfl, rfl, hown, hb⟩ := hrel
    by_cases hlt : k < xs.length
    · obtain ⟨b, o, rfl, hbB, hc⟩ := Hr.out (by omega)
      have hsz := hb.size
      have hs := okAt_sound (checkB_at H.out hlt)
      have HN : Hid (allM xs (k + 1) = allM xs k ++ ints (xs.getD k (0, 0)).1 ((xs.getD k (0, 0)).2 + 1 - (xs.getD k (0, 0)).1).toNat) := rfl
      obtain ⟨a1, a2, HA⟩ : ∃ a1 a2, Hid (xs.getD k (0, 0) = (a1, a2)) := ⟨_, _, rfl⟩
      rw [HA.out] at hs HN
      obtain ⟨h1, h2, h3⟩ := hs
      have hc0 : wo.cell? ⟨b, o + k * 2, none⟩ = some (.int .i64 a1) := by rw [hb.cell (p := ⟨b, o + k * 2, none⟩) hbB, (hc k hlt).1, HA.out]
      have hc1 : wo.cell? ⟨b, o + k * 2 + 1, none⟩ = some (.int .i64 a2) := by rw [hb.cell (p := ⟨b, o + k * 2 + 1, none⟩) hbB, (hc k hlt).2, HA.out]
      clear hc
      have Hown := Lib.hid hown
      clear hown
      go_wp2_with fail
      go_loopw [5, 8] (fun v x wr => ∃ (j : Nat) (A' : Option Addr) (n c' : Nat), a1 + j ≤ a2 + 1 ∧ x = .int .i64 (a1 + j) ∧ v = .slice A' n c' ∧ wr.ownsRow w.heap.size 3 1 (.slice A' n c') n (((allM xs k ++ ints a1 j).take most.toNat).map (Value.int .i64)) ∧ IsB wr wo.heap.size 29 #[.int .i64 a1, .int .i64 a2] ∧ Below w.heap.size w wr) (fun _ x _ => (a2 + 1 - intOf x).toNat)
      case atStart => exact ⟨0, A', n, c', by omega, by simp, rfl, by simpa [ints] using Hown.out.alloc _, IsB.new _ _ _, hb.alloc hb.size _⟩
      case round =>
        obtain ⟨j, B', m, d', hj, rfl, rfl, hown, hbox, hb2⟩ := hrel
        have hsz2 := hb2.size
        have hcb1 : wr.cell? ⟨wo.heap.size, 1, none⟩ = some (.int .i64 a2) := by simpa using hbox.cell 1
        obtain ⟨L, HL⟩ : ∃ L, Hid ((allM xs k ++ ints a1 j).take most.toNat = L) := ⟨_, rfl⟩
        rw [HL.out] at hown
        have hml : L.length = m := by have := hown.1; simpa using this
        have hm2 : m ≤ most.toNat := by rw [← hml, ← HL.out, List.length_take]; omega
        have Hml := Lib.hid hml
        have Hown2 := Lib.hid hown
        have Hbox := Lib.hid hbox
        clear hml hown hbox
        by_cases hle : a1 + j ≤ a2
        · by_cases hlen : (m : Int) < most
          · go_wp2_with (at_builtin; refine wpList_append_lies _ rfl _ _ _ rfl w.heap.size 3 i0 _ 1 8 Try.underlying35 hi hz0 hz1 hz2 rfl (by decide) _ m _ rfl (Hown2.out.alloc _) ⟨wr.heap.size, 0, none⟩ 1 1 [.int .i64 (a1 + j)] rfl rfl ?c1 ?c2 ?c3 ?c4 ?c5 ?c6 _ rfl ?_)
            case c1 => exact cell_one_new _ _ _
            case c2 => simp [Value.oneCell']
            case c3 => omega
            case c4 => unfold maxLen; omega
            case c5 => omega
            case c6 => simp; omega
            intro g cap w3 hown3 hgrow hat hlt3
            have Hown3 := Lib.hid hown3
            have Hgrow := Lib.hid hgrow
            have Hat := Lib.hid hat
            clear hown3 hgrow hat
            go_wp2
            go_roundw
            case rel =>
              refine ⟨j + 1, some ⟨g, 0, none⟩, m + 1, cap, by omega, by rw [show (a1 + ((j + 1 : Nat) : Int)) = a1 + (j : Int) + 1 by omega], rfl, ?_, ?_, ?_⟩
              · have e : (allM xs k ++ ints a1 (j + 1)).take most.toNat = L ++ [a1 + (j : Int)] := by
                  rw [ints_succ, ← List.append_assoc, take_push (by rw [HL.out, Hml.out]; omega), HL.out]
                rw [e, List.map_append]
                exact Hown3.out
              · exact (Hbox.out.alloc _).grown Hgrow.out (IsB.own_ne Hbox.out Hown2.out (by decide))
              · exact (hb2.alloc hb2.size _).grown Hgrow.out (by simp; omega) (fun q hq => (Hown2.out.lt q hq).1)
            case measure => simp [intOf]; omega
          · go_wp2
            go_roundw
            case rel =>
              refine ⟨k + 1, B', m, d', by omega, by go_num, rfl, ?_, hb2⟩
              rw [HN.out]
              obtain ⟨R, hR⟩ := ints_split a1 j (a2 + 1 - a1).toNat (by omega)
              rw [hR, ← List.append_assoc, take_full (by rw [HL.out, Hml.out]; omega), HL.out]
              exact Hown2.out
            case measure => simp [intOf]; omega
        · go_wp2
          go_roundw
          case rel =>
            refine ⟨k + 1, B', m, d', by omega, by go_num, rfl, ?_, hb2⟩
            obtain rfl : j = (a2 + 1 - a1).toNat := by omega
            rw [HN.out, HL.out]
            exact Hown2.out
          case measure => simp [intOf]; omega
    · obtain rfl : k = xs.length := by omega
      have Hown := Lib.hid hown
      clear hown
      go_wp2
      go_ret
      obtain ⟨hl, hrd⟩ := RdI.of_own Hown.out
      subst hl
      exact ⟨A', c', rfl, hrd, hb⟩

set_option maxHeartbeats 1000000 in
theorem In_any (A : Option Addr) (c : Nat) (xs : RL) (n : Int) (w : World) (hr : RdR w w.heap.size A xs) (hn : xs.length ≤ 4294967296) :
    Calls Try.prog 22 #[.slice A xs.length c, .int .i64 n] w fun e w' => e = .returned (.bool (xs.any (inR n))) ∧ Below w.heap.size w w' := by
  have Hr := Lib.hid hr
  clear hr
  obtain ⟨v, Hv⟩ : ∃ v, Hid (xs.any (inR n) = v) := ⟨_, rfl⟩
  rw [Hv.out]
  go_enter Try.func22, Try.ntmps22
  go_wp2
  go_loopw [9] (fun i wr => ∃ k : Nat, k ≤ xs.length ∧ i = .int .i64 k ∧ Hid ((xs.take k).any (inR n) = false) ∧ Below w.heap.size w wr) (fun i _ => xs.length - (intOf i).toNat)
  case atStart => exact ⟨0, Nat.zero_le _, rfl, by simp [Hid], Below.refl _ _⟩
  case round =>
    obtain ⟨k, hk, rfl, HK, hb⟩ := hrel
    by_cases hlt : k < xs.length
    · obtain ⟨b, o, rfl, hbB, hc⟩ := Hr.out (by omega)
      have hsz := hb.size
      obtain ⟨a1, a2, HA⟩ : ∃ a1 a2, Hid (xs.getD k (0, 0) = (a1, a2)) := ⟨_, _, rfl⟩
      have hc0 : wr.cell? ⟨b, o + k * 2, none⟩ = some (.int .i64 a1) := by rw [hb.cell (p := ⟨b, o + k * 2, none⟩) hbB, (hc k hlt).1, HA.out]
      have hc1 : wr.cell? ⟨b, o + k * 2 + 1, none⟩ = some (.int .i64 a2) := by rw [hb.cell (p := ⟨b, o + k * 2 + 1, none⟩) hbB, (hc k hlt).2, HA.out]
      clear hc
      have HT : Hid ((xs.take (k + 1)).any (inR n) = inR n (a1, a2)) := by
        show (xs.take (k + 1)).any (inR n) = inR n (a1, a2)
        rw [List.take_succ_eq_append_getElem hlt, List.any_append, HK.out, ← HA.out, List.getD_eq_getElem?_getD, List.getElem?_eq_getElem hlt]
        simp
      have HE : Hid (inR n (a1, a2) = true → v = true) := fun h => by
        rw [← Hv.out, List.any_eq_true]
        rw [← HT.out, List.any_eq_true] at h
        obtain ⟨x, hx, hh⟩ := h
        exact ⟨x, List.mem_of_mem_take hx, hh⟩
      by_cases h1 : a1 ≤ n
      · by_cases h2 : n ≤ a2
        · have hv : v = true := HE.out (by simp [inR, h1, h2])
          subst hv
          go_wp2
          go_ret
          exact ⟨rfl, hb.alloc hb.size _⟩
        · go_wp2
          go_roundw
          case rel => exact ⟨k + 1, by omega, by go_num, HT.out.trans (by simp [inR, h2]), hb.alloc hb.size _⟩
          case measure => simp [intOf]; omega
      · go_wp2
        go_roundw
        case rel => exact ⟨k + 1, by omega, by go_num, HT.out.trans (by simp [inR, h1]), hb.alloc hb.size _⟩
        case measure => simp [intOf]; omega
    · obtain rfl : k = xs.length := by omega
      have hv : v = false := by rw [← Hv.out, ← HK.out, List.take_length]
      subst hv
      go_wp2
      go_ret
      exact ⟨rfl, hb⟩
theorem rCheck_ok (A : Option Addr) (c : Nat) (xs : RL) (w : World) (hr : RdR w w.heap.size A xs) (hn : xs.length ≤ 4294967296) (h : checkB xs = true) :
    Calls Try.prog 19 #[.slice A xs.length c] w fun e w' => e = .returned (.int .i64 0) ∧ Below w.heap.size w w' := by
  have := rCheck_any A c xs w hr hn
  unfold chkE at this
  rwa [if_pos h] at this
theorem rCheck_no (A : Option Addr) (c : Nat) (xs : RL) (w : World) (hr : RdR w w.heap.size A xs) (hn : xs.length ≤ 4294967296) (h : checkB xs = false) :
    Calls Try.prog 19 #[.slice A xs.length c] w fun e w' => e = .returned (.int .i64 120) ∧ Below w.heap.size w w' := by
  have := rCheck_any A c xs w hr hn
  unfold chkE at this
  rwa [if_neg (by rw [h]; exact Bool.false_ne_true)] at this
theorem In_at (A : Option Addr) (c : Nat) (xs : RL) (n : Int) (w : World) (hr : RdR w w.heap.size A xs) (hn : xs.length ≤ 4294967296) (v : Bool) (hv : xs.any (inR n) = v) :
    Calls Try.prog 22 #[.slice A xs.length c, .int .i64 n] w fun e w' => e = .returned (.bool v) ∧ Below w.heap.size w w' := by
  have := In_any A c xs n w hr hn
  rwa [hv] at this
end Go.Proofs.Ytahlccihjjhgfaa
