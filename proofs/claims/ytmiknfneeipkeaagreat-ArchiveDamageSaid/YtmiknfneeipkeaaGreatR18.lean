/- Contracts of the walk, part 18. -/
import Derived.BigRegion
import Derived.Handy
import Derived.Test.YtmiknfneeipkeaaGreatR17
import Derived.Test.YtmiknfneeipkeaaGreatR11
import Derived.Test.YtmiknfneeipkeaaGreatR02
import Derived.Test.YtmiknfneeipkeaaGreatR10
import Derived.Test.YtmiknfneeipkeaaGreatR16
namespace Go.Proofs.YtmiknfneeipkeaaGreat
open Go.RowKit Go.MapKept Go.ChangeMaps Go.Shelf Go.Sort
attribute [local go_sem] wext_cell
def powP (n : Nat) : Nat := pB ^ n % pP
theorem powP_lt (n : Nat) : powP n < pP := Nat.mod_lt _ pP_pos
theorem powP_zero : powP 0 = 1 := by
  unfold powP pP
  rw [Nat.pow_zero]
theorem powP_one : powP 1 = 747382712868975713 := by
  unfold powP pP pB
  rw [Nat.pow_one]
theorem powP_add (a b : Nat) : powP a * powP b % pP = powP (a + b) := by
  unfold powP
  rw [Nat.pow_add, ← Nat.mul_mod]
theorem bit_step (n i : Nat) : n % 2 ^ (i + 1) = n % 2 ^ i + 2 ^ i * (n / 2 ^ i % 2) := by
  rw [Nat.pow_succ, Nat.mod_mul]
theorem two_pow_double (i : Nat) : 2 ^ i + 2 ^ i = 2 ^ (i + 1) := by rw [Nat.pow_succ]; omega
theorem bitLenAux_lt : ∀ (f x : Nat), x < 2 ^ f → x < 2 ^ Lib.bitLenAux f x
  | 0, x, h => by simpa [Lib.bitLenAux] using h
  | f + 1, x, h => by
    simp only [Lib.bitLenAux]
    by_cases h0 : x = 0
    · subst h0; simp
    · rw [if_neg h0, Nat.add_comm, Nat.pow_succ]
      have := bitLenAux_lt f (x / 2) (by rw [Nat.pow_succ] at h; omega)
      omega
theorem bitLen_bd (n : Nat) (hn : n ≤ 1048576) : Lib.bitLen n ≤ 21 ∧ n < 2 ^ Lib.bitLen n :=
  ⟨Lib.bitLen_le n 21 (by omega) (by omega), bitLenAux_lt 64 n (by omega)⟩
theorem and_one (x : Nat) (hx : x < 9223372036854775808) : bits .and .i64 (x : Int) 1 = ((x % 2 : Nat) : Int) := by
  have h1 : (BitVec.ofInt 64 (x : Int)).toNat = x := by
    rw [BitVec.ofInt_natCast, BitVec.toNat_ofNat]; exact Nat.mod_eq_of_lt (by omega)
  have h2 : (BitVec.ofInt 64 (1 : Int)).toNat = 1 := by decide
  show IntKind.i64.wrap ((BitVec.ofInt 64 (x : Int) &&& BitVec.ofInt 64 (1 : Int)).toNat : Int) = _
  rw [BitVec.toNat_and, h1, h2, Nat.and_one_is_mod]
  have h3 := Nat.mod_two_eq_zero_or_one x
  rcases h3 with h | h <;> rw [h] <;> rfl
set_option maxHeartbeats 2000000 in
theorem Power_any (n : Nat) (hn : n ≤ 1048576) (w : World) : Calls Tryz.prog 121 #[.int .i64 (n : Int)] w fun e w' => e = .returned (.int .u64 ((powP n : Nat) : Int)) ∧ w = w' := by
  have HB := Lib.hid (bitLen_bd n hn)
  have HL := Lib.hid (Tryz.bits_Len (n : Int) w (by omega) (by omega))
  rw [Int.toNat_natCast] at HL
  obtain ⟨q, HQ⟩ : ∃ q, Hid (Lib.bitLen n = q) := ⟨_, rfl⟩
  rw [HQ.out] at HL HB
  have hq : q ≤ 21 := HB.out.1
  go_enter Tryz.func121, Tryz.ntmps121
  go_wp2_with (go_at_call 127; (with_reducible refine HL.out.mono ?_); rintro e w' ⟨rfl, hw⟩; rw [hw])
  go_loop [3, 4, 15] (fun v3 v4 v15 => ∃ i : Nat, i ≤ q ∧ v15 = .int .i64 (i : Int) ∧ v3 = .int .u64 ((powP (n % 2 ^ i) : Nat) : Int) ∧ v4 = .int .u64 ((powP (2 ^ i) : Nat) : Int)) (fun _ _ v15 => q - (intOf v15).toNat)
  case atStart => exact ⟨0, Nat.zero_le _, rfl, by rw [Nat.pow_zero, Nat.mod_one, powP_zero]; rfl, by rw [Nat.pow_zero, powP_one]; rfl⟩
  case round =>
    obtain ⟨i, hi, rfl, rfl, rfl⟩ := hrel
    by_cases hlt : i < q
    · have hsq := Lib.hid (powP_add (2 ^ i) (2 ^ i))
      rw [two_pow_double] at hsq
      have hst := Lib.hid (bit_step n i)
      have hpw := Lib.hid (powP_add (n % 2 ^ i) (2 ^ i))
      have HM := Lib.hid (fmul_any (powP (2 ^ i)) (powP (2 ^ i)) w (powP_lt _) (powP_lt _))
      have HM2 := Lib.hid (fmul_any (powP (n % 2 ^ i)) (powP (2 ^ i)) w (powP_lt _) (powP_lt _))
      rw [hsq.out] at HM
      rw [hpw.out] at HM2
      have hb : bits .and .i64 ((n : Int) / 2 ^ i) 1 = ((n / 2 ^ i % 2 : Nat) : Int) := by
        have := and_one (n / 2 ^ i) (Nat.lt_of_le_of_lt (Nat.div_le_self _ _) (by omega))
        rw [← this]
        congr 1
      have h01 := Nat.mod_two_eq_zero_or_one (n / 2 ^ i)
      generalize n / 2 ^ i % 2 = bt at hst hb h01
      go_upto_if 22 with fail
      clear hb
      rcases h01 with rfl | rfl
      · have he : powP (n % 2 ^ (i + 1)) = powP (n % 2 ^ i) := by rw [hst.out, Nat.mul_zero, Nat.add_zero]
        have HE := Lib.hid he
        clear he hst
        go_wp2_with (go_at_call 120; (with_reducible refine HM.out.mono ?_); rintro e w' ⟨rfl, rfl⟩)
        go_round
        case rel => exact ⟨i + 1, by omega, by go_num, by rw [HE.out], rfl⟩
        case measure => simp [intOf]; omega
      · have he : powP (n % 2 ^ (i + 1)) = powP (n % 2 ^ i + 2 ^ i) := by rw [hst.out, Nat.mul_one]
        have HE := Lib.hid he
        clear he hst
        go_wp2_with (go_at_call 120; first | (with_reducible refine HM2.out.mono ?_) | (with_reducible refine HM.out.mono ?_); rintro e w' ⟨rfl, rfl⟩)
        go_round
        case rel => exact ⟨i + 1, by omega, by go_num, by rw [HE.out], rfl⟩
        case measure => simp [intOf]; omega
    · obtain rfl : i = q := by omega
      rw [Nat.mod_eq_of_lt HB.out.2]
      go_wp2_with fail
      go_ret
      exact ⟨rfl, rfl⟩
set_option maxHeartbeats 2000000 in
theorem rPower_any (n : Nat) (hn : n ≤ 1048576) (w : World) : Calls Tryz.prog 81 #[.int .i64 (n : Int)] w fun e w' => e = .returned (.int .u64 ((powP n : Nat) : Int)) ∧ w = w' := by
  go_enter Tryz.func81, Tryz.ntmps81
  go_wp2_with fail
  go_loop [0, 3, 4] (fun v0 v3 v4 => ∃ m out sq : Nat, m ≤ n ∧ v0 = .int .i64 (m : Int) ∧ v3 = .int .u64 ((out : Nat) : Int) ∧ v4 = .int .u64 ((powP sq : Nat) : Int) ∧ out < pP ∧ out * powP (sq * m) % pP = powP n) (fun v0 _ _ => (intOf v0).toNat)
  case atStart => exact ⟨n, 1, 1, Nat.le_refl _, rfl, rfl, by rw [powP_one]; rfl, by unfold pP; omega, by rw [Nat.one_mul, Nat.one_mul]; exact Nat.mod_eq_of_lt (powP_lt n)⟩
  case round =>
    obtain ⟨m, out, sq, hm, rfl, rfl, rfl, ho, hp⟩ := hrel
    have HP := Lib.hid hp
    have HO := Lib.hid ho
    clear hp ho
    by_cases hlt : 0 < m
    · have hsq := Lib.hid (powP_add sq sq)
      have HM := Lib.hid (rmul_any (powP sq) (powP sq) w (powP_lt _) (powP_lt _))
      have HM2 := Lib.hid (rmul_any out (powP sq) w HO.out (powP_lt _))
      rw [hsq.out] at HM
      have hb : bits .and .i64 (m : Int) 1 = ((m % 2 : Nat) : Int) := and_one m (by omega)
      have h01 := Nat.mod_two_eq_zero_or_one m
      have hdm := Nat.div_add_mod m 2
      generalize m % 2 = bt at hb h01 hdm
      rcases h01 with rfl | rfl
      · have HE : Hid (out * powP ((sq + sq) * (m / 2)) % pP = powP n) := by
          rw [Hid, ← HP.out, ← Nat.two_mul, Nat.mul_assoc, Nat.mul_left_comm, show 2 * (m / 2) = m by omega]
        go_wp2_with (go_at_call 80; (with_reducible refine HM.out.mono ?_); rintro e w' ⟨rfl, rfl⟩)
        go_round
        case rel => exact ⟨m / 2, out, sq + sq, by omega, by go_num, rfl, rfl, HO.out, HE.out⟩
        case measure => simp [intOf]; omega
      · have HE : Hid (out * powP sq % pP * powP ((sq + sq) * (m / 2)) % pP = powP n) := by
          have e : sq + (sq + sq) * (m / 2) = sq * m := by
            rw [← Nat.two_mul, Nat.mul_comm 2 sq, Nat.mul_assoc, Nat.add_comm, ← Nat.mul_succ]
            congr 1
          rw [Hid, Nat.mod_mul_mod, Nat.mul_assoc, ← Nat.mul_mod_mod, powP_add, e, HP.out]
        go_wp2_with (go_at_call 80; first | (with_reducible refine HM2.out.mono ?_) | (with_reducible refine HM.out.mono ?_); rintro e w' ⟨rfl, rfl⟩)
        go_round
        case rel => exact ⟨m / 2, out * powP sq % pP, sq + sq, by omega, by go_num, rfl, rfl, Nat.mod_lt _ pP_pos, HE.out⟩
        case measure => simp [intOf]; omega
    · obtain rfl : m = 0 := by omega
      have HE : Hid (out = powP n) := by
        have := HP.out
        rw [Nat.mul_zero, powP_zero, Nat.mul_one, Nat.mod_eq_of_lt HO.out] at this
        exact this
      go_wp2_with fail
      go_ret
      exact ⟨by rw [HE.out]; rfl, rfl⟩
end Go.Proofs.YtmiknfneeipkeaaGreat
namespace Go.Proofs.YtmiknfneeipkeaaGreat
open Go.RowKit Go.MapKept Go.ChangeMaps Go.Shelf Go.Sort
attribute [local go_sem] wext_cell
def joinP (a b : ID) : ID := ((((a.1.toNat * powP b.2.toNat + b.1.toNat) % pP : Nat) : Int), a.2 + b.2)
theorem validB_bd {i : ID} (h : validB i = true) : 0 ≤ i.2 ∧ i.2 ≤ 1048576 ∧ i.1 < 2305843009213693951 := by
  simp only [validB, Bool.and_eq_true, decide_eq_true_eq] at h
  omega
set_option maxHeartbeats 4000000 in
theorem Join_any (a1 a2 b1 b2 : Int) (ha : validB (a1, a2) = true) (hb : validB (b1, b2) = true) (ha0 : 0 ≤ a1) (hb0 : 0 ≤ b1) (hs : a2 + b2 ≤ 1048576) (w : World) :
    Calls Tryz.prog 75 #[.agg #[.int .u64 a1, .int .i64 a2], .agg #[.int .u64 b1, .int .i64 b2]] w (fun e w' => e = .returned (.tuple #[.agg #[.int .u64 (joinP (a1, a2) (b1, b2)).1, .int .i64 (joinP (a1, a2) (b1, b2)).2], .int .i64 0]) ∧ Below w.heap.size w w') := by
  obtain ⟨n1, rfl⟩ : ∃ n : Nat, a1 = (n : Int) := ⟨a1.toNat, by omega⟩
  obtain ⟨m1, rfl⟩ : ∃ n : Nat, b1 = (n : Int) := ⟨b1.toNat, by omega⟩
  have h1 := validB_bd ha
  have h2 := validB_bd hb
  simp only at h1 h2
  obtain ⟨n2, rfl⟩ : ∃ n : Nat, a2 = (n : Int) := ⟨a2.toNat, by omega⟩
  obtain ⟨m2, rfl⟩ : ∃ n : Nat, b2 = (n : Int) := ⟨b2.toNat, by omega⟩
  have HV1 := Lib.hid (fun W => Valid_any (n1 : Int) (n2 : Int) W)
  have HV2 := Lib.hid (fun W => Valid_any (m1 : Int) (m2 : Int) W)
  rw [ha] at HV1
  rw [hb] at HV2
  have HPW := Lib.hid (fun W => Power_any m2 (by omega) W)
  have HMU := Lib.hid (fun W => fmul_any n1 (powP m2) W (by omega) (powP_lt _))
  have hmt : n1 * powP m2 % pP < pP := Nat.mod_lt _ pP_pos
  have HAD := Lib.hid (fun W => fadd_any (n1 * powP m2 % pP) m1 W hmt (by omega))
  rw [Nat.mod_add_mod] at HAD
  have HR : Hid (joinP ((n1 : Int), (n2 : Int)) ((m1 : Int), (m2 : Int)) = ((((n1 * powP m2 + m1) % pP : Nat) : Int), (n2 : Int) + (m2 : Int))) := rfl
  rw [HR.out]
  obtain ⟨pw, HPE⟩ : ∃ x, Hid (powP m2 = x) := ⟨_, rfl⟩
  rw [HPE.out] at HPW HMU HAD ⊢
  obtain ⟨mu, HME⟩ : ∃ x, Hid (n1 * pw % pP = x) := ⟨_, rfl⟩
  rw [HME.out] at HMU HAD
  obtain ⟨sm, HSE⟩ : ∃ x, Hid ((n1 * pw + m1) % pP = x) := ⟨_, rfl⟩
  rw [HSE.out] at HAD ⊢
  clear hmt ha hb ha0 hb0 HR
  have S0 := Lib.hid ((((SW.refl (Sep.nil w (Nat.le_refl _))).newCell 36 #[.int .u64 (n1 : Int), .int .i64 (n2 : Int)]).newCellAt 36 #[.int .u64 (m1 : Int), .int .i64 (m2 : Int)] (H := w.heap.size + 1) (by simp)).newCellAt 36 #[.int .u64 0, .int .i64 0] (H := w.heap.size + 1 + 1) (by simp))
  go_enter Tryz.func75, Tryz.ntmps75
  go_wp2_with (go_at_call 112; (with_reducible refine (HV1.out _).mono ?_); refine halt_ ?_)
  rintro e w1 ⟨rfl, hb1⟩
  have S1 := Lib.hid (S0.out.on hb1)
  clear hb1 S0
  have c0 := (S1.out.cell 2 rfl).cell 0
  have c1 := (S1.out.cell 2 rfl).cell 1
  have d0 := (S1.out.cell 1 rfl).cell 0
  have d1 := (S1.out.cell 1 rfl).cell 1
  go_wp2_with (go_at_call 112; (with_reducible refine (HV2.out _).mono ?_); refine halt_ ?_)
  rintro e w2 ⟨rfl, hb2⟩
  have S2 := Lib.hid (S1.out.on hb2)
  clear hb2 S1 c0 c1 d0 d1
  have c0 := (S2.out.cell 2 rfl).cell 0
  have c1 := (S2.out.cell 2 rfl).cell 1
  have d0 := (S2.out.cell 1 rfl).cell 0
  have d1 := (S2.out.cell 1 rfl).cell 1
  have hl0 := (S2.out.cell 2 rfl).lt
  have hl1 := (S2.out.cell 1 rfl).lt
  go_upto_region 5 with fail
  refine wp_region_ext_tail 15 (by kernel_rfl) (by kernel_rfl) ?_
  simp only [List.take_succ_cons, List.take_zero, List.drop_succ_cons, List.drop_zero]
  repeat (go_big_quiet_step ((first | (go_at_call 121; exact ext_call ((HPW.out _).mono (fun e W h => ⟨h.1, h.2 ▸ Below.refl _ _⟩))) | (go_at_call 120; exact ext_call ((HMU.out _).mono (fun e W h => ⟨h.1, h.2 ▸ Below.refl _ _⟩))) | (go_at_call 119; exact ext_call ((HAD.out _).mono (fun e W h => ⟨h.1, h.2 ▸ Below.refl _ _⟩))))))
  refine wpQuiet_nil ?_
  intro w3 hb3
  have S3 := Lib.hid (S2.out.on hb3)
  clear hb3 S2 c0 c1 d0 d1
  have e0 := (S3.out.cell 0 rfl).cell 0
  have e1 := (S3.out.cell 0 rfl).cell 1
  have f0 := fun o => (S3.out.cell 0 rfl).frozen o
  go_wp2_with fail
  have S4 : Hid (SW w.heap.size w [cellOb (w.heap.size + 1 + 1) 36 #[.int .u64 sm, .int .i64 ((n2 : Int) + m2)], cellOb (w.heap.size + 1) 36 #[.int .u64 (m1 : Int), .int .i64 (m2 : Int)], cellOb w.heap.size 36 #[.int .u64 (n1 : Int), .int .i64 (n2 : Int)]] ((w3.setCell ⟨w.heap.size + 1 + 1, 0, none⟩ (.int .u64 sm)).setCell ⟨w.heap.size + 1 + 1, 1, none⟩ (.int .i64 ((n2 : Int) + m2)))) := (S3.out.setAt 0 rfl 0 (.int .u64 sm)).setAt 0 rfl 1 (.int .i64 ((n2 : Int) + m2))
  clear S3 e0 e1 f0
  obtain ⟨w4, HW4⟩ : ∃ W, Hid ((w3.setCell ⟨w.heap.size + 1 + 1, 0, none⟩ (.int .u64 sm)).setCell ⟨w.heap.size + 1 + 1, 1, none⟩ (.int .i64 ((n2 : Int) + m2)) = W) := ⟨_, rfl⟩
  rw [HW4.out] at S4 ⊢
  have e0 : w4.cell? ⟨w.heap.size + 1 + 1, 0, none⟩ = some (.int .u64 sm) := (S4.out.cell 0 rfl).cell 0
  have e1 : w4.cell? ⟨w.heap.size + 1 + 1, 1, none⟩ = some (.int .i64 ((n2 : Int) + m2)) := (S4.out.cell 0 rfl).cell 1
  have HBB := Lib.hid S4.out.2
  clear HW4 S4
  (try simp only [Exit.inBlock, Exit.then])
  refine bodyPost_ret (v := .tuple #[.agg #[.int .u64 sm, .int .i64 ((n2 : Int) + m2)], .int .i64 0]) (by simp [results, Tryz.results75, go_sem, e0, e1, Result.andThen]) rfl ?_
  exact ⟨rfl, HBB.out⟩
set_option maxHeartbeats 4000000 in
theorem rJoin_any (a1 a2 b1 b2 : Int) (ha : validB (a1, a2) = true) (hb : validB (b1, b2) = true) (ha0 : 0 ≤ a1) (hb0 : 0 ≤ b1) (hs : a2 + b2 ≤ 1048576) (w : World) :
    Calls Tryz.prog 38 #[.agg #[.int .u64 a1, .int .i64 a2], .agg #[.int .u64 b1, .int .i64 b2]] w (fun e w' => e = .returned (.tuple #[.agg #[.int .u64 (joinP (a1, a2) (b1, b2)).1, .int .i64 (joinP (a1, a2) (b1, b2)).2], .int .i64 0]) ∧ Below w.heap.size w w') := by
  obtain ⟨n1, rfl⟩ : ∃ n : Nat, a1 = (n : Int) := ⟨a1.toNat, by omega⟩
  obtain ⟨m1, rfl⟩ : ∃ n : Nat, b1 = (n : Int) := ⟨b1.toNat, by omega⟩
  have h1 := validB_bd ha
  have h2 := validB_bd hb
  simp only at h1 h2
  obtain ⟨n2, rfl⟩ : ∃ n : Nat, a2 = (n : Int) := ⟨a2.toNat, by omega⟩
  obtain ⟨m2, rfl⟩ : ∃ n : Nat, b2 = (n : Int) := ⟨b2.toNat, by omega⟩
  have HV1 := Lib.hid (fun W => rValid_any (n1 : Int) (n2 : Int) W)
  have HV2 := Lib.hid (fun W => rValid_any (m1 : Int) (m2 : Int) W)
  rw [ha] at HV1
  rw [hb] at HV2
  have HPW := Lib.hid (fun W => rPower_any m2 (by omega) W)
  have HMU := Lib.hid (fun W => rmul_any n1 (powP m2) W (by omega) (powP_lt _))
  have hmt : n1 * powP m2 % pP < pP := Nat.mod_lt _ pP_pos
  have HAD := Lib.hid (fun W => rplus_any (n1 * powP m2 % pP) m1 W (Nat.le_of_lt hmt) (by omega))
  rw [Nat.mod_add_mod] at HAD
  have HR : Hid (joinP ((n1 : Int), (n2 : Int)) ((m1 : Int), (m2 : Int)) = ((((n1 * powP m2 + m1) % pP : Nat) : Int), (n2 : Int) + (m2 : Int))) := rfl
  rw [HR.out]
  obtain ⟨pw, HPE⟩ : ∃ x, Hid (powP m2 = x) := ⟨_, rfl⟩
  rw [HPE.out] at HPW HMU HAD ⊢
  obtain ⟨mu, HME⟩ : ∃ x, Hid (n1 * pw % pP = x) := ⟨_, rfl⟩
  rw [HME.out] at HMU HAD
  obtain ⟨sm, HSE⟩ : ∃ x, Hid ((n1 * pw + m1) % pP = x) := ⟨_, rfl⟩
  rw [HSE.out] at HAD ⊢
  clear hmt ha hb ha0 hb0 HR
  have S0 := Lib.hid ((((SW.refl (Sep.nil w (Nat.le_refl _))).newCell 36 #[.int .u64 (n1 : Int), .int .i64 (n2 : Int)]).newCellAt 36 #[.int .u64 (m1 : Int), .int .i64 (m2 : Int)] (H := w.heap.size + 1) (by simp)).newCellAt 36 #[.int .u64 0, .int .i64 0] (H := w.heap.size + 1 + 1) (by simp))
  go_enter Tryz.func38, Tryz.ntmps38
  go_wp2_with (go_at_call 78; (with_reducible refine (HV1.out _).mono ?_); refine halt_ ?_)
  rintro e w1 ⟨rfl, hb1⟩
  have S1 := Lib.hid (S0.out.on hb1)
  clear hb1 S0
  have c0 := (S1.out.cell 2 rfl).cell 0
  have c1 := (S1.out.cell 2 rfl).cell 1
  have d0 := (S1.out.cell 1 rfl).cell 0
  have d1 := (S1.out.cell 1 rfl).cell 1
  go_wp2_with (go_at_call 78; (with_reducible refine (HV2.out _).mono ?_); refine halt_ ?_)
  rintro e w2 ⟨rfl, hb2⟩
  have S2 := Lib.hid (S1.out.on hb2)
  clear hb2 S1 c0 c1 d0 d1
  have c0 := (S2.out.cell 2 rfl).cell 0
  have c1 := (S2.out.cell 2 rfl).cell 1
  have d0 := (S2.out.cell 1 rfl).cell 0
  have d1 := (S2.out.cell 1 rfl).cell 1
  have hl0 := (S2.out.cell 2 rfl).lt
  have hl1 := (S2.out.cell 1 rfl).lt
  go_upto_region 5 with fail
  refine wp_region_ext_tail 15 (by kernel_rfl) (by kernel_rfl) ?_
  simp only [List.take_succ_cons, List.take_zero, List.drop_succ_cons, List.drop_zero]
  repeat (go_big_quiet_step ((first | (go_at_call 81; exact ext_call ((HPW.out _).mono (fun e W h => ⟨h.1, h.2 ▸ Below.refl _ _⟩))) | (go_at_call 80; exact ext_call ((HMU.out _).mono (fun e W h => ⟨h.1, h.2 ▸ Below.refl _ _⟩))) | (go_at_call 79; exact ext_call ((HAD.out _).mono (fun e W h => ⟨h.1, h.2 ▸ Below.refl _ _⟩))))))
  refine wpQuiet_nil ?_
  intro w3 hb3
  have S3 := Lib.hid (S2.out.on hb3)
  clear hb3 S2 c0 c1 d0 d1
  have e0 := (S3.out.cell 0 rfl).cell 0
  have e1 := (S3.out.cell 0 rfl).cell 1
  have f0 := fun o => (S3.out.cell 0 rfl).frozen o
  go_wp2_with fail
  have S4 : Hid (SW w.heap.size w [cellOb (w.heap.size + 1 + 1) 36 #[.int .u64 sm, .int .i64 ((n2 : Int) + m2)], cellOb (w.heap.size + 1) 36 #[.int .u64 (m1 : Int), .int .i64 (m2 : Int)], cellOb w.heap.size 36 #[.int .u64 (n1 : Int), .int .i64 (n2 : Int)]] ((w3.setCell ⟨w.heap.size + 1 + 1, 0, none⟩ (.int .u64 sm)).setCell ⟨w.heap.size + 1 + 1, 1, none⟩ (.int .i64 ((n2 : Int) + m2)))) := (S3.out.setAt 0 rfl 0 (.int .u64 sm)).setAt 0 rfl 1 (.int .i64 ((n2 : Int) + m2))
  clear S3 e0 e1 f0
  obtain ⟨w4, HW4⟩ : ∃ W, Hid ((w3.setCell ⟨w.heap.size + 1 + 1, 0, none⟩ (.int .u64 sm)).setCell ⟨w.heap.size + 1 + 1, 1, none⟩ (.int .i64 ((n2 : Int) + m2)) = W) := ⟨_, rfl⟩
  rw [HW4.out] at S4 ⊢
  have e0 : w4.cell? ⟨w.heap.size + 1 + 1, 0, none⟩ = some (.int .u64 sm) := (S4.out.cell 0 rfl).cell 0
  have e1 : w4.cell? ⟨w.heap.size + 1 + 1, 1, none⟩ = some (.int .i64 ((n2 : Int) + m2)) := (S4.out.cell 0 rfl).cell 1
  have HBB := Lib.hid S4.out.2
  clear HW4 S4
  (try simp only [Exit.inBlock, Exit.then])
  refine bodyPost_ret (v := .tuple #[.agg #[.int .u64 sm, .int .i64 ((n2 : Int) + m2)], .int .i64 0]) (by simp [results, Tryz.results38, go_sem, e0, e1, Result.andThen]) rfl ?_
  exact ⟨rfl, HBB.out⟩
end Go.Proofs.YtmiknfneeipkeaaGreat
namespace Go.Proofs.YtmiknfneeipkeaaGreat
open Go.RowKit Go.MapKept Go.ChangeMaps Go.Shelf Go.Sort
attribute [local go_sem] wext_cell
def wholeP (l : List ID) : ID := l.foldl joinP (0, 0)
theorem wholeP_snoc (l : List ID) (i : ID) : wholeP (l ++ [i]) = joinP (wholeP l) i := by simp [wholeP]
theorem chunkB_valid {i : ID} (h : chunkB i = true) : validB i = true := by
  simp only [chunkB, Bool.and_eq_true] at h
  exact h.1.1
theorem wholeP_ok : ∀ (k : Nat) (l : List ID), l.length = k → l.all chunkB = true → sumZ l ≤ 1048576 → validB (wholeP l) = true ∧ (wholeP l).2 = sumZ l ∧ 0 ≤ (wholeP l).1
  | 0, l, hk, _, _ => by
    obtain rfl := List.eq_nil_of_length_eq_zero hk
    exact ⟨by decide, rfl, by decide⟩
  | k + 1, l, hk, ha, hs => by
    rcases List.eq_nil_or_concat l with rfl | ⟨l, i, rfl⟩
    · simp at hk
    · rw [List.concat_eq_append] at *
      rw [List.all_append, Bool.and_eq_true] at ha
      have hi : chunkB i = true := by simpa using ha.2
      have hib := chunkB_sound hi
      rw [sumZ_snoc] at hs ⊢
      have hp := sum_take_bd (l := l) (k := l.length) (by rw [List.take_length]; exact ha.1)
      rw [List.take_length] at hp
      obtain ⟨h1, h2, h3⟩ := wholeP_ok k l (by simpa using hk) ha.1 (by omega)
      rw [wholeP_snoc]
      refine ⟨?_, ?_, ?_⟩
      · have e : joinP (wholeP l) i = ((((( (wholeP l).1.toNat * powP i.2.toNat + i.1.toNat) % pP : Nat)) : Int), (wholeP l).2 + i.2) := rfl
        have hm : ((wholeP l).1.toNat * powP i.2.toNat + i.1.toNat) % pP < pP := Nat.mod_lt _ pP_pos
        rw [e]
        unfold pP at hm ⊢
        simp only [validB, Bool.and_eq_true, Bool.or_eq_true, decide_eq_true_eq, beq_iff_eq]
        omega
      · show (wholeP l).2 + i.2 = _
        rw [h2]
      · show (0 : Int) ≤ (((_ : Nat)) : Int)
        omega
theorem manE_zero {m : Man} (h : manE m = 0) : m.ids.all chunkB = true ∧ m.size = sumZ m.ids ∧ m.size ≤ 1048576 := by
  have h1 := manE_all h
  have h2 := manE_end (manE_len h) h1
  rw [h] at h2
  by_cases hc : m.size = sumZ m.ids ∧ m.size ≤ 1048576
  · exact ⟨h1, hc⟩
  · rw [if_neg hc] at h2
    omega
theorem whole_take {m : Man} (h : manE m = 0) {k : Nat} (hk : k < m.ids.length) : validB (wholeP (m.ids.take k)) = true ∧ (wholeP (m.ids.take k)).2 + (m.ids.getD k (0, 0)).2 ≤ 1048576 ∧ 0 ≤ (wholeP (m.ids.take k)).1 ∧ validB (m.ids.getD k (0, 0)) = true := by
  obtain ⟨h1, h2, h3⟩ := manE_zero h
  have e : m.ids = m.ids.take (k + 1) ++ m.ids.drop (k + 1) := (List.take_append_drop _ _).symm
  have hs : sumZ m.ids = sumZ (m.ids.take (k + 1)) + sumZ (m.ids.drop (k + 1)) := by
    conv => lhs; rw [e]
    show ((m.ids.take (k + 1) ++ m.ids.drop (k + 1)).map _).sum = _
    rw [List.map_append, List.sum_append]
    rfl
  have ha : (m.ids.take (k + 1)).all chunkB = true ∧ (m.ids.drop (k + 1)).all chunkB = true := by
    rw [e, List.all_append, Bool.and_eq_true] at h1
    exact h1
  have hd := sum_take_bd (l := m.ids.drop (k + 1)) (k := (m.ids.drop (k + 1)).length) (by rw [List.take_length]; exact ha.2)
  rw [List.take_length] at hd
  have ht := take_snoc m.ids (0, 0) k hk
  rw [ht] at hs ha
  rw [sumZ_snoc] at hs
  rw [List.all_append, Bool.and_eq_true] at ha
  have hi : chunkB (m.ids.getD k (0, 0)) = true := by simpa using ha.1.2
  have hib := chunkB_sound hi
  obtain ⟨w1, w2, w3⟩ := wholeP_ok _ (m.ids.take k) rfl ha.1.1 (by omega)
  exact ⟨w1, by rw [w2]; omega, w3, chunkB_valid hi⟩
theorem okID_pos {i1 i2 : Int} (h : okID (i1, i2)) : 0 ≤ i1 := by
  have := h.1
  rw [Lit.wf, Bool.and_eq_true, decide_eq_true_eq] at this
  exact this.1
abbrev WholeE (m : Man) (w : World) (e : Ending) (w' : World) : Prop :=
  e = .returned (.tuple #[.agg #[.int .u64 (if manE m = 0 then wholeP m.ids else (0, 0)).1, .int .i64 (if manE m = 0 then wholeP m.ids else (0, 0)).2], .int .i64 (manE m)]) ∧ Below w.heap.size w w'
set_option maxHeartbeats 4000000 in
theorem Whole_any (x : Nat) (m : Man) (A : Option Addr) (c : Nat) (w : World) (hr : RdID w x A m.ids) (hn : m.ids.length ≤ 9223372036854775807) (hok : ∀ i ∈ m.ids, okID i) :
    Calls Tryz.prog 31 #[.agg #[.int .i64 m.size, .slice A m.ids.length c]] w (WholeE m w) := by
  have Hr := Lib.hid hr
  have Hok := Lib.hid hok
  clear hr hok
  have S0 := Lib.hid (((SW.refl (Sep.nil w (Nat.le_refl _))).newCell 33 #[.int .i64 m.size, .slice A m.ids.length c]).newCellAt 36 #[.int .u64 0, .int .i64 0] (H := w.heap.size + 1) (by simp))
  have HC := Lib.hid (manCheck_any x m A c _ (Hr.out.on S0.out.2) hn)
  go_enter Tryz.func31, Tryz.ntmps31
  go_wp2_with (go_at_call 74; (with_reducible refine HC.out.mono ?_); refine halt_ ?_)
  rintro e w1 ⟨rfl, hb1⟩
  have S1 := Lib.hid (S0.out.on hb1)
  clear hb1 S0 HC
  have f0 := fun o => (S1.out.cell 0 rfl).frozen o
  have e0 := (S1.out.cell 0 rfl).cell 0
  have e1 := (S1.out.cell 0 rfl).cell 1
  by_cases hE : manE m = 0
  · have HE := Lib.hid hE
    have HW : Hid ((if manE m = 0 then wholeP m.ids else (0, 0)) = wholeP m.ids) := if_pos hE
    rw [hE]
    clear hE
    have c1 := (S1.out.cell 1 rfl).cell 1
    go_upto_region 5 with fail
    obtain ⟨g5, HG⟩ : ∃ x, Hid (w1.heap.size = x) := ⟨_, rfl⟩
    have S2 := Lib.hid (S1.out.newCell 36 #[.int .u64 0, .int .i64 0])
    rw [HG.out] at S2 ⊢
    clear HG S1 f0 e0 e1 c1
    have c1 := (S2.out.cell 2 rfl).cell 1
    obtain ⟨w2, HW2⟩ : ∃ W, Hid (w1.alloc (.cells #[.int .u64 0, .int .i64 0] 36) = W) := ⟨_, rfl⟩
    rw [HW2.out] at S2 c1 ⊢
    clear HW2
    go_wp2_with fail
    go_loopw [19] (fun v19 wr => ∃ k : Nat, k ≤ m.ids.length ∧ v19 = .int .i64 (k : Int) ∧ SW w.heap.size w [cellOb g5 36 #[.int .u64 (wholeP (m.ids.take k)).1, .int .i64 (wholeP (m.ids.take k)).2], cellOb (w.heap.size + 1) 36 #[.int .u64 0, .int .i64 0], cellOb w.heap.size 33 #[.int .i64 m.size, .slice A m.ids.length c]] wr) (fun v19 _ => m.ids.length - (intOf v19).toNat)
    case atStart => exact ⟨0, Nat.zero_le _, rfl, S2.out⟩
    case round =>
      obtain ⟨k, hk, rfl, hs⟩ := hrel
      have S3 := Lib.hid hs
      clear hs S2
      by_cases hlt : k < m.ids.length
      · obtain ⟨q1, q2, HQ⟩ : ∃ q1 q2, Hid (wholeP (m.ids.take k) = (q1, q2)) := ⟨_, _, rfl⟩
        obtain ⟨i1, i2, HI⟩ : ∃ i1 i2, Hid (m.ids.getD k (0, 0) = (i1, i2)) := ⟨_, _, rfl⟩
        have hwt := whole_take HE.out hlt
        have hmem := getD_mem m.ids (0, 0) k hlt
        have HN : Hid (wholeP (m.ids.take (k + 1)) = joinP (q1, q2) (i1, i2)) := by rw [Hid, take_snoc _ (0, 0) _ hlt, wholeP_snoc, HQ.out, HI.out]
        rw [HQ.out, HI.out] at hwt
        rw [HI.out] at hmem
        rw [HQ.out] at S3
        have HJ := Lib.hid (fun W => Join_any q1 q2 i1 i2 hwt.1 hwt.2.2.2 hwt.2.2.1 (okID_pos (Hok.out _ hmem)) hwt.2.1 W)
        obtain ⟨j1, j2, HJE⟩ : ∃ j1 j2, Hid (joinP (q1, q2) (i1, i2) = (j1, j2)) := ⟨_, _, rfl⟩
        rw [HJE.out] at HJ HN
        clear hwt hmem
        obtain ⟨gb, o, rfl, hB, hne, hc⟩ := Hr.out (by omega)
        have d0 : wr.cell? ⟨gb, o + k * 2, none⟩ = some (.int .u64 i1) := by rw [S3.out.2.cell (p := ⟨gb, o + k * 2, none⟩) hB]; exact hc k hlt 0 _ (by rw [HI.out]; rfl)
        have d1 : wr.cell? ⟨gb, o + k * 2 + 1, none⟩ = some (.int .i64 i2) := by rw [S3.out.2.cell (p := ⟨gb, o + k * 2 + 1, none⟩) hB]; exact hc k hlt 1 _ (by rw [HI.out]; rfl)
        have a0 := (S3.out.cell 0 rfl).cell 0
        have a1 := (S3.out.cell 0 rfl).cell 1
        have hl5 := (S3.out.cell 0 rfl).lt
        clear hc
        have S4 := Lib.hid (S3.out.newCell 36 #[.int .u64 i1, .int .i64 i2])
        go_wp2_with (go_at_call 75; (with_reducible refine (HJ.out _).mono ?_); refine halt_ ?_)
        rintro e w3 rfl hb3
        rw [← World.size_alloc wr (.cells #[.int .u64 i1, .int .i64 i2] 36)] at hb3
        have hl3 : g5 < w3.heap.size := Nat.lt_of_lt_of_le hl5 (Nat.le_trans (by rw [World.size_alloc]; exact Nat.le_succ _) hb3.size)
        have S5 := Lib.hid (S4.out.on hb3)
        clear hb3 S4 S3 d0 d1 a0 a1
        have a0 := ((S5.out.cell 1 rfl).cell 0)
        have a1 := ((S5.out.cell 1 rfl).cell 1)
        have f0 := fun o => (S5.out.cell 1 rfl).frozen o
        have S6 : Hid (SW w.heap.size w [cellOb g5 36 #[.int .u64 j1, .int .i64 j2], cellOb (w.heap.size + 1) 36 #[.int .u64 0, .int .i64 0], cellOb w.heap.size 33 #[.int .i64 m.size, .slice (some ⟨gb, o, none⟩) m.ids.length c]] (((w3.setCell ⟨g5, 0, none⟩ (.int .u64 j1)).setCell ⟨g5, 1, none⟩ (.int .i64 j2)).alloc (.cells #[.int .u64 j1, .int .i64 j2] 36))) := (((S5.out.setAt 1 rfl 0 (.int .u64 j1)).setAt 1 rfl 1 (.int .i64 j2)).newCell 36 #[.int .u64 j1, .int .i64 j2]).tail.tail
        go_wp2_with fail
        go_roundw
        case rel => exact ⟨k + 1, by omega, by go_num, by rw [HN.out]; exact S6.out⟩
        case measure => simp [intOf]; omega
      · obtain rfl : k = m.ids.length := by omega
        rw [List.take_length] at S3
        obtain ⟨q1, q2, HQ⟩ : ∃ q1 q2, Hid (wholeP m.ids = (q1, q2)) := ⟨_, _, rfl⟩
        rw [HQ.out] at S3
        have a0 := (S3.out.cell 0 rfl).cell 0
        have a1 := (S3.out.cell 0 rfl).cell 1
        have e0 := (S3.out.cell 1 rfl).cell 0
        have e1 := (S3.out.cell 1 rfl).cell 1
        have f0 := fun o => (S3.out.cell 1 rfl).frozen o
        go_wp2_with fail
        clear a0 a1 e0 e1 f0
        have S4 : Hid (SW w.heap.size w [cellOb g5 36 #[.int .u64 q1, .int .i64 q2], cellOb (w.heap.size + 1) 36 #[.int .u64 q1, .int .i64 q2], cellOb w.heap.size 33 #[.int .i64 m.size, .slice A m.ids.length c]] ((wr.setCell ⟨w.heap.size + 1, 0, none⟩ (.int .u64 q1)).setCell ⟨w.heap.size + 1, 1, none⟩ (.int .i64 q2))) := (S3.out.setAt 1 rfl 0 (.int .u64 q1)).setAt 1 rfl 1 (.int .i64 q2)
        obtain ⟨w4, HW4⟩ : ∃ W, Hid ((wr.setCell ⟨w.heap.size + 1, 0, none⟩ (.int .u64 q1)).setCell ⟨w.heap.size + 1, 1, none⟩ (.int .i64 q2) = W) := ⟨_, rfl⟩
        rw [HW4.out] at S4 ⊢
        have e0 : w4.cell? ⟨w.heap.size + 1, 0, none⟩ = some (.int .u64 q1) := (S4.out.cell 1 rfl).cell 0
        have e1 : w4.cell? ⟨w.heap.size + 1, 1, none⟩ = some (.int .i64 q2) := (S4.out.cell 1 rfl).cell 1
        (try simp only [Exit.inBlock, Exit.then])
        refine bodyPost_ret (v := .tuple #[.agg #[.int .u64 q1, .int .i64 q2], .int .i64 0]) (by simp [results, Tryz.results31, go_sem, e0, e1, Result.andThen]) rfl ?_
        exact ⟨by rw [HW.out, HE.out, HQ.out], S4.out.2⟩
  · have HW : Hid ((if manE m = 0 then wholeP m.ids else (0, 0)) = (0, 0)) := if_neg hE
    obtain ⟨E, HE⟩ : ∃ x, Hid (manE m = x) := ⟨_, rfl⟩
    rw [HE.out] at hE ⊢
    have hbe : (E != 0) = true := by rw [bne_iff_ne]; exact hE
    clear hE
    have S2 : Hid (SW w.heap.size w [cellOb (w.heap.size + 1) 36 #[.int .u64 0, .int .i64 0], cellOb w.heap.size 33 #[.int .i64 m.size, .slice A m.ids.length c]] ((w1.setCell ⟨w.heap.size + 1, 0, none⟩ (.int .u64 0)).setCell ⟨w.heap.size + 1, 1, none⟩ (.int .i64 0))) := (S1.out.setAt 0 rfl 0 (.int .u64 0)).setAt 0 rfl 1 (.int .i64 0)
    go_wp2_with fail
    clear S1 e0 e1 f0
    obtain ⟨w4, HW4⟩ : ∃ W, Hid ((w1.setCell ⟨w.heap.size + 1, 0, none⟩ (.int .u64 0)).setCell ⟨w.heap.size + 1, 1, none⟩ (.int .i64 0) = W) := ⟨_, rfl⟩
    rw [HW4.out] at S2 ⊢
    have e0 : w4.cell? ⟨w.heap.size + 1, 0, none⟩ = some (.int .u64 0) := (S2.out.cell 0 rfl).cell 0
    have e1 : w4.cell? ⟨w.heap.size + 1, 1, none⟩ = some (.int .i64 0) := (S2.out.cell 0 rfl).cell 1
    (try simp only [Exit.inBlock, Exit.then])
    refine bodyPost_ret (v := .tuple #[.agg #[.int .u64 0, .int .i64 0], .int .i64 E]) (by simp [results, Tryz.results31, go_sem, e0, e1, Result.andThen]) rfl ?_
    exact ⟨by rw [HW.out, HE.out], S2.out.2⟩
end Go.Proofs.YtmiknfneeipkeaaGreat
namespace Go.Proofs.YtmiknfneeipkeaaGreat
open Go.RowKit Go.MapKept Go.ChangeMaps Go.Shelf Go.Sort
attribute [local go_sem] wext_cell
set_option maxHeartbeats 4000000 in
theorem rWhole_any (x : Nat) (m : Man) (A : Option Addr) (c : Nat) (w : World) (hr : RdID w x A m.ids) (hn : m.ids.length ≤ 9223372036854775807) (hok : ∀ i ∈ m.ids, okID i) :
    Calls Tryz.prog 10 #[.agg #[.int .i64 m.size, .slice A m.ids.length c]] w (WholeE m w) := by
  have Hr := Lib.hid hr
  have Hok := Lib.hid hok
  clear hr hok
  have S0 := Lib.hid (((SW.refl (Sep.nil w (Nat.le_refl _))).newCell 33 #[.int .i64 m.size, .slice A m.ids.length c]).newCellAt 36 #[.int .u64 0, .int .i64 0] (H := w.heap.size + 1) (by simp))
  have HC := Lib.hid (rmanCheck_any x m A c _ (Hr.out.on S0.out.2) hn)
  go_enter Tryz.func10, Tryz.ntmps10
  go_wp2_with (go_at_call 37; (with_reducible refine HC.out.mono ?_); refine halt_ ?_)
  rintro e w1 ⟨rfl, hb1⟩
  have S1 := Lib.hid (S0.out.on hb1)
  clear hb1 S0 HC
  have f0 := fun o => (S1.out.cell 0 rfl).frozen o
  have e0 := (S1.out.cell 0 rfl).cell 0
  have e1 := (S1.out.cell 0 rfl).cell 1
  by_cases hE : manE m = 0
  · have HE := Lib.hid hE
    have HW : Hid ((if manE m = 0 then wholeP m.ids else (0, 0)) = wholeP m.ids) := if_pos hE
    rw [hE]
    clear hE
    have c1 := (S1.out.cell 1 rfl).cell 1
    go_upto_region 5 with fail
    obtain ⟨g5, HG⟩ : ∃ x, Hid (w1.heap.size = x) := ⟨_, rfl⟩
    have S2 := Lib.hid (S1.out.newCell 36 #[.int .u64 0, .int .i64 0])
    rw [HG.out] at S2 ⊢
    clear HG S1 f0 e0 e1 c1
    have c1 := (S2.out.cell 2 rfl).cell 1
    obtain ⟨w2, HW2⟩ : ∃ W, Hid (w1.alloc (.cells #[.int .u64 0, .int .i64 0] 36) = W) := ⟨_, rfl⟩
    rw [HW2.out] at S2 c1 ⊢
    clear HW2
    go_wp2_with fail
    go_loopw [6] (fun v6 wr => ∃ k : Nat, k ≤ m.ids.length ∧ v6 = .int .i64 (k : Int) ∧ SW w.heap.size w [cellOb g5 36 #[.int .u64 (wholeP (m.ids.take k)).1, .int .i64 (wholeP (m.ids.take k)).2], cellOb (w.heap.size + 1) 36 #[.int .u64 0, .int .i64 0], cellOb w.heap.size 33 #[.int .i64 m.size, .slice A m.ids.length c]] wr) (fun v6 _ => m.ids.length - (intOf v6).toNat)
    case atStart => exact ⟨0, Nat.zero_le _, rfl, S2.out⟩
    case round =>
      obtain ⟨k, hk, rfl, hs⟩ := hrel
      have S3 := Lib.hid hs
      clear hs S2
      have b1 := (S3.out.cell 2 rfl).cell 1
      have hl1 := (S3.out.cell 2 rfl).lt
      by_cases hlt : k < m.ids.length
      · obtain ⟨q1, q2, HQ⟩ : ∃ q1 q2, Hid (wholeP (m.ids.take k) = (q1, q2)) := ⟨_, _, rfl⟩
        obtain ⟨i1, i2, HI⟩ : ∃ i1 i2, Hid (m.ids.getD k (0, 0) = (i1, i2)) := ⟨_, _, rfl⟩
        have hwt := whole_take HE.out hlt
        have hmem := getD_mem m.ids (0, 0) k hlt
        have HN : Hid (wholeP (m.ids.take (k + 1)) = joinP (q1, q2) (i1, i2)) := by rw [Hid, take_snoc _ (0, 0) _ hlt, wholeP_snoc, HQ.out, HI.out]
        rw [HQ.out, HI.out] at hwt
        rw [HI.out] at hmem
        rw [HQ.out] at S3
        have HJ := Lib.hid (fun W => rJoin_any q1 q2 i1 i2 hwt.1 hwt.2.2.2 hwt.2.2.1 (okID_pos (Hok.out _ hmem)) hwt.2.1 W)
        obtain ⟨j1, j2, HJE⟩ : ∃ j1 j2, Hid (joinP (q1, q2) (i1, i2) = (j1, j2)) := ⟨_, _, rfl⟩
        rw [HJE.out] at HJ HN
        clear hwt hmem
        obtain ⟨gb, o, rfl, hB, hne, hc⟩ := Hr.out (by omega)
        have d0 : wr.cell? ⟨gb, o + k * 2, none⟩ = some (.int .u64 i1) := by rw [S3.out.2.cell (p := ⟨gb, o + k * 2, none⟩) hB]; exact hc k hlt 0 _ (by rw [HI.out]; rfl)
        have d1 : wr.cell? ⟨gb, o + k * 2 + 1, none⟩ = some (.int .i64 i2) := by rw [S3.out.2.cell (p := ⟨gb, o + k * 2 + 1, none⟩) hB]; exact hc k hlt 1 _ (by rw [HI.out]; rfl)
        have a0 := (S3.out.cell 0 rfl).cell 0
        have a1 := (S3.out.cell 0 rfl).cell 1
        have hl5 := (S3.out.cell 0 rfl).lt
        have hlb : gb < wr.heap.size := Nat.lt_of_lt_of_le hB S3.out.2.size
        clear hc
        go_upto_region 8 with fail
        go_region_with (go_at_call 38; (with_reducible refine (HJ.out _).mono ?_); rintro e w3 ⟨rfl, hb3⟩; have S5 := Lib.hid (S3.out.drew.on hb3); have a0 := ((S5.out.cell 0 rfl).cell 0); have a1 := ((S5.out.cell 0 rfl).cell 1); have f0 := fun o => (S5.out.cell 0 rfl).frozen o)
        all_goals (
          have S6 : Hid (SW w.heap.size w [cellOb g5 36 #[.int .u64 j1, .int .i64 j2], cellOb (w.heap.size + 1) 36 #[.int .u64 0, .int .i64 0], cellOb w.heap.size 33 #[.int .i64 m.size, .slice (some ⟨gb, o, none⟩) m.ids.length c]] ((w3.setCell ⟨g5, 0, none⟩ (.int .u64 j1)).setCell ⟨g5, 1, none⟩ (.int .i64 j2))) := ((S5.out.setAt 0 rfl 0 (.int .u64 j1)).setAt 0 rfl 1 (.int .i64 j2))
          clear S5 hb3 a0 a1 f0 S3 d0 d1 b1 hl1 hl5 hlb
          go_wp2_with fail
          go_roundw
          case rel => exact ⟨k + 1, by omega, by go_num, by rw [HN.out]; exact S6.out⟩
          case measure => simp [intOf]; omega)
      · obtain rfl : k = m.ids.length := by omega
        rw [List.take_length] at S3
        obtain ⟨q1, q2, HQ⟩ : ∃ q1 q2, Hid (wholeP m.ids = (q1, q2)) := ⟨_, _, rfl⟩
        rw [HQ.out] at S3
        have a0 := (S3.out.cell 0 rfl).cell 0
        have a1 := (S3.out.cell 0 rfl).cell 1
        have e0 := (S3.out.cell 1 rfl).cell 0
        have e1 := (S3.out.cell 1 rfl).cell 1
        have f0 := fun o => (S3.out.cell 1 rfl).frozen o
        go_wp2_with fail
        clear a0 a1 e0 e1 f0
        have S4 : Hid (SW w.heap.size w [cellOb g5 36 #[.int .u64 q1, .int .i64 q2], cellOb (w.heap.size + 1) 36 #[.int .u64 q1, .int .i64 q2], cellOb w.heap.size 33 #[.int .i64 m.size, .slice A m.ids.length c]] ((wr.setCell ⟨w.heap.size + 1, 0, none⟩ (.int .u64 q1)).setCell ⟨w.heap.size + 1, 1, none⟩ (.int .i64 q2))) := (S3.out.setAt 1 rfl 0 (.int .u64 q1)).setAt 1 rfl 1 (.int .i64 q2)
        obtain ⟨w4, HW4⟩ : ∃ W, Hid ((wr.setCell ⟨w.heap.size + 1, 0, none⟩ (.int .u64 q1)).setCell ⟨w.heap.size + 1, 1, none⟩ (.int .i64 q2) = W) := ⟨_, rfl⟩
        rw [HW4.out] at S4 ⊢
        have e0 : w4.cell? ⟨w.heap.size + 1, 0, none⟩ = some (.int .u64 q1) := (S4.out.cell 1 rfl).cell 0
        have e1 : w4.cell? ⟨w.heap.size + 1, 1, none⟩ = some (.int .i64 q2) := (S4.out.cell 1 rfl).cell 1
        (try simp only [Exit.inBlock, Exit.then])
        refine bodyPost_ret (v := .tuple #[.agg #[.int .u64 q1, .int .i64 q2], .int .i64 0]) (by simp [results, Tryz.results10, go_sem, e0, e1, Result.andThen]) rfl ?_
        exact ⟨by rw [HW.out, HE.out, HQ.out], S4.out.2⟩
  · have HW : Hid ((if manE m = 0 then wholeP m.ids else (0, 0)) = (0, 0)) := if_neg hE
    obtain ⟨E, HE⟩ : ∃ x, Hid (manE m = x) := ⟨_, rfl⟩
    rw [HE.out] at hE ⊢
    have hbe : (E != 0) = true := by rw [bne_iff_ne]; exact hE
    clear hE
    have S2 : Hid (SW w.heap.size w [cellOb (w.heap.size + 1) 36 #[.int .u64 0, .int .i64 0], cellOb w.heap.size 33 #[.int .i64 m.size, .slice A m.ids.length c]] ((w1.setCell ⟨w.heap.size + 1, 0, none⟩ (.int .u64 0)).setCell ⟨w.heap.size + 1, 1, none⟩ (.int .i64 0))) := (S1.out.setAt 0 rfl 0 (.int .u64 0)).setAt 0 rfl 1 (.int .i64 0)
    go_wp2_with fail
    clear S1 e0 e1 f0
    obtain ⟨w4, HW4⟩ : ∃ W, Hid ((w1.setCell ⟨w.heap.size + 1, 0, none⟩ (.int .u64 0)).setCell ⟨w.heap.size + 1, 1, none⟩ (.int .i64 0) = W) := ⟨_, rfl⟩
    rw [HW4.out] at S2 ⊢
    have e0 : w4.cell? ⟨w.heap.size + 1, 0, none⟩ = some (.int .u64 0) := (S2.out.cell 0 rfl).cell 0
    have e1 : w4.cell? ⟨w.heap.size + 1, 1, none⟩ = some (.int .i64 0) := (S2.out.cell 0 rfl).cell 1
    (try simp only [Exit.inBlock, Exit.then])
    refine bodyPost_ret (v := .tuple #[.agg #[.int .u64 0, .int .i64 0], .int .i64 E]) (by simp [results, Tryz.results10, go_sem, e0, e1, Result.andThen]) rfl ?_
    exact ⟨by rw [HW.out, HE.out], S2.out.2⟩
end Go.Proofs.YtmiknfneeipkeaaGreat
namespace Go.Proofs.YtmiknfneeipkeaaGreat
open Go.RowKit Go.MapKept Go.ChangeMaps Go.Shelf Go.Sort
attribute [local go_sem] wext_cell
theorem cmpID_zero {x y : ID} : cmpID x y = 0 ↔ x = y := by
  obtain ⟨a, b⟩ := x
  obtain ⟨c, d⟩ := y
  unfold cmpID orI Lib.compareInt
  simp only [Prod.mk.injEq]
  repeat' split
  all_goals (first | omega | simp_all)
abbrev AscI (t : List ID) : Prop := t.Pairwise (fun a b => ltID a b = true)
def BsPost (t : List ID) (i : ID) (w : World) (e : Ending) (w' : World) : Prop :=
  Below w.heap.size w w' ∧ ((∃ (k : Nat), k < t.length ∧ t.getD k id0 = i ∧ e = .returned (.tuple #[.int .i64 k, .bool true])) ∨ ∃ k : Nat, i ∉ t ∧ e = .returned (.tuple #[.int .i64 k, .bool false]))
theorem asc_getD {t : List ID} (h : AscI t) {i j : Nat} (hj : j < t.length) (hij : i < j) : ltID (t.getD i id0) (t.getD j id0) = true := by
  have := List.pairwise_iff_getElem.1 h i j (by omega) hj hij
  simpa [List.getD_eq_getElem?_getD, hj, show i < t.length by omega] using this
theorem bs_none {t : List ID} (h : AscI t) {i : ID} {k : Nat} (h1 : ∀ j, j < k → ltID (t.getD j id0) i = true) (h2 : ∀ j, k ≤ j → j < t.length → ltID (t.getD j id0) i = false) (h3 : k < t.length → (t.getD k id0) ≠ i) : i ∉ t := by
  intro hm
  obtain ⟨j, hj, e⟩ := List.mem_iff_getElem.1 hm
  have e' : t.getD j id0 = i := by simpa [List.getD_eq_getElem?_getD, hj] using e
  rcases Nat.lt_trichotomy j k with hlt | rfl | hgt
  · have := h1 j hlt
    rw [e', ltID_irrefl] at this
    cases this
  · exact h3 hj (by rw [e'])
  · have a := asc_getD h hj hgt
    rw [e'] at a
    rw [h2 k (Nat.le_refl _) (by omega)] at a
    cases a
end Go.Proofs.YtmiknfneeipkeaaGreat
namespace Go.Proofs.YtmiknfneeipkeaaGreat
open Go.RowKit Go.MapKept Go.ChangeMaps Go.Shelf Go.Sort
attribute [local go_sem] wext_cell
section
variable {b : Nat} {w0 w w' : World} {l t : List Ob}
theorem take_id {l : List ID} {k : Nat} (h : k < l.length) : l.take (k + 1) = l.take k ++ [l.getD k id0] := by
  rw [List.take_succ_eq_append_getElem h, List.getD_eq_getElem?_getD, List.getElem?_eq_getElem h]
  rfl
end
end Go.Proofs.YtmiknfneeipkeaaGreat
namespace Go.Proofs.YtmiknfneeipkeaaGreat
open Go.RowKit Go.MapKept Go.ChangeMaps Go.Shelf Go.Sort
attribute [local go_sem] wext_cell
theorem setR_small {ms : List Man} (he : errM ms = 0) (hn : ms.length ≤ 90) : (setR (idsOf ms)).length ≤ 92160 := by
  have h1 := setR_len (idsOf ms)
  have h2 := idsOf_len he
  omega
section
variable {b : Nat} {w0 w w' : World} {l t : List Ob}
end
end Go.Proofs.YtmiknfneeipkeaaGreat
