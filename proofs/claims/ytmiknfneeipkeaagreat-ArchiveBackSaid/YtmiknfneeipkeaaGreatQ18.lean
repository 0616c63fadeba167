/- Contracts of the walk, part 18. -/
import Derived.BigRegion
import Derived.Handy
import Derived.Test.YtmiknfneeipkeaaGreatQ17
import Derived.Test.YtmiknfneeipkeaaGreatQ11
import Derived.Test.YtmiknfneeipkeaaGreatQ02
import Derived.Test.YtmiknfneeipkeaaGreatQ10
import Derived.Test.YtmiknfneeipkeaaGreatQ16
import Derived.Test.YtmiknfneeipkeaaGreatQ12
namespace Go.Proofs.YtmiknfneeipkeaaGreat
open Go.RowKit Go.MapKept Go.ChangeMaps Go.Shelf Go.Sort
attribute [local go_sem] wext_cell
def powP (n : Nat) : Nat := pB ^ n % pP
theorem powP_lt (n : Nat) : powP n < pP := Nat.mod_lt _ pP_pos
theorem powP_zero : powP 0 = 1 := by
  unfold powP pP
  rw [Nat.pow_zero]
theorem powP_one : powP 1 = 747382712868975713 := by
  unfold powP pP pB
  rw [Nat.pow_one]
theorem powP_add (a b : Nat) : powP a * powP b % pP = powP (a + b) := by
  unfold powP
  rw [Nat.pow_add, ← Nat.mul_mod]
theorem bit_step (n i : Nat) : n % 2 ^ (i + 1) = n % 2 ^ i + 2 ^ i * (n / 2 ^ i % 2) := by
  rw [Nat.pow_succ, Nat.mod_mul]
theorem two_pow_double (i : Nat) : 2 ^ i + 2 ^ i = 2 ^ (i + 1) := by rw [Nat.pow_succ]; omega
theorem bitLenAux_lt : ∀ (f x : Nat), x < 2 ^ f → x < 2 ^ Lib.bitLenAux f x
  | 0, x, h => by simpa [Lib.bitLenAux] using h
  | f + 1, x, h => by
    simp only [Lib.bitLenAux]
    by_cases h0 : x = 0
    · subst h0; simp
    · rw [if_neg h0, Nat.add_comm, Nat.pow_succ]
      have := bitLenAux_lt f (x / 2) (by rw [Nat.pow_succ] at h; omega)
      omega
theorem bitLen_bd (n : Nat) (hn : n ≤ 1048576) : Lib.bitLen n ≤ 21 ∧ n < 2 ^ Lib.bitLen n :=
  ⟨Lib.bitLen_le n 21 (by omega) (by omega), bitLenAux_lt 64 n (by omega)⟩
theorem and_one (x : Nat) (hx : x < 9223372036854775808) : bits .and .i64 (x : Int) 1 = ((x % 2 : Nat) : Int) := by
  have h1 : (BitVec.ofInt 64 (x : Int)).toNat = x := by
    rw [BitVec.ofInt_natCast, BitVec.toNat_ofNat]; exact Nat.mod_eq_of_lt (by omega)
  have h2 : (BitVec.ofInt 64 (1 : Int)).toNat = 1 := by decide
  show IntKind.i64.wrap ((BitVec.ofInt 64 (x : Int) &&& BitVec.ofInt 64 (1 : Int)).toNat : Int) = _
  rw [BitVec.toNat_and, h1, h2, Nat.and_one_is_mod]
  have h3 := Nat.mod_two_eq_zero_or_one x
  rcases h3 with h | h <;> rw [h] <;> rfl
set_option maxHeartbeats 2000000 in
theorem Power_any (n : Nat) (hn : n ≤ 1048576) (w : World) : Calls Tryz.prog 121 #[.int .i64 (n : Int)] w fun e w' => e = .returned (.int .u64 ((powP n : Nat) : Int)) ∧ w = w' := by
  have HB := Lib.hid (bitLen_bd n hn)
  have HL := Lib.hid (Tryz.bits_Len (n : Int) w (by omega) (by omega))
  rw [Int.toNat_natCast] at HL
  obtain ⟨q, HQ⟩ : ∃ q, Hid (Lib.bitLen n = q) := ⟨_, rfl⟩
  rw [HQ.out] at HL HB
  have hq : q ≤ 21 := HB.out.1
  go_enter Tryz.func121, Tryz.ntmps121
  go_wp2_with (go_at_call 127; (with_reducible refine HL.out.mono ?_); rintro e w' ⟨rfl, hw⟩; rw [hw])
  go_loop [3, 4, 15] (fun v3 v4 v15 => ∃ i : Nat, i ≤ q ∧ v15 = .int .i64 (i : Int) ∧ v3 = .int .u64 ((powP (n % 2 ^ i) : Nat) : Int) ∧ v4 = .int .u64 ((powP (2 ^ i) : Nat) : Int)) (fun _ _ v15 => q - (intOf v15).toNat)
  case atStart => exact ⟨0, Nat.zero_le _, rfl, by rw [Nat.pow_zero, Nat.mod_one, powP_zero]; rfl, by rw [Nat.pow_zero, powP_one]; rfl⟩
  case round =>
    obtain ⟨i, hi, rfl, rfl, rfl⟩ := hrel
    by_cases hlt : i < q
    · have hsq := Lib.hid (powP_add (2 ^ i) (2 ^ i))
      rw [two_pow_double] at hsq
      have hst := Lib.hid (bit_step n i)
      have hpw := Lib.hid (powP_add (n % 2 ^ i) (2 ^ i))
      have HM := Lib.hid (fmul_any (powP (2 ^ i)) (powP (2 ^ i)) w (powP_lt _) (powP_lt _))
      have HM2 := Lib.hid (fmul_any (powP (n % 2 ^ i)) (powP (2 ^ i)) w (powP_lt _) (powP_lt _))
      rw [hsq.out] at HM
      rw [hpw.out] at HM2
      have hb : bits .and .i64 ((n : Int) / 2 ^ i) 1 = ((n / 2 ^ i % 2 : Nat) : Int) := by
        have := and_one (n / 2 ^ i) (Nat.lt_of_le_of_lt (Nat.div_le_self _ _) (by omega))
        rw [← this]
        congr 1
      have h01 := Nat.mod_two_eq_zero_or_one (n / 2 ^ i)
      generalize n / 2 ^ i % 2 = bt at hst hb h01
      go_upto_if 22 with fail
      clear hb
      rcases h01 with rfl | rfl
      · have he : powP (n % 2 ^ (i + 1)) = powP (n % 2 ^ i) := by rw [hst.out, Nat.mul_zero, Nat.add_zero]
        have HE := Lib.hid he
        clear he hst
        go_wp2_with (go_at_call 120; (with_reducible refine HM.out.mono ?_); rintro e w' ⟨rfl, rfl⟩)
        go_round
        case rel => exact ⟨i + 1, by omega, by go_num, by rw [HE.out], rfl⟩
        case measure => simp [intOf]; omega
      · have he : powP (n % 2 ^ (i + 1)) = powP (n % 2 ^ i + 2 ^ i) := by rw [hst.out, Nat.mul_one]
        have HE := Lib.hid he
        clear he hst
        go_wp2_with (go_at_call 120; first | (with_reducible refine HM2.out.mono ?_) | (with_reducible refine HM.out.mono ?_); rintro e w' ⟨rfl, rfl⟩)
        go_round
        case rel => exact ⟨i + 1, by omega, by go_num, by rw [HE.out], rfl⟩
        case measure => simp [intOf]; omega
    · obtain rfl : i = q := by omega
      rw [Nat.mod_eq_of_lt HB.out.2]
      go_wp2_with fail
      go_ret
      exact ⟨rfl, rfl⟩
end Go.Proofs.YtmiknfneeipkeaaGreat
namespace Go.Proofs.YtmiknfneeipkeaaGreat
open Go.RowKit Go.MapKept Go.ChangeMaps Go.Shelf Go.Sort
attribute [local go_sem] wext_cell
def joinP (a b : ID) : ID := ((((a.1.toNat * powP b.2.toNat + b.1.toNat) % pP : Nat) : Int), a.2 + b.2)
theorem validB_bd {i : ID} (h : validB i = true) : 0 ≤ i.2 ∧ i.2 ≤ 1048576 ∧ i.1 < 2305843009213693951 := by
  simp only [validB, Bool.and_eq_true, decide_eq_true_eq] at h
  omega
set_option maxHeartbeats 4000000 in
theorem Join_any (a1 a2 b1 b2 : Int) (ha : validB (a1, a2) = true) (hb : validB (b1, b2) = true) (ha0 : 0 ≤ a1) (hb0 : 0 ≤ b1) (hs : a2 + b2 ≤ 1048576) (w : World) :
    Calls Tryz.prog 75 #[.agg #[.int .u64 a1, .int .i64 a2], .agg #[.int .u64 b1, .int .i64 b2]] w (fun e w' => e = .returned (.tuple #[.agg #[.int .u64 (joinP (a1, a2) (b1, b2)).1, .int .i64 (joinP (a1, a2) (b1, b2)).2], .int .i64 0]) ∧ Below w.heap.size w w') := by
  obtain ⟨n1, rfl⟩ : ∃ n : Nat, a1 = (n : Int) := ⟨a1.toNat, by omega⟩
  obtain ⟨m1, rfl⟩ : ∃ n : Nat, b1 = (n : Int) := ⟨b1.toNat, by omega⟩
  have h1 := validB_bd ha
  have h2 := validB_bd hb
  simp only at h1 h2
  obtain ⟨n2, rfl⟩ : ∃ n : Nat, a2 = (n : Int) := ⟨a2.toNat, by omega⟩
  obtain ⟨m2, rfl⟩ : ∃ n : Nat, b2 = (n : Int) := ⟨b2.toNat, by omega⟩
  have HV1 := Lib.hid (fun W => Valid_any (n1 : Int) (n2 : Int) W)
  have HV2 := Lib.hid (fun W => Valid_any (m1 : Int) (m2 : Int) W)
  rw [ha] at HV1
  rw [hb] at HV2
  have HPW := Lib.hid (fun W => Power_any m2 (by omega) W)
  have HMU := Lib.hid (fun W => fmul_any n1 (powP m2) W (by omega) (powP_lt _))
  have hmt : n1 * powP m2 % pP < pP := Nat.mod_lt _ pP_pos
  have HAD := Lib.hid (fun W => fadd_any (n1 * powP m2 % pP) m1 W hmt (by omega))
  rw [Nat.mod_add_mod] at HAD
  have HR : Hid (joinP ((n1 : Int), (n2 : Int)) ((m1 : Int), (m2 : Int)) = ((((n1 * powP m2 + m1) % pP : Nat) : Int), (n2 : Int) + (m2 : Int))) := rfl
  rw [HR.out]
  obtain ⟨pw, HPE⟩ : ∃ x, Hid (powP m2 = x) := ⟨_, rfl⟩
  rw [HPE.out] at HPW HMU HAD ⊢
  obtain ⟨mu, HME⟩ : ∃ x, Hid (n1 * pw % pP = x) := ⟨_, rfl⟩
  rw [HME.out] at HMU HAD
  obtain ⟨sm, HSE⟩ : ∃ x, Hid ((n1 * pw + m1) % pP = x) := ⟨_, rfl⟩
  rw [HSE.out] at HAD ⊢
  clear hmt ha hb ha0 hb0 HR
  have S0 := Lib.hid ((((SW.refl (Sep.nil w (Nat.le_refl _))).newCell 36 #[.int .u64 (n1 : Int), .int .i64 (n2 : Int)]).newCellAt 36 #[.int .u64 (m1 : Int), .int .i64 (m2 : Int)] (H := w.heap.size + 1) (by simp)).newCellAt 36 #[.int .u64 0, .int .i64 0] (H := w.heap.size + 1 + 1) (by simp))
  go_enter Tryz.func75, Tryz.ntmps75
  go_wp2_with (go_at_call 112; (with_reducible refine (HV1.out _).mono ?_); refine halt_ ?_)
  rintro e w1 ⟨rfl, hb1⟩
  have S1 := Lib.hid (S0.out.on hb1)
  clear hb1 S0
  have c0 := (S1.out.cell 2 rfl).cell 0
  have c1 := (S1.out.cell 2 rfl).cell 1
  have d0 := (S1.out.cell 1 rfl).cell 0
  have d1 := (S1.out.cell 1 rfl).cell 1
  go_wp2_with (go_at_call 112; (with_reducible refine (HV2.out _).mono ?_); refine halt_ ?_)
  rintro e w2 ⟨rfl, hb2⟩
  have S2 := Lib.hid (S1.out.on hb2)
  clear hb2 S1 c0 c1 d0 d1
  have c0 := (S2.out.cell 2 rfl).cell 0
  have c1 := (S2.out.cell 2 rfl).cell 1
  have d0 := (S2.out.cell 1 rfl).cell 0
  have d1 := (S2.out.cell 1 rfl).cell 1
  have hl0 := (S2.out.cell 2 rfl).lt
  have hl1 := (S2.out.cell 1 rfl).lt
  go_upto_region 5 with fail
  refine wp_region_ext_tail 15 (by kernel_rfl) (by kernel_rfl) ?_
  simp only [List.take_succ_cons, List.take_zero, List.drop_succ_cons, List.drop_zero]
  repeat (go_big_quiet_step ((first | (go_at_call 121; exact ext_call ((HPW.out _).mono (fun e W h => ⟨h.1, h.2 ▸ Below.refl _ _⟩))) | (go_at_call 120; exact ext_call ((HMU.out _).mono (fun e W h => ⟨h.1, h.2 ▸ Below.refl _ _⟩))) | (go_at_call 119; exact ext_call ((HAD.out _).mono (fun e W h => ⟨h.1, h.2 ▸ Below.refl _ _⟩))))))
  refine wpQuiet_nil ?_
  intro w3 hb3
  have S3 := Lib.hid (S2.out.on hb3)
  clear hb3 S2 c0 c1 d0 d1
  have e0 := (S3.out.cell 0 rfl).cell 0
  have e1 := (S3.out.cell 0 rfl).cell 1
  have f0 := fun o => (S3.out.cell 0 rfl).frozen o
  go_wp2_with fail
  have S4 : Hid (SW w.heap.size w [cellOb (w.heap.size + 1 + 1) 36 #[.int .u64 sm, .int .i64 ((n2 : Int) + m2)], cellOb (w.heap.size + 1) 36 #[.int .u64 (m1 : Int), .int .i64 (m2 : Int)], cellOb w.heap.size 36 #[.int .u64 (n1 : Int), .int .i64 (n2 : Int)]] ((w3.setCell ⟨w.heap.size + 1 + 1, 0, none⟩ (.int .u64 sm)).setCell ⟨w.heap.size + 1 + 1, 1, none⟩ (.int .i64 ((n2 : Int) + m2)))) := (S3.out.setAt 0 rfl 0 (.int .u64 sm)).setAt 0 rfl 1 (.int .i64 ((n2 : Int) + m2))
  clear S3 e0 e1 f0
  obtain ⟨w4, HW4⟩ : ∃ W, Hid ((w3.setCell ⟨w.heap.size + 1 + 1, 0, none⟩ (.int .u64 sm)).setCell ⟨w.heap.size + 1 + 1, 1, none⟩ (.int .i64 ((n2 : Int) + m2)) = W) := ⟨_, rfl⟩
  rw [HW4.out] at S4 ⊢
  have e0 : w4.cell? ⟨w.heap.size + 1 + 1, 0, none⟩ = some (.int .u64 sm) := (S4.out.cell 0 rfl).cell 0
  have e1 : w4.cell? ⟨w.heap.size + 1 + 1, 1, none⟩ = some (.int .i64 ((n2 : Int) + m2)) := (S4.out.cell 0 rfl).cell 1
  have HBB := Lib.hid S4.out.2
  clear HW4 S4
  (try simp only [Exit.inBlock, Exit.then])
  refine bodyPost_ret (v := .tuple #[.agg #[.int .u64 sm, .int .i64 ((n2 : Int) + m2)], .int .i64 0]) (by simp [results, Tryz.results75, go_sem, e0, e1, Result.andThen]) rfl ?_
  exact ⟨rfl, HBB.out⟩
end Go.Proofs.YtmiknfneeipkeaaGreat
namespace Go.Proofs.YtmiknfneeipkeaaGreat
open Go.RowKit Go.MapKept Go.ChangeMaps Go.Shelf Go.Sort
attribute [local go_sem] wext_cell
def wholeP (l : List ID) : ID := l.foldl joinP (0, 0)
theorem wholeP_snoc (l : List ID) (i : ID) : wholeP (l ++ [i]) = joinP (wholeP l) i := by simp [wholeP]
theorem chunkB_valid {i : ID} (h : chunkB i = true) : validB i = true := by
  simp only [chunkB, Bool.and_eq_true] at h
  exact h.1.1
theorem wholeP_ok : ∀ (k : Nat) (l : List ID), l.length = k → l.all chunkB = true → sumZ l ≤ 1048576 → validB (wholeP l) = true ∧ (wholeP l).2 = sumZ l ∧ 0 ≤ (wholeP l).1
  | 0, l, hk, _, _ => by
    obtain rfl := List.eq_nil_of_length_eq_zero hk
    exact ⟨by decide, rfl, by decide⟩
  | k + 1, l, hk, ha, hs => by
    rcases List.eq_nil_or_concat l with rfl | ⟨l, i, rfl⟩
    · simp at hk
    · rw [List.concat_eq_append] at *
      rw [List.all_append, Bool.and_eq_true] at ha
      have hi : chunkB i = true := by simpa using ha.2
      have hib := chunkB_sound hi
      rw [sumZ_snoc] at hs ⊢
      have hp := sum_take_bd (l := l) (k := l.length) (by rw [List.take_length]; exact ha.1)
      rw [List.take_length] at hp
      obtain ⟨h1, h2, h3⟩ := wholeP_ok k l (by simpa using hk) ha.1 (by omega)
      rw [wholeP_snoc]
      refine ⟨?_, ?_, ?_⟩
      · have e : joinP (wholeP l) i = ((((( (wholeP l).1.toNat * powP i.2.toNat + i.1.toNat) % pP : Nat)) : Int), (wholeP l).2 + i.2) := rfl
        have hm : ((wholeP l).1.toNat * powP i.2.toNat + i.1.toNat) % pP < pP := Nat.mod_lt _ pP_pos
        rw [e]
        unfold pP at hm ⊢
        simp only [validB, Bool.and_eq_true, Bool.or_eq_true, decide_eq_true_eq, beq_iff_eq]
        omega
      · show (wholeP l).2 + i.2 = _
        rw [h2]
      · show (0 : Int) ≤ (((_ : Nat)) : Int)
        omega
theorem manE_zero {m : Man} (h : manE m = 0) : m.ids.all chunkB = true ∧ m.size = sumZ m.ids ∧ m.size ≤ 1048576 := by
  have h1 := manE_all h
  have h2 := manE_end (manE_len h) h1
  rw [h] at h2
  by_cases hc : m.size = sumZ m.ids ∧ m.size ≤ 1048576
  · exact ⟨h1, hc⟩
  · rw [if_neg hc] at h2
    omega
theorem whole_take {m : Man} (h : manE m = 0) {k : Nat} (hk : k < m.ids.length) : validB (wholeP (m.ids.take k)) = true ∧ (wholeP (m.ids.take k)).2 + (m.ids.getD k (0, 0)).2 ≤ 1048576 ∧ 0 ≤ (wholeP (m.ids.take k)).1 ∧ validB (m.ids.getD k (0, 0)) = true := by
  obtain ⟨h1, h2, h3⟩ := manE_zero h
  have e : m.ids = m.ids.take (k + 1) ++ m.ids.drop (k + 1) := (List.take_append_drop _ _).symm
  have hs : sumZ m.ids = sumZ (m.ids.take (k + 1)) + sumZ (m.ids.drop (k + 1)) := by
    conv => lhs; rw [e]
    show ((m.ids.take (k + 1) ++ m.ids.drop (k + 1)).map _).sum = _
    rw [List.map_append, List.sum_append]
    rfl
  have ha : (m.ids.take (k + 1)).all chunkB = true ∧ (m.ids.drop (k + 1)).all chunkB = true := by
    rw [e, List.all_append, Bool.and_eq_true] at h1
    exact h1
  have hd := sum_take_bd (l := m.ids.drop (k + 1)) (k := (m.ids.drop (k + 1)).length) (by rw [List.take_length]; exact ha.2)
  rw [List.take_length] at hd
  have ht := take_snoc m.ids (0, 0) k hk
  rw [ht] at hs ha
  rw [sumZ_snoc] at hs
  rw [List.all_append, Bool.and_eq_true] at ha
  have hi : chunkB (m.ids.getD k (0, 0)) = true := by simpa using ha.1.2
  have hib := chunkB_sound hi
  obtain ⟨w1, w2, w3⟩ := wholeP_ok _ (m.ids.take k) rfl ha.1.1 (by omega)
  exact ⟨w1, by rw [w2]; omega, w3, chunkB_valid hi⟩
theorem okID_pos {i1 i2 : Int} (h : okID (i1, i2)) : 0 ≤ i1 := by
  have := h.1
  rw [Lit.wf, Bool.and_eq_true, decide_eq_true_eq] at this
  exact this.1
abbrev WholeE (m : Man) (w : World) (e : Ending) (w' : World) : Prop :=
  e = .returned (.tuple #[.agg #[.int .u64 (if manE m = 0 then wholeP m.ids else (0, 0)).1, .int .i64 (if manE m = 0 then wholeP m.ids else (0, 0)).2], .int .i64 (manE m)]) ∧ Below w.heap.size w w'
set_option maxHeartbeats 4000000 in
theorem Whole_any (x : Nat) (m : Man) (A : Option Addr) (c : Nat) (w : World) (hr : RdID w x A m.ids) (hn : m.ids.length ≤ 9223372036854775807) (hok : ∀ i ∈ m.ids, okID i) :
    Calls Tryz.prog 31 #[.agg #[.int .i64 m.size, .slice A m.ids.length c]] w (WholeE m w) := by
  have Hr := Lib.hid hr
  have Hok := Lib.hid hok
  clear hr hok
  have S0 := Lib.hid (((SW.refl (Sep.nil w (Nat.le_refl _))).newCell 33 #[.int .i64 m.size, .slice A m.ids.length c]).newCellAt 36 #[.int .u64 0, .int .i64 0] (H := w.heap.size + 1) (by simp))
  have HC := Lib.hid (manCheck_any x m A c _ (Hr.out.on S0.out.2) hn)
  go_enter Tryz.func31, Tryz.ntmps31
  go_wp2_with (go_at_call 74; (with_reducible refine HC.out.mono ?_); refine halt_ ?_)
  rintro e w1 ⟨rfl, hb1⟩
  have S1 := Lib.hid (S0.out.on hb1)
  clear hb1 S0 HC
  have f0 := fun o => (S1.out.cell 0 rfl).frozen o
  have e0 := (S1.out.cell 0 rfl).cell 0
  have e1 := (S1.out.cell 0 rfl).cell 1
  by_cases hE : manE m = 0
  · have HE := Lib.hid hE
    have HW : Hid ((if manE m = 0 then wholeP m.ids else (0, 0)) = wholeP m.ids) := if_pos hE
    rw [hE]
    clear hE
    have c1 := (S1.out.cell 1 rfl).cell 1
    go_upto_region 5 with fail
    obtain ⟨g5, HG⟩ : ∃ x, Hid (w1.heap.size = x) := ⟨_, rfl⟩
    have S2 := Lib.hid (S1.out.newCell 36 #[.int .u64 0, .int .i64 0])
    rw [HG.out] at S2 ⊢
    clear HG S1 f0 e0 e1 c1
    have c1 := (S2.out.cell 2 rfl).cell 1
    obtain ⟨w2, HW2⟩ : ∃ W, Hid (w1.alloc (.cells #[.int .u64 0, .int .i64 0] 36) = W) := ⟨_, rfl⟩
    rw [HW2.out] at S2 c1 ⊢
    clear HW2
    go_wp2_with fail
    go_loopw [19] (fun v19 wr => ∃ k : Nat, k ≤ m.ids.length ∧ v19 = .int .i64 (k : Int) ∧ SW w.heap.size w [cellOb g5 36 #[.int .u64 (wholeP (m.ids.take k)).1, .int .i64 (wholeP (m.ids.take k)).2], cellOb (w.heap.size + 1) 36 #[.int .u64 0, .int .i64 0], cellOb w.heap.size 33 #[.int .i64 m.size, .slice A m.ids.length c]] wr) (fun v19 _ => m.ids.length - (intOf v19).toNat)
    case atStart => exact ⟨0, Nat.zero_le _, rfl, S2.out⟩
    case round =>
      obtain ⟨k, hk, rfl, hs⟩ := hrel
      have S3 := Lib.hid hs
      clear hs S2
      by_cases hlt : k < m.ids.length
      · obtain ⟨q1, q2, HQ⟩ : ∃ q1 q2, Hid (wholeP (m.ids.take k) = (q1, q2)) := ⟨_, _, rfl⟩
        obtain ⟨i1, i2, HI⟩ : ∃ i1 i2, Hid (m.ids.getD k (0, 0) = (i1, i2)) := ⟨_, _, rfl⟩
        have hwt := whole_take HE.out hlt
        have hmem := getD_mem m.ids (0, 0) k hlt
        have HN : Hid (wholeP (m.ids.take (k + 1)) = joinP (q1, q2) (i1, i2)) := by rw [Hid, take_snoc _ (0, 0) _ hlt, wholeP_snoc, HQ.out, HI.out]
        rw [HQ.out, HI.out] at hwt
        rw [HI.out] at hmem
        rw [HQ.out] at S3
        have HJ := Lib.hid (fun W => Join_any q1 q2 i1 i2 hwt.1 hwt.2.2.2 hwt.2.2.1 (okID_pos (Hok.out _ hmem)) hwt.2.1 W)
        obtain ⟨j1, j2, HJE⟩ : ∃ j1 j2, Hid (joinP (q1, q2) (i1, i2) = (j1, j2)) := ⟨_, _, rfl⟩
        rw [HJE.out] at HJ HN
        clear hwt hmem
        obtain ⟨gb, o, rfl, hB, hne, hc⟩ := Hr.out (by omega)
        have d0 : wr.cell? ⟨gb, o + k * 2, none⟩ = some (.int .u64 i1) := by rw [S3.out.2.cell (p := ⟨gb, o + k * 2, none⟩) hB]; exact hc k hlt 0 _ (by rw [HI.out]; rfl)
        have d1 : wr.cell? ⟨gb, o + k * 2 + 1, none⟩ = some (.int .i64 i2) := by rw [S3.out.2.cell (p := ⟨gb, o + k * 2 + 1, none⟩) hB]; exact hc k hlt 1 _ (by rw [HI.out]; rfl)
        have a0 := (S3.out.cell 0 rfl).cell 0
        have a1 := (S3.out.cell 0 rfl).cell 1
        have hl5 := (S3.out.cell 0 rfl).lt
        clear hc
        have S4 := Lib.hid (S3.out.newCell 36 #[.int .u64 i1, .int .i64 i2])
        go_wp2_with (go_at_call 75; (with_reducible refine (HJ.out _).mono ?_); refine halt_ ?_)
        rintro e w3 rfl hb3
        rw [← World.size_alloc wr (.cells #[.int .u64 i1, .int .i64 i2] 36)] at hb3
        have hl3 : g5 < w3.heap.size := Nat.lt_of_lt_of_le hl5 (Nat.le_trans (by rw [World.size_alloc]; exact Nat.le_succ _) hb3.size)
        have S5 := Lib.hid (S4.out.on hb3)
        clear hb3 S4 S3 d0 d1 a0 a1
        have a0 := ((S5.out.cell 1 rfl).cell 0)
        have a1 := ((S5.out.cell 1 rfl).cell 1)
        have f0 := fun o => (S5.out.cell 1 rfl).frozen o
        have S6 : Hid (SW w.heap.size w [cellOb g5 36 #[.int .u64 j1, .int .i64 j2], cellOb (w.heap.size + 1) 36 #[.int .u64 0, .int .i64 0], cellOb w.heap.size 33 #[.int .i64 m.size, .slice (some ⟨gb, o, none⟩) m.ids.length c]] (((w3.setCell ⟨g5, 0, none⟩ (.int .u64 j1)).setCell ⟨g5, 1, none⟩ (.int .i64 j2)).alloc (.cells #[.int .u64 j1, .int .i64 j2] 36))) := (((S5.out.setAt 1 rfl 0 (.int .u64 j1)).setAt 1 rfl 1 (.int .i64 j2)).newCell 36 #[.int .u64 j1, .int .i64 j2]).tail.tail
        go_wp2_with fail
        go_roundw
        case rel => exact ⟨k + 1, by omega, by go_num, by rw [HN.out]; exact S6.out⟩
        case measure => simp [intOf]; omega
      · obtain rfl : k = m.ids.length := by omega
        rw [List.take_length] at S3
        obtain ⟨q1, q2, HQ⟩ : ∃ q1 q2, Hid (wholeP m.ids = (q1, q2)) := ⟨_, _, rfl⟩
        rw [HQ.out] at S3
        have a0 := (S3.out.cell 0 rfl).cell 0
        have a1 := (S3.out.cell 0 rfl).cell 1
        have e0 := (S3.out.cell 1 rfl).cell 0
        have e1 := (S3.out.cell 1 rfl).cell 1
        have f0 := fun o => (S3.out.cell 1 rfl).frozen o
        go_wp2_with fail
        clear a0 a1 e0 e1 f0
        have S4 : Hid (SW w.heap.size w [cellOb g5 36 #[.int .u64 q1, .int .i64 q2], cellOb (w.heap.size + 1) 36 #[.int .u64 q1, .int .i64 q2], cellOb w.heap.size 33 #[.int .i64 m.size, .slice A m.ids.length c]] ((wr.setCell ⟨w.heap.size + 1, 0, none⟩ (.int .u64 q1)).setCell ⟨w.heap.size + 1, 1, none⟩ (.int .i64 q2))) := (S3.out.setAt 1 rfl 0 (.int .u64 q1)).setAt 1 rfl 1 (.int .i64 q2)
        obtain ⟨w4, HW4⟩ : ∃ W, Hid ((wr.setCell ⟨w.heap.size + 1, 0, none⟩ (.int .u64 q1)).setCell ⟨w.heap.size + 1, 1, none⟩ (.int .i64 q2) = W) := ⟨_, rfl⟩
        rw [HW4.out] at S4 ⊢
        have e0 : w4.cell? ⟨w.heap.size + 1, 0, none⟩ = some (.int .u64 q1) := (S4.out.cell 1 rfl).cell 0
        have e1 : w4.cell? ⟨w.heap.size + 1, 1, none⟩ = some (.int .i64 q2) := (S4.out.cell 1 rfl).cell 1
        (try simp only [Exit.inBlock, Exit.then])
        refine bodyPost_ret (v := .tuple #[.agg #[.int .u64 q1, .int .i64 q2], .int .i64 0]) (by simp [results, Tryz.results31, go_sem, e0, e1, Result.andThen]) rfl ?_
        exact ⟨by rw [HW.out, HE.out, HQ.out], S4.out.2⟩
  · have HW : Hid ((if manE m = 0 then wholeP m.ids else (0, 0)) = (0, 0)) := if_neg hE
    obtain ⟨E, HE⟩ : ∃ x, Hid (manE m = x) := ⟨_, rfl⟩
    rw [HE.out] at hE ⊢
    have hbe : (E != 0) = true := by rw [bne_iff_ne]; exact hE
    clear hE
    have S2 : Hid (SW w.heap.size w [cellOb (w.heap.size + 1) 36 #[.int .u64 0, .int .i64 0], cellOb w.heap.size 33 #[.int .i64 m.size, .slice A m.ids.length c]] ((w1.setCell ⟨w.heap.size + 1, 0, none⟩ (.int .u64 0)).setCell ⟨w.heap.size + 1, 1, none⟩ (.int .i64 0))) := (S1.out.setAt 0 rfl 0 (.int .u64 0)).setAt 0 rfl 1 (.int .i64 0)
    go_wp2_with fail
    clear S1 e0 e1 f0
    obtain ⟨w4, HW4⟩ : ∃ W, Hid ((w1.setCell ⟨w.heap.size + 1, 0, none⟩ (.int .u64 0)).setCell ⟨w.heap.size + 1, 1, none⟩ (.int .i64 0) = W) := ⟨_, rfl⟩
    rw [HW4.out] at S2 ⊢
    have e0 : w4.cell? ⟨w.heap.size + 1, 0, none⟩ = some (.int .u64 0) := (S2.out.cell 0 rfl).cell 0
    have e1 : w4.cell? ⟨w.heap.size + 1, 1, none⟩ = some (.int .i64 0) := (S2.out.cell 0 rfl).cell 1
    (try simp only [Exit.inBlock, Exit.then])
    refine bodyPost_ret (v := .tuple #[.agg #[.int .u64 0, .int .i64 0], .int .i64 E]) (by simp [results, Tryz.results31, go_sem, e0, e1, Result.andThen]) rfl ?_
    exact ⟨by rw [HW.out, HE.out], S2.out.2⟩
end Go.Proofs.YtmiknfneeipkeaaGreat
namespace Go.Proofs.YtmiknfneeipkeaaGreat
open Go.RowKit Go.MapKept Go.ChangeMaps Go.Shelf Go.Sort
attribute [local go_sem] wext_cell
end Go.Proofs.YtmiknfneeipkeaaGreat
namespace Go.Proofs.YtmiknfneeipkeaaGreat
open Go.RowKit Go.MapKept Go.ChangeMaps Go.Shelf Go.Sort
attribute [local go_sem] wext_cell
theorem cmpID_zero {x y : ID} : cmpID x y = 0 ↔ x = y := by
  obtain ⟨a, b⟩ := x
  obtain ⟨c, d⟩ := y
  unfold cmpID orI Lib.compareInt
  simp only [Prod.mk.injEq]
  repeat' split
  all_goals (first | omega | simp_all)
abbrev AscI (t : List ID) : Prop := t.Pairwise (fun a b => ltID a b = true)
def BsPost (t : List ID) (i : ID) (w : World) (e : Ending) (w' : World) : Prop :=
  Below w.heap.size w w' ∧ ((∃ (k : Nat), k < t.length ∧ t.getD k id0 = i ∧ e = .returned (.tuple #[.int .i64 k, .bool true])) ∨ ∃ k : Nat, i ∉ t ∧ e = .returned (.tuple #[.int .i64 k, .bool false]))
theorem asc_getD {t : List ID} (h : AscI t) {i j : Nat} (hj : j < t.length) (hij : i < j) : ltID (t.getD i id0) (t.getD j id0) = true := by
  have := List.pairwise_iff_getElem.1 h i j (by omega) hj hij
  simpa [List.getD_eq_getElem?_getD, hj, show i < t.length by omega] using this
theorem bs_none {t : List ID} (h : AscI t) {i : ID} {k : Nat} (h1 : ∀ j, j < k → ltID (t.getD j id0) i = true) (h2 : ∀ j, k ≤ j → j < t.length → ltID (t.getD j id0) i = false) (h3 : k < t.length → (t.getD k id0) ≠ i) : i ∉ t := by
  intro hm
  obtain ⟨j, hj, e⟩ := List.mem_iff_getElem.1 hm
  have e' : t.getD j id0 = i := by simpa [List.getD_eq_getElem?_getD, hj] using e
  rcases Nat.lt_trichotomy j k with hlt | rfl | hgt
  · have := h1 j hlt
    rw [e', ltID_irrefl] at this
    cases this
  · exact h3 hj (by rw [e'])
  · have a := asc_getD h hj hgt
    rw [e'] at a
    rw [h2 k (Nat.le_refl _) (by omega)] at a
    cases a
end Go.Proofs.YtmiknfneeipkeaaGreat
namespace Go.Proofs.YtmiknfneeipkeaaGreat
open Go.RowKit Go.MapKept Go.ChangeMaps Go.Shelf Go.Sort
attribute [local go_sem] wext_cell
section
variable {b : Nat} {w0 w w' : World} {l t : List Ob}
theorem take_id {l : List ID} {k : Nat} (h : k < l.length) : l.take (k + 1) = l.take k ++ [l.getD k id0] := by
  rw [List.take_succ_eq_append_getElem h, List.getD_eq_getElem?_getD, List.getElem?_eq_getElem h]
  rfl
end
end Go.Proofs.YtmiknfneeipkeaaGreat
namespace Go.Proofs.YtmiknfneeipkeaaGreat
open Go.RowKit Go.MapKept Go.ChangeMaps Go.Shelf Go.Sort
attribute [local go_sem] wext_cell
theorem setR_small {ms : List Man} (he : errM ms = 0) (hn : ms.length ≤ 90) : (setR (idsOf ms)).length ≤ 92160 := by
  have h1 := setR_len (idsOf ms)
  have h2 := idsOf_len he
  omega
section
variable {b : Nat} {w0 w w' : World} {l t : List Ob}
end
end Go.Proofs.YtmiknfneeipkeaaGreat
namespace Go.Proofs
open Go.Shelf
def Tryz.lay166_ren : Go.Shelf.Ren := ⟨fun | 20 => 166 | n => n, fun | 22 => 78 | 24 => 85 | 25 => 145 | 3 => 3 | 0 => 0 | 4 => 4 | n => n, fun | n => n⟩
theorem Tryz.lay166 : Go.Proofs.SlLaysF0.n20 Tryz.prog Tryz.lay166_ren := {
  mixed := by kernel_rfl
  f20 := ⟨Tryz.f166.name, by decide, Tryz.func166.trans (congrArg some (by kernel_rfl))⟩
  t0 := Tryz.underlying0
  a0 := Tryz.isAgg0
  z0 := Tryz.sizeOf0
  v0 := Tryz.zeroValue0
  t3 := Tryz.underlying3
  a3 := Tryz.isAgg3
  z3 := Tryz.sizeOf3
  v3 := Tryz.zeroValue3
  t4 := Tryz.underlying4
  a4 := Tryz.isAgg4
  z4 := Tryz.sizeOf4
  v4 := Tryz.zeroValue4
  t22 := Tryz.underlying78
  a22 := Tryz.isAgg78
  z22 := Tryz.sizeOf78
  v22 := Tryz.zeroValue78
  t25 := Tryz.underlying145
  a25 := Tryz.isAgg145
  z25 := Tryz.sizeOf145
  v25 := Tryz.zeroValue145 }
end Go.Proofs
namespace Go.Proofs.YtmiknfneeipkeaaGreat
open Go.RowKit Go.MapKept Go.ChangeMaps Go.Shelf Go.Sort
attribute [local go_sem] wext_cell
abbrev CN := ID × MR
def encCN (e : CN) : List Value := [.int .u64 e.1.1, .int .i64 e.1.2, .int .i64 e.2.size, .slice e.2.A e.2.len e.2.cap]
def cn0 : CN := (id0, mr0)
theorem encCN_len (e : CN) : (encCN e).length = 4 := rfl
theorem encCN_one (e : CN) : ∀ u ∈ encCN e, u.oneCell' = true := by
  intro u hu
  simp [encCN] at hu
  rcases hu with rfl | rfl | rfl | rfl <;> rfl
instance : Inhabited CN := ⟨cn0⟩
def cmpCN (x y : CN) : Int := cmpID x.1 y.1
theorem swoCN : SWO (ltOf cmpCN) where
  irrefl x := swoID.irrefl x.1
  trans x y z h1 h2 := swoID.trans x.1 y.1 z.1 h1 h2
  ntrans x y z h1 h2 := swoID.ntrans x.1 y.1 z.1 h1 h2
set_option maxHeartbeats 1000000 in
theorem closure85 (x y : CN) (W : World) : Calls Tryz.prog 85 #[.agg (encCN x).toArray, .agg (encCN y).toArray] W fun e w' => e = .returned (.int .i64 (cmpCN x y)) ∧ ∃ q os', w' = grow (W.drewN q) os' := by
  obtain ⟨⟨x1, x2⟩, ⟨x3, x4, x5, x6⟩⟩ := x
  obtain ⟨⟨y1, y2⟩, ⟨y3, y4, y5, y6⟩⟩ := y
  have H := Lib.hid (fun W' => acmp_grow x1 x2 y1 y2 W')
  unfold cmpCN
  simp only [encCN]
  generalize cmpID (x1, x2) (y1, y2) = r at H ⊢
  go_enter Tryz.func85, Tryz.ntmps85
  go_wp2_with fail
  refine (H.out _).mono ?_
  rintro e w' ⟨rfl, q, os, rfl⟩
  go_wp2_with fail
  go_ret
  exact ⟨rfl, q, _, grow_grow2 W _ _ q os⟩
set_option maxHeartbeats 2000000 in
theorem stable_walk (s fv : Value) (n : Nat) (hn : n < 20) (w : World) (R : World → Prop) (h : Calls Tryz.prog 166 #[s, .int .i64 0, .int .i64 (n : Int), fv] w (fun e w' => e = .returned (.tuple #[]) ∧ R w')) : Calls Tryz.prog 128 #[s, .int .i64 (n : Int), fv] w (fun e w' => e = .returned (.tuple #[]) ∧ R w') := by
  have H := Lib.hid h
  clear h
  go_enter Tryz.func128, Tryz.ntmps128
  go_wp2_with fail
  go_loop [7, 8] (fun v7 v8 => v7 = .int .i64 0 ∧ v8 = .int .i64 20) (fun _ _ => 0)
  case atStart => exact ⟨rfl, rfl⟩
  case round =>
    obtain ⟨rfl, rfl⟩ := hrel
    go_wp2_with (go_at_call 166; (with_reducible refine H.out.mono ?_); refine halt_ ?_)
    rintro e w1 rfl hR
    have HR := Lib.hid hR
    clear hR H
    go_wp2_with fail
    go_loopw [6] (fun v6 wr => v6 = .int .i64 20 ∧ wr = w1) (fun _ _ => 0)
    case atStart => exact ⟨rfl, rfl⟩
    case round =>
      obtain ⟨rfl, rfl⟩ := hrel
      go_wp2_with fail
      go_returns
      exact ⟨rfl, HR.out⟩
abbrev StableP (g n cap : Nat) (xs : List CN) (w : World) (w' : World) : Prop := ∃ d' m os, PermIn 0 xs.toArray.size xs.toArray d' ∧ SortedIn (ltOf cmpCN) 0 xs.toArray.size d' ∧ w' = sortWorldK encCN 4 w g 0 m d' os
set_option maxHeartbeats 1000000 in
theorem stable84 (s fv : Value) (n : Nat) (w : World) (R : World → Prop) (hlen : (Builtin.len_ #[78] 3 #[s]).run Tryz.prog w = .ok (.int .i64 (n : Int)) w) (h : Calls Tryz.prog 128 #[s, .int .i64 (n : Int), fv] w (fun e w' => e = .returned (.tuple #[]) ∧ R w')) : Calls Tryz.prog 84 #[s, fv] w (fun e w' => e = .returned (.tuple #[]) ∧ R w') := by
  have H := Lib.hid h
  clear h
  go_enter Tryz.func84, Tryz.ntmps84
  go_wp2_with (go_at_call 128; (with_reducible refine H.out.mono ?_); refine halt_ ?_)
  rintro e w1 ⟨rfl, hR⟩
  have HR := Lib.hid hR
  clear hR H
  go_wp2_with fail
  go_returns
  exact ⟨rfl, HR.out⟩
theorem sortCN_any (base g n cap : Nat) (xs : List CN) (w : World) (h : w.ownsRow base 85 4 (.slice (some ⟨g, 0, none⟩) n cap) n (xs.flatMap encCN)) (hn : xs.length < 20) :
    Calls Tryz.prog 84 #[.slice (some ⟨g, 0, none⟩) n cap, .func (.func 85) #[] #[]] w (SortOwn encCN 4 cmpCN base g n cap 85 xs w) := by
  have hg := h.lt g rfl
  have eg : ∀ args w, (callFunc 85 args).run Tryz.prog w = .ok (.enter 85 args) w := enters_of Tryz.func85 (by kernel_rfl) rfl
  have hins := AnyQ.insertionSortCmpFunc Tryz.lay166 4 Tryz.isAgg85 Tryz.sizeOf85 encCN (fun _ => rfl) encCN_one cmpCN 85 #[] g 0 cap 0 xs.toArray.size xs.toArray w eg (fun _ _ _ _ x y => closure85 x y _) (holdsK_of_own encCN_len (by omega) h) hg.2 (by omega) (Nat.le_refl _) (by simp; omega)
  have hps := insertionSort_holds (lt := ltOf cmpCN) swoCN xs.toArray 0 xs.toArray.size (by omega) (Nat.le_refl _)
  have h1 : Calls Tryz.prog 166 #[.slice (some ⟨g, 0, none⟩) xs.toArray.size cap, .int .i64 0, .int .i64 (xs.toArray.size : Int), .func (.func 85) #[] #[]] w (fun e w' => e = .returned (.tuple #[]) ∧ StableP g n cap xs w w') := hins.mono (fun e w' ⟨he, m, os, hw⟩ => ⟨he, _, m, os, hps.1, hps.2, hw⟩)
  exact sort_own encCN_len h (by omega) (stable84 _ _ _ w _ (by simp [Builtin.len_, run_underlying Tryz.underlying78, Result.andThen, goInt]) (stable_walk _ _ _ (by simpa using hn) w _ h1))
theorem sortCN_none (p : Option Addr) (cap : Nat) (w : World) : Calls Tryz.prog 84 #[.slice p 0 cap, .func (.func 85) #[] #[]] w fun e w' => e = .returned (.tuple #[]) ∧ w' = w :=
  stable84 _ _ 0 w _ (by simp [Builtin.len_, run_underlying Tryz.underlying78, Result.andThen, goInt]) (stable_walk _ _ 0 (by omega) w _ (AnyF.insertionSortCmpFunc_none Tryz.lay166 p cap _ w))
end Go.Proofs.YtmiknfneeipkeaaGreat
namespace Go.Proofs.YtmiknfneeipkeaaGreat
open Go.RowKit Go.MapKept Go.ChangeMaps Go.Shelf Go.Sort
attribute [local go_sem] wext_cell
set_option maxHeartbeats 2000000 in
theorem Equal_any (x y : Nat) (a b : List ID) (A B : Option Addr) (c d : Nat) (w : World) (ha : RdID w x A a) (hb : RdID w y B b) (hla : a.length ≤ 9223372036854775807) (hlb : b.length ≤ 9223372036854775807) :
    Calls Tryz.prog 86 #[.slice A a.length c, .slice B b.length d] w (Gives (.bool (decide (a = b))) w) := by
  have Ha := Lib.hid ha
  have Hb := Lib.hid hb
  clear ha hb
  by_cases hlen : a.length = b.length
  · have hbe : (a.length != b.length) = false := by simp [hlen]
    have hbi : (((a.length : Nat) : Int) != ((b.length : Nat) : Int)) = false := by simp [hlen]
    have Hlen := Lib.hid hlen
    clear hlen
    go_enter Tryz.func86, Tryz.ntmps86
    go_wp2_with fail
    go_loopw [13] (fun v wr => ∃ k : Nat, k ≤ a.length ∧ v = .int .i64 k ∧ Hid (a.take k = b.take k) ∧ Below w.heap.size w wr) (fun v _ => a.length - (intOf v).toNat)
    case atStart => exact ⟨0, Nat.zero_le _, rfl, rfl, Below.refl _ _⟩
    case round =>
      obtain ⟨k, hk, rfl, Hk, hbw⟩ := hrel
      have Hbw := Lib.hid hbw
      clear hbw
      by_cases hlt : k < a.length
      · have hlt' : k < b.length := by have := Hlen.out; omega
        obtain ⟨b1, o1, rfl, hb1, _, hc1⟩ := Ha.out (by omega)
        obtain ⟨b2, o2, rfl, hb2, _, hc2⟩ := Hb.out (by omega)
        obtain ⟨s0, s1, HI⟩ : ∃ s0 s1, Hid (a.getD k (0, 0) = (s0, s1)) := ⟨_, _, rfl⟩
        obtain ⟨r0, r1, HJ⟩ : ∃ r0 r1, Hid (b.getD k (0, 0) = (r0, r1)) := ⟨_, _, rfl⟩
        have p0 : wr.cell? ⟨b1, o1 + k * 2, none⟩ = some (.int .u64 s0) := B_cell Hbw.out hb1 (hc1 k hlt 0 _ (by rw [HI.out]; rfl))
        have q0 : wr.cell? ⟨b2, o2 + k * 2, none⟩ = some (.int .u64 r0) := B_cell Hbw.out hb2 (hc2 k hlt' 0 _ (by rw [HJ.out]; rfl))
        have p1 : wr.cell? ⟨b1, o1 + k * 2 + 1, none⟩ = some (.int .i64 s1) := B_cell Hbw.out hb1 (hc1 k hlt 1 _ (by rw [HI.out]; rfl))
        have q1 : wr.cell? ⟨b2, o2 + k * 2 + 1, none⟩ = some (.int .i64 r1) := B_cell Hbw.out hb2 (hc2 k hlt' 1 _ (by rw [HJ.out]; rfl))
        clear hc1 hc2
        by_cases e0 : s0 = r0
        · obtain rfl := e0
          by_cases e1 : s1 = r1
          · obtain rfl := e1
            go_wp2_with fail
            go_quiet (fail)
            go_wp2_with fail
            go_roundw
            case rel => exact ⟨k + 1, by omega, by go_num, take_both (d := (0, 0)) hlt hlt' Hk.out (by rw [HI.out, HJ.out]), bdrewN Hbw.out _⟩
            case measure => simp [intOf]; omega
          · have hne : (s1 == r1) = false := by rw [beq_eq_false_iff_ne]; exact e1
            have HF : Hid (decide (a = b) = false) := by
              unfold Hid
              rw [decide_eq_false_iff_not]
              exact ne_of_getD (0, 0) k (fun h => e1 (by rw [HI.out, HJ.out] at h; simp at h; omega))
            clear e1
            go_wp2_with fail
            go_quiet (fail)
            go_wp2_with fail
            go_ret
            exact gb HF.out (bdrewN Hbw.out _)
        · have hne : (s0 == r0) = false := by rw [beq_eq_false_iff_ne]; exact e0
          have HF : Hid (decide (a = b) = false) := by
            unfold Hid
            rw [decide_eq_false_iff_not]
            exact ne_of_getD (0, 0) k (fun h => e0 (by rw [HI.out, HJ.out] at h; simp at h; omega))
          clear e0
          go_wp2_with fail
          go_quiet (fail)
          go_wp2_with fail
          go_ret
          exact gb HF.out (bdrewN Hbw.out _)
      · obtain rfl : k = a.length := by omega
        have HT : Hid (decide (a = b) = true) := by
          unfold Hid
          rw [decide_eq_true_eq]
          exact eq_of_take Hlen.out Hk.out
        go_wp2_with fail
        go_ret
        exact gb HT.out Hbw.out
  · have hbe : (a.length != b.length) = true := by rw [bne_iff_ne]; exact hlen
    have hbi : (((a.length : Nat) : Int) != ((b.length : Nat) : Int)) = true := by rw [bne_iff_ne]; omega
    have HF : Hid (decide (a = b) = false) := by
      unfold Hid
      rw [decide_eq_false_iff_not]
      intro e
      exact hlen (by rw [e])
    clear hlen
    go_enter Tryz.func86, Tryz.ntmps86
    go_wp2_with fail
    go_ret
    exact gb HF.out (Below.refl _ _)
end Go.Proofs.YtmiknfneeipkeaaGreat
namespace Go.Proofs.YtmiknfneeipkeaaGreat
open Go.RowKit Go.MapKept Go.ChangeMaps Go.Shelf Go.Sort
abbrev MP := MR × Man
def keyM (m : Man) : ID := wholeP m.ids
def cnOf (p : MP) : CN := (keyM p.2, p.1)
def OneM (ms : List Man) : Prop := ∀ a ∈ ms, ∀ b ∈ ms, keyM a = keyM b → a.ids = b.ids
def ConM (ms ys : List Man) : Prop := ys.Pairwise (fun a b => ltID (keyM a) (keyM b) = true) ∧ ∀ m, m ∈ ys ↔ m ∈ ms
theorem conM_uniq {ms ys zs : List Man} (h : ConM ms ys) (h' : ConM ms zs) : ys = zs := by
  have key : ∀ {a b : List Man}, a.Pairwise (fun x y => ltID (keyM x) (keyM y) = true) → b.Pairwise (fun x y => ltID (keyM x) (keyM y) = true) → (∀ m, m ∈ a ↔ m ∈ b) → a = b := by
    intro a
    induction a with
    | nil =>
      intro b _ _ h
      cases b with
      | nil => rfl
      | cons x b => exact absurd ((h x).2 (.head _)) (by simp)
    | cons x a ih =>
      intro b ha hb h
      cases b with
      | nil => exact absurd ((h x).1 (.head _)) (by simp)
      | cons y b =>
        obtain ⟨a1, a2⟩ := List.pairwise_cons.1 ha
        obtain ⟨b1, b2⟩ := List.pairwise_cons.1 hb
        have hxy : x = y := by
          rcases List.mem_cons.1 ((h x).1 (.head _)) with e | hx
          · exact e
          · rcases List.mem_cons.1 ((h y).2 (.head _)) with e | hy
            · exact e.symm
            · have h1 := b1 x hx
              have h2 := a1 y hy
              have := swoID.trans (keyM x) (keyM y) (keyM x) (by rw [lt_cmpID]; exact h2) (by rw [lt_cmpID]; exact h1)
              rw [swoID.irrefl] at this
              cases this
        subst hxy
        have hn : ∀ (l : List Man), (∀ m ∈ l, ltID (keyM x) (keyM m) = true) → x ∉ l := fun l hl hx => by
          have := hl x hx
          rw [← lt_cmpID, swoID.irrefl] at this
          cases this
        rw [ih a2 b2 (fun m => ?_)]
        constructor
        · intro hm
          rcases List.mem_cons.1 ((h m).1 (List.mem_cons_of_mem _ hm)) with e | h1
          · exact absurd (e ▸ hm) (hn a a1)
          · exact h1
        · intro hm
          rcases List.mem_cons.1 ((h m).2 (List.mem_cons_of_mem _ hm)) with e | h1
          · exact absurd (e ▸ hm) (hn b b1)
          · exact h1
  exact key h.1 h'.1 (fun m => (h.2 m).trans (h'.2 m).symm)
theorem snocInd {α : Type} {P : List α → Prop} (h0 : P []) (h1 : ∀ l a, P l → P (l ++ [a])) (l : List α) : P l := by
  have : ∀ (n : Nat) (l : List α), l.length = n → P l := by
    intro n
    induction n with
    | zero => intro l hl; rw [List.eq_nil_of_length_eq_zero hl]; exact h0
    | succ n ih =>
      intro l hl
      rcases List.eq_nil_or_concat l with rfl | ⟨l', a, rfl⟩
      · exact h0
      · rw [List.concat_eq_append] at *
        exact h1 _ _ (ih l' (by simpa using hl))
  exact this _ l rfl
def ddStep (acc : List MP) (p : MP) : List MP := if (acc.getLast?.map fun q => keyM q.2) = some (keyM p.2) then acc else acc ++ [p]
def ddM (l : List MP) : List MP := l.foldl ddStep []
theorem ddM_snoc (l : List MP) (p : MP) : ddM (l ++ [p]) = ddStep (ddM l) p := by simp [ddM]
theorem ddM_nil : ddM [] = [] := rfl
theorem ddM_len (l : List MP) : (ddM l).length ≤ l.length := by
  refine snocInd (P := fun l => (ddM l).length ≤ l.length) (by simp [ddM_nil]) (fun l p ih => ?_) l
  rw [ddM_snoc, ddStep]
  split
  · simp; omega
  · simp; omega
theorem ddM_sub (l : List MP) : ∀ p ∈ ddM l, p ∈ l := by
  refine snocInd (P := fun l => ∀ p ∈ ddM l, p ∈ l) (fun p hp => by cases hp) (fun l p ih => ?_) l
  intro q hq
  rw [ddM_snoc, ddStep] at hq
  split at hq
  · exact List.mem_append_left _ (ih q hq)
  · rcases List.mem_append.1 hq with h | h
    · exact List.mem_append_left _ (ih q h)
    · exact List.mem_append_right _ h
theorem ddM_key (l : List MP) (p : MP) : ((ddM (l ++ [p])).getLast?.map fun q => keyM q.2) = some (keyM p.2) := by
  rw [ddM_snoc, ddStep]
  split
  · assumption
  · simp
theorem ddM_mem (l : List MP) : ∀ p ∈ l, ∃ q ∈ ddM l, keyM q.2 = keyM p.2 := by
  refine snocInd (P := fun l => ∀ p ∈ l, ∃ q ∈ ddM l, keyM q.2 = keyM p.2) (fun p hp => by cases hp) (fun l p ih => ?_) l
  intro r hr
  rcases List.mem_append.1 hr with h | h
  · obtain ⟨q, hq, e⟩ := ih r h
    refine ⟨q, ?_, e⟩
    rw [ddM_snoc, ddStep]
    split
    · exact hq
    · exact List.mem_append_left _ hq
  · rw [List.mem_singleton.1 h]
    have hk := ddM_key l p
    cases hl : (ddM (l ++ [p])).getLast? with
    | none =>
      rw [hl] at hk
      cases hk
    | some q =>
      rw [hl] at hk
      exact ⟨q, List.mem_of_getLast? hl, by simpa using hk⟩
theorem ltID_tot {x y : ID} (h1 : ltID x y = false) (h2 : ltID y x = false) : x = y := by
  simp only [ltID, decide_eq_false_iff_not] at h1 h2
  exact Prod.ext (by omega) (by omega)
theorem ltID_irr (x : ID) : ltID x x = false := by simp [ltID]
def SortM (l : List MP) : Prop := l.Pairwise (fun a b => ltID (keyM b.2) (keyM a.2) = false)
theorem ddM_asc (l : List MP) : SortM l → (ddM l).Pairwise (fun a b => ltID (keyM a.2) (keyM b.2) = true) := by
  refine snocInd (P := fun l => SortM l → (ddM l).Pairwise (fun a b => ltID (keyM a.2) (keyM b.2) = true)) (fun _ => .nil) (fun l p ih hs => ?_) l
  have hs1 := List.pairwise_append.1 hs
  have ha := ih hs1.1
  rw [ddM_snoc, ddStep]
  split
  · exact ha
  · rename_i hne
    refine List.pairwise_append.2 ⟨ha, List.pairwise_singleton _ _, fun q hq r hr => ?_⟩
    rw [List.mem_singleton.1 hr]
    have h1 := hs1.2.2 q (ddM_sub l q hq) p (.head _)
    cases hlt : ltID (keyM q.2) (keyM p.2) with
    | true => rfl
    | false =>
      have e := ltID_tot hlt h1
      exfalso
      have hnil : ddM l ≠ [] := List.ne_nil_of_mem hq
      have hd := List.dropLast_concat_getLast hnil
      have hlast := List.getLast?_eq_some_getLast hnil
      rw [hlast] at hne
      have hne' : keyM ((ddM l).getLast hnil).2 ≠ keyM p.2 := fun h => hne (by simp [h])
      rw [← hd] at hq
      rcases List.mem_append.1 hq with h | h
      · rw [← hd] at ha
        have h2 := (List.pairwise_append.1 ha).2.2 q h _ (.head _)
        have h3 := hs1.2.2 _ (ddM_sub l _ (List.getLast_mem hnil)) p (.head _)
        rw [e] at h2
        rw [h2] at h3
        cases h3
      · rw [List.mem_singleton.1 h] at e
        exact hne' e
def GoodM (l : List MP) : Prop := ∀ p ∈ l, ∀ q ∈ ddM l, keyM q.2 = keyM p.2 → q.2.ids = p.2.ids
theorem good_same {l : List MP} {p q : MP} (hg : GoodM l) (hl : (ddM l).getLast? = some q) (hk : keyM q.2 = keyM p.2) (hi : q.2.ids = p.2.ids) : ddM (l ++ [p]) = ddM l ∧ GoodM (l ++ [p]) := by
  have e : ddM (l ++ [p]) = ddM l := by rw [ddM_snoc, ddStep, if_pos (by rw [hl]; simp [hk])]
  refine ⟨e, fun p' hp' q' hq' he => ?_⟩
  rw [e] at hq'
  rcases List.mem_append.1 hp' with h | h
  · exact hg p' h q' hq' he
  · rw [List.mem_singleton.1 h] at he ⊢
    rw [← hi]
    exact hg q (ddM_sub l q (List.mem_of_getLast? hl)) q' hq' (he.trans hk.symm)
theorem good_new {l : List MP} {p : MP} (hs : SortM (l ++ [p])) (hg : GoodM l) (hl : ∀ q, (ddM l).getLast? = some q → keyM q.2 ≠ keyM p.2) : ddM (l ++ [p]) = ddM l ++ [p] ∧ GoodM (l ++ [p]) := by
  have e : ddM (l ++ [p]) = ddM l ++ [p] := by
    rw [ddM_snoc, ddStep, if_neg]
    intro h
    cases hq : (ddM l).getLast? with
    | none => rw [hq] at h; cases h
    | some q =>
      rw [hq] at h
      exact hl q hq (by simpa using h)
  have ha := ddM_asc _ hs
  rw [e] at ha
  have hne : ∀ q ∈ ddM l, keyM q.2 ≠ keyM p.2 := fun q hq h => by
    have := (List.pairwise_append.1 ha).2.2 q hq p (.head _)
    rw [h, ltID_irr] at this
    cases this
  refine ⟨e, fun p' hp' q' hq' he => ?_⟩
  rw [e] at hq'
  rcases List.mem_append.1 hp' with h | h <;> rcases List.mem_append.1 hq' with h' | h'
  · exact hg p' h q' h' he
  · rw [List.mem_singleton.1 h'] at he
    obtain ⟨r, hr1, hr2⟩ := ddM_mem l p' h
    exact absurd (hr2.trans he.symm) (hne r hr1)
  · rw [List.mem_singleton.1 h] at he
    exact absurd he (hne q' h')
  · rw [List.mem_singleton.1 h, List.mem_singleton.1 h']
theorem con_of_sorted {ms : List Man} {Z : List MP} (hv : ∀ m ∈ ms, manE m = 0) (hp : (Z.map (·.2)).Perm ms) (hs : SortM Z) (hg : GoodM Z) : OneM ms ∧ ConM ms ((ddM Z).map (·.2)) := by
  have hin : ∀ m ∈ ms, ∃ p ∈ Z, p.2 = m := fun m hm => by
    have := hp.mem_iff.2 hm
    obtain ⟨p, h1, h2⟩ := List.mem_map.1 this
    exact ⟨p, h1, h2⟩
  have hout : ∀ p ∈ Z, p.2 ∈ ms := fun p h => hp.mem_iff.1 (List.mem_map.2 ⟨p, h, rfl⟩)
  have ha := ddM_asc Z hs
  refine ⟨fun a ha' b hb' he => ?_, List.pairwise_map.2 ha, fun m => ⟨fun hm => ?_, fun hm => ?_⟩⟩
  · obtain ⟨p, hp1, rfl⟩ := hin a ha'
    obtain ⟨q, hq1, rfl⟩ := hin b hb'
    obtain ⟨r, hr1, hr2⟩ := ddM_mem Z p hp1
    rw [← hg p hp1 r hr1 hr2, ← hg q hq1 r hr1 (hr2.trans he)]
  · obtain ⟨q, hq, rfl⟩ := List.mem_map.1 hm
    exact hout q (ddM_sub Z q hq)
  · obtain ⟨p, hp1, rfl⟩ := hin m hm
    obtain ⟨r, hr1, hr2⟩ := ddM_mem Z p hp1
    have he := hg p hp1 r hr1 hr2
    have h1 := (manE_zero (hv _ hm)).2.1
    have h2 := (manE_zero (hv _ (hout r (ddM_sub Z r hr1)))).2.1
    refine List.mem_map.2 ⟨r, hr1, ?_⟩
    show r.2 = p.2
    cases hr : r.2 with
    | mk rz ri =>
      cases hpp : p.2 with
      | mk pz pi =>
        rw [hr, hpp] at he
        rw [hpp] at h1
        rw [hr] at h2
        simp only at he h1 h2
        subst he
        rw [h1, h2]
theorem perm_map_inv {α β : Type} (f : α → β) {l l' : List β} (h : l.Perm l') : ∀ P : List α, P.map f = l → ∃ Z : List α, Z.Perm P ∧ Z.map f = l' := by
  induction h with
  | nil =>
    intro P hP
    exact ⟨P, List.Perm.refl _, hP⟩
  | cons x _ ih =>
    intro P hP
    cases P with
    | nil => simp at hP
    | cons p P =>
      simp only [List.map_cons, List.cons.injEq] at hP
      obtain ⟨Z, h1, h2⟩ := ih P hP.2
      exact ⟨p :: Z, h1.cons p, by simp [hP.1, h2]⟩
  | swap x y l =>
    intro P hP
    match P, hP with
    | p :: q :: P, hP =>
      simp only [List.map_cons, List.cons.injEq] at hP
      exact ⟨q :: p :: P, List.Perm.swap _ _ _, by simp [hP.1, hP.2.1, hP.2.2]⟩
  | trans _ _ ih1 ih2 =>
    intro P hP
    obtain ⟨Z, h1, h2⟩ := ih1 P hP
    obtain ⟨Y, h3, h4⟩ := ih2 Z h2
    exact ⟨Y, h3.trans h1, h4⟩
end Go.Proofs.YtmiknfneeipkeaaGreat
