/- Contracts: N of the program (BinarySearchFunc). -/
import Derived.Test.YtjglpmcekbjoaaaV
namespace Go.Proofs.Ytjglpmcekbjoaaa
open Go.RowKit Go.MapKept Go.ChangeMaps
attribute [local go_sem] wext_cell

theorem cmpID_zero {x y : ID} : cmpID x y = 0 ↔ x = y := by
  obtain ⟨a, b⟩ := x
  obtain ⟨c, d⟩ := y
  unfold cmpID orI Lib.compareInt
  simp only [Prod.mk.injEq]
  repeat' split
  all_goals (first | omega | simp_all)

set_option maxHeartbeats 1000000 in
theorem cl53_any (p q n s z : Int) (w : World) : Calls Try.prog 53 #[.agg #[.int .u64 p, .int .i64 q, .int .i64 n], .agg #[.int .u64 s, .int .i64 z]] w (Gives (.int .i64 (cmpID (p, q) (s, z))) w) := by
  have H := Lib.hid (fun W => compareIDs_any p q s z W)
  generalize cmpID (p, q) (s, z) = r at H ⊢
  go_enter Try.func53, Try.ntmps53
  go_wp2_with fail
  refine (H.out _).mono ?_
  rintro e w1 ⟨rfl, hb1⟩
  have Hb : Hid (Below w.heap.size w w1) := (((Below.refl _ w).alloc (Nat.le_refl _) _).alloc (by simp) _).trans (hb1.mono (by simp; omega))
  clear hb1
  go_wp2_with fail
  go_ret
  exact ⟨rfl, Hb.out⟩

/-- What BinarySearchFunc finds. -/
def BsPost (t : List CT) (i : ID) (w : World) (e : Ending) (w' : World) : Prop :=
  Below w.heap.size w w' ∧ ((∃ (k : Nat) (n : Int), k < t.length ∧ t.getD k ct0 = (i, n) ∧ e = .returned (.tuple #[.int .i64 k, .bool true])) ∨ ∃ k : Nat, i ∉ t.map (·.1) ∧ e = .returned (.tuple #[.int .i64 k, .bool false]))
theorem asc_getD {t : List CT} (h : Asc t) {i j : Nat} (hj : j < t.length) (hij : i < j) : ltID (t.getD i ct0).1 (t.getD j ct0).1 = true := by
  have := List.pairwise_iff_getElem.1 h i j (by omega) hj hij
  simpa [List.getD_eq_getElem?_getD, hj, show i < t.length by omega] using this
theorem bs_none {t : List CT} (h : Asc t) {i : ID} {k : Nat} (h1 : ∀ j, j < k → ltID (t.getD j ct0).1 i = true) (h2 : ∀ j, k ≤ j → j < t.length → ltID (t.getD j ct0).1 i = false) (h3 : k < t.length → (t.getD k ct0).1 ≠ i) : i ∉ t.map (·.1) := by
  intro hm
  obtain ⟨c, hc, rfl⟩ := List.mem_map.1 hm
  obtain ⟨j, hj, e⟩ := List.mem_iff_getElem.1 hc
  have e' : t.getD j ct0 = c := by simpa [List.getD_eq_getElem?_getD, hj] using e
  rcases Nat.lt_trichotomy j k with hlt | rfl | hgt
  · have := h1 j hlt
    rw [e', ltID_irrefl] at this
    cases this
  · exact h3 hj (by rw [e'])
  · have a := asc_getD h hj hgt
    rw [e'] at a
    rw [h2 k (Nat.le_refl _) (by omega)] at a
    cases a

set_option maxRecDepth 100000 in
set_option maxHeartbeats 8000000 in
theorem Bs_any (x : Nat) (t : List CT) (A : Option Addr) (c : Nat) (s z : Int) (w : World) (hr : RdC w x A t) (ha : Asc t) (hn : t.length ≤ 4096) :
    Calls Try.prog 52 #[.slice A t.length c, .agg #[.int .u64 s, .int .i64 z], .func (.func 53) #[] #[]] w (BsPost t (s, z) w) := by
  have Hr := Lib.hid hr
  have Ha := Lib.hid ha
  clear hr ha
  go_enter Try.func52, Try.ntmps52
  go_wp2_with fail
  go_loopw [9, 10] (fun v9 v10 wr => ∃ i j : Nat, i ≤ j ∧ j ≤ t.length ∧ v9 = .int .i64 i ∧ v10 = .int .i64 j ∧ Hid (∀ k, k < i → ltID (t.getD k ct0).1 (s, z) = true) ∧ Hid (∀ k, j ≤ k → k < t.length → ltID (t.getD k ct0).1 (s, z) = false) ∧ IsB wr w.heap.size 43 #[.int .u64 s, .int .i64 z] ∧ Below w.heap.size w wr) (fun v9 v10 _ => (intOf v10).toNat - (intOf v9).toNat)
  case atStart => exact ⟨0, t.length, Nat.zero_le _, Nat.le_refl _, rfl, rfl, fun k hk => absurd hk (by omega), fun k h1 h2 => absurd h2 (by omega), IsB.new _ _ _, bel1 _ _⟩
  case round =>
    obtain ⟨i, j, hij, hj, rfl, rfl, H1, H2, hI, hbw⟩ := hrel
    have hi0 : wr.cell? ⟨w.heap.size, 0, none⟩ = some (.int .u64 s) := by rw [hI.cell]; rfl
    have hi1 : wr.cell? ⟨w.heap.size, 1, none⟩ = some (.int .i64 z) := by rw [hI.cell]; rfl
    have hIl := hI.lt
    have hsz := hbw.size
    have HI := Lib.hid hI
    have Hbw := Lib.hid hbw
    clear hbw hI
    by_cases hlt : i < j
    · obtain ⟨b1, o1, rfl, hb1, _, hc1⟩ := Hr.out (by omega)
      have hbl : b1 < wr.heap.size := by omega
      obtain ⟨h, Hh⟩ : ∃ h : Nat, Hid (h = (i + j) / 2) := ⟨_, rfl⟩
      have hh1 : i ≤ h := by have := Hh.out; omega
      have hh2 : h < j := by have := Hh.out; omega
      have hh3 : h < t.length := by omega
      have He : Hid (((i : Int) + (j : Int)) / 2 = ((h : Nat) : Int)) := by have := Hh.out; unfold Hid; omega
      obtain ⟨p0, q0, n0, HJ⟩ : ∃ p0 q0 n0, Hid (t.getD h ct0 = ((p0, q0), n0)) := ⟨_, _, _, rfl⟩
      have d0 : wr.cell? ⟨b1, o1 + h * 3, none⟩ = some (.int .u64 p0) := B_cell Hbw.out hb1 (hc1 h hh3 0 _ (by rw [HJ.out]; rfl))
      have d1 : wr.cell? ⟨b1, o1 + h * 3 + 1, none⟩ = some (.int .i64 q0) := B_cell Hbw.out hb1 (hc1 h hh3 1 _ (by rw [HJ.out]; rfl))
      have d2 : wr.cell? ⟨b1, o1 + h * 3 + 2, none⟩ = some (.int .i64 n0) := B_cell Hbw.out hb1 (hc1 h hh3 2 _ (by rw [HJ.out]; rfl))
      have HV := Lib.hid (fun W => cl53_any p0 q0 n0 s z W)
      clear hc1
      cases hc : ltID (p0, q0) (s, z) with
      | true =>
        have hr0 := cmpID_lt hc
        have N1 : Hid (∀ k, k < h + 1 → ltID (t.getD k ct0).1 (s, z) = true) := by
          intro k hk
          rcases Nat.lt_or_ge k h with h1 | h1
          · have := asc_getD Ha.out hh3 h1
            rw [HJ.out] at this
            exact ltID_trans this hc
          · obtain rfl : k = h := by omega
            rw [HJ.out]
            exact hc
        generalize cmpID (p0, q0) (s, z) = r at HV hr0
        have hd : decide (r < 0) = true := by simp; omega
        clear hc
        go_wp2_with fail
        rw [He.out]
        refine wp_region_ext (by kernel_rfl) (by kernel_rfl) ?_
        repeat (go_big_quiet_step ((go_at_call 53; exact ext_call (HV.out _))))
        refine wpQuiet_nil ?_
        intro w2 hb2
        have Hb2 : Hid (Below w.heap.size w w2) := Hbw.out.trans (hb2.mono hsz)
        have HI2 : Hid (IsB w2 w.heap.size 43 #[.int .u64 s, .int .i64 z]) := HI.out.on hb2
        clear hb2
        go_wp2_with fail
        go_roundw
        case rel => exact ⟨h + 1, j, by omega, hj, by go_num, rfl, N1, H2, HI2.out, Hb2.out⟩
        case measure => simp [intOf]; omega
      | false =>
        have hr0 := cmpID_ge hc
        have N2 : Hid (∀ k, h ≤ k → k < t.length → ltID (t.getD k ct0).1 (s, z) = false) := by
          intro k hk hkt
          rcases Nat.lt_or_ge h k with h1 | h1
          · have := asc_getD Ha.out hkt h1
            rw [HJ.out] at this
            cases hx : ltID (t.getD k ct0).1 (s, z) with
            | false => rfl
            | true => rw [ltID_trans this hx] at hc; cases hc
          · obtain rfl : k = h := by omega
            rw [HJ.out]
            exact hc
        generalize cmpID (p0, q0) (s, z) = r at HV hr0
        have hd : decide (r < 0) = false := by simp; omega
        clear hc
        go_wp2_with fail
        rw [He.out]
        refine wp_region_ext (by kernel_rfl) (by kernel_rfl) ?_
        repeat (go_big_quiet_step ((go_at_call 53; exact ext_call (HV.out _))))
        refine wpQuiet_nil ?_
        intro w2 hb2
        have Hb2 : Hid (Below w.heap.size w w2) := Hbw.out.trans (hb2.mono hsz)
        have HI2 : Hid (IsB w2 w.heap.size 43 #[.int .u64 s, .int .i64 z]) := HI.out.on hb2
        clear hb2
        go_wp2_with fail
        go_roundw
        case rel => exact ⟨i, h, by omega, by omega, rfl, rfl, H1, N2, HI2.out, Hb2.out⟩
        case measure => simp [intOf]; omega
    · obtain rfl : i = j := by omega
      by_cases hlt2 : i < t.length
      · obtain ⟨b1, o1, rfl, hb1, _, hc1⟩ := Hr.out (by omega)
        have hbl : b1 < wr.heap.size := by omega
        obtain ⟨p0, q0, n0, HJ⟩ : ∃ p0 q0 n0, Hid (t.getD i ct0 = ((p0, q0), n0)) := ⟨_, _, _, rfl⟩
        have d0 : wr.cell? ⟨b1, o1 + i * 3, none⟩ = some (.int .u64 p0) := B_cell Hbw.out hb1 (hc1 i hlt2 0 _ (by rw [HJ.out]; rfl))
        have d1 : wr.cell? ⟨b1, o1 + i * 3 + 1, none⟩ = some (.int .i64 q0) := B_cell Hbw.out hb1 (hc1 i hlt2 1 _ (by rw [HJ.out]; rfl))
        have d2 : wr.cell? ⟨b1, o1 + i * 3 + 2, none⟩ = some (.int .i64 n0) := B_cell Hbw.out hb1 (hc1 i hlt2 2 _ (by rw [HJ.out]; rfl))
        have HV := Lib.hid (fun W => cl53_any p0 q0 n0 s z W)
        have hdl : decide (i < t.length) = true := by simp; omega
        clear hc1
        by_cases hz : cmpID (p0, q0) (s, z) = 0
        · have Hz := Lib.hid (cmpID_zero.1 hz)
          rw [hz] at HV
          clear hz
          go_wp2_with fail
          refine wp_region_ext (by kernel_rfl) (by kernel_rfl) ?_
          repeat (go_big_quiet_step ((go_at_call 53; exact ext_call (HV.out _))))
          refine wpQuiet_nil ?_
          intro w2 hb2
          have Hb2 : Hid (Below w.heap.size w w2) := Hbw.out.trans (hb2.mono hsz)
          clear hb2
          go_wp2_with fail
          go_ret2
          exact ⟨Hb2.out, .inl ⟨i, n0, hlt2, by rw [HJ.out, Hz.out], rfl⟩⟩
        · have Hz : Hid ((p0, q0) ≠ (s, z)) := fun e => hz (cmpID_zero.2 e)
          have hz' := hz
          generalize cmpID (p0, q0) (s, z) = r at HV hz'
          have hbe : (r == 0) = false := by rw [beq_eq_false_iff_ne]; exact hz'
          clear hz hz'
          go_wp2_with fail
          refine wp_region_ext (by kernel_rfl) (by kernel_rfl) ?_
          repeat (go_big_quiet_step ((go_at_call 53; exact ext_call (HV.out _))))
          refine wpQuiet_nil ?_
          intro w2 hb2
          have Hb2 : Hid (Below w.heap.size w w2) := Hbw.out.trans (hb2.mono hsz)
          clear hb2
          go_wp2_with fail
          go_ret2
          exact ⟨Hb2.out, .inr ⟨i, bs_none Ha.out H1.out H2.out (fun _ => by rw [HJ.out]; exact Hz.out), rfl⟩⟩
      · have hdl : decide (i < t.length) = false := by simp; omega
        go_wp2_with fail
        refine wp_region_ext (by kernel_rfl) (by kernel_rfl) ?_
        repeat (go_big_quiet_step (fail))
        refine wpQuiet_nil ?_
        intro w2 hb2
        have Hb2 : Hid (Below w.heap.size w w2) := Hbw.out.trans (hb2.mono hsz)
        clear hb2
        go_wp2_with fail
        go_ret2
        exact ⟨Hb2.out, .inr ⟨i, bs_none Ha.out H1.out H2.out (fun h => absurd h hlt2), rfl⟩⟩

set_option maxHeartbeats 2000000 in
theorem N_any (x : Nat) (t : List CT) (A : Option Addr) (c : Nat) (s z : Int) (w : World) (hr : RdC w x A t) (hn : t.length ≤ 9223372036854775807) :
    Calls Try.prog 31 #[.slice A t.length c, .agg #[.int .u64 s, .int .i64 z]] w (Gives2 (nP t (s, z)).1 (nP t (s, z)).2 w) := by
  have Hr := Lib.hid hr
  clear hr
  go_enter Try.func31, Try.ntmps31
  go_wp2_with fail
  refine (Check_any x t A c _ (Hr.out.alloc _) hn).mono ?_
  rintro e w1 ⟨rfl, hb1⟩
  have Hb1 : Hid (Below w.heap.size w w1) := (bel1 w _).trans (hb1.mono (by simp))
  have HI1 : Hid (IsB w1 w.heap.size 43 #[.int .u64 s, .int .i64 z]) := (IsB.new _ _ _).on hb1
  have hs1 := Hb1.out.size
  clear hb1
  by_cases hE : tblE t = 0
  · have HE := Lib.hid hE
    rw [hE]
    clear hE
    have hl4 := ((tblE_iff t).1 HE.out).1
    have hi0 : w1.cell? ⟨w.heap.size, 0, none⟩ = some (.int .u64 s) := by rw [HI1.out.cell]; rfl
    have hi1 : w1.cell? ⟨w.heap.size, 1, none⟩ = some (.int .i64 z) := by rw [HI1.out.cell]; rfl
    go_wp2_with fail
    refine (Bs_any x t A c s z _ (Hr.out.on Hb1.out) (tbl_asc HE.out) hl4).mono ?_
    rintro e w2 ⟨hb2, ⟨k, n, hk, hkn, rfl⟩ | ⟨k, hk, rfl⟩⟩
    · have Hb2 : Hid (Below w.heap.size w w2) := Hb1.out.trans (hb2.mono hs1)
      obtain ⟨b1, o1, rfl, hb1, _, hc1⟩ := Hr.out (by omega)
      have d2 : w2.cell? ⟨b1, o1 + k * 3 + 2, none⟩ = some (.int .i64 n) := B_cell Hb2.out hb1 (hc1 k hk 2 _ (by rw [hkn]; rfl))
      have HT : Hid (nP t (s, z) = (n, true)) := by
        unfold Hid nP
        rw [if_pos HE.out, asc_take (tbl_nodup HE.out) hk hkn]
      clear hb2 hkn hc1
      go_wp2_with fail
      go_ret2
      exact gv2 HT.out rfl rfl Hb2.out
    · have Hb2 : Hid (Below w.heap.size w w2) := Hb1.out.trans (hb2.mono hs1)
      have HF : Hid (nP t (s, z) = (0, false)) := by
        unfold Hid nP
        rw [if_pos HE.out, asc_none_iff.2 hk]
      clear hb2 hk
      go_wp2_with fail
      go_ret2
      exact gv2 HF.out rfl rfl Hb2.out
  · have HF : Hid (nP t (s, z) = (0, false)) := by
      unfold Hid nP
      rw [if_neg hE]
    have hbe : (tblE t != 0) = true := by rw [bne_iff_ne]; exact hE
    clear hE
    go_wp2_with fail
    go_ret2
    exact gv2 HF.out rfl rfl Hb1.out
end Go.Proofs.Ytjglpmcekbjoaaa
