/- Contracts: Clone, Release of the reference and of the program. -/
import Derived.Test.YtjglpmcekbjoaaaT
import Derived.Lib.SliceRun
namespace Go.Proofs.Ytjglpmcekbjoaaa
open Go.RowKit Go.MapKept Go.ChangeMaps
attribute [local go_sem] wext_cell

def CloneP (t : List CT) (w : World) (e : Ending) (w' : World) : Prop :=
  ∃ (A : Option Addr) (c : Nat), e = .returned (.slice A t.length c) ∧ w'.ownsRow w.heap.size 66 3 (.slice A t.length c) t.length (t.flatMap encC) ∧ Below w.heap.size w w'
set_option maxRecDepth 100000 in
set_option maxHeartbeats 1000000 in
theorem Clone_any (x : Nat) (t : List CT) (A : Option Addr) (c : Nat) (w : World) (hr : RdC w x A t) (hl : t.length ≤ 4294967296) :
    Calls Try.prog 45 #[.slice A t.length c] w (CloneP t w) := by
  obtain ⟨i0, hi, hz0, hz1, hz2⟩ := info_parts info66
  have Ho := Lib.hid (hr.opt encC_len (by omega))
  clear hr
  have q28 : ∀ (w : World) (a : Option Addr) (n c n' c' : Nat), (binOp .eql 28 (.slice a n c) (.slice none n' c')).run Try.prog w = .ok (.bool a.isNone) w := fun w a n c n' c' => Lib.run_eql_slice_nil w _ _ a n c n' c' Try.underlying28
  cases A with
  | none =>
    have h0 := Ho.out.1 rfl
    obtain rfl : t = [] := List.eq_nil_of_length_eq_zero h0
    clear h0
    go_enter Try.func45, Try.ntmps45
    go_wp2_with fail
    go_ret
    exact ⟨none, 0, rfl, World.ownsRow_nil _ _ _ _, Below.refl _ _⟩
  | some ad =>
    go_enter Try.func45, Try.ntmps45
    go_wp2_with (at_builtin; refine wpList_append_opt rfl _ _ _ rfl w.heap.size 66 i0 _ 3 24 Try.underlying28 hi hz0 hz1 hz2 rfl (by decide) _ 0 [] rfl (World.ownsRow_made w #[] 0 (Nat.le_refl _) (Nat.zero_le _) (by simp)) (some ad) t.length c (t.flatMap encC) rfl (flat_len encC_len _) (by simp) ?c1 (flatC_one t) (by unfold maxLen; omega) (by omega) (by simp) ?_)
    case c1 =>
      intro ad' he j u hu
      exact Lib.cell?_alloc_some _ (Ho.out.2 ad' he j u hu)
    intro v1 w1 hown1 hg1
    have Hb1 : Hid (Below w.heap.size w w1) := ((Below.refl _ w).alloc (Nat.le_refl _) _).grown hg1 (by simp) (by intro k hk; simp [Value.ownBlock] at hk; omega)
    obtain ⟨A1, c1, rfl⟩ := own_slice hown1
    have Hown1 : Hid (w1.ownsRow w.heap.size 66 3 (.slice A1 t.length c1) t.length (t.flatMap encC)) := by simpa [Hid] using hown1
    clear hown1 hg1
    go_wp2_with fail
    go_ret
    exact ⟨A1, c1, by simp, Hown1.out, Hb1.out⟩

theorem putR_rest {t : List CT} (h : Asc t) {i : ID} (hz : nAt t i ≠ 0) : putR t i (-1) = restR t [i] := by
  refine asc_ext (putR_asc h i (-1)) (restR_asc h _) (fun j => ?_)
  rw [asc_restR, asc_putR h]
  by_cases e : i = j
  · subst e
    have hm : i ∈ t.map (·.1) := Classical.byContradiction (fun hh => hz (nAt_none hh))
    rw [if_pos rfl, asc_nAt hm]
    simp
    omega
  · rw [if_neg e]
    simp [e]
theorem restR_tbl {t : List CT} (h : tblE t = 0) {l : List ID} (hl : ∀ c ∈ t, ((l.count c.1 : Nat) : Int) ≤ c.2) : tblE (restR t l) = 0 := by
  rw [tblE_iff] at h ⊢
  refine ⟨by simpa [restR] using h.1, restR_asc h.2.1 l, fun c hc => ?_⟩
  obtain ⟨d, hd, rfl⟩ := List.mem_map.1 hc
  have h1 := (rowB_iff d).1 (h.2.2 d hd)
  have h2 := hl d hd
  refine (rowB_iff _).2 ⟨h1.1, ?_, ?_⟩ <;> simp only <;> omega
theorem nAt_row {t : List CT} (hn : (t.map (·.1)).Nodup) {c : CT} (hc : c ∈ t) : nAt t c.1 = c.2 := by rw [nAt, asc_mem hn hc]; rfl
theorem putR_tbl {t : List CT} (h : tblE t = 0) {i : ID} (hz : nAt t i ≠ 0) : tblE (putR t i (-1)) = 0 := by
  rw [putR_rest (tbl_asc h) hz]
  refine restR_tbl h (fun c hc => ?_)
  have h1 := tbl_bd h c hc
  by_cases e : i = c.1
  · have h2 := nAt_row (tbl_nodup h) hc
    rw [← e] at h2 ⊢
    simp
    omega
  · simp [e]
    omega
theorem putR_rest_len {t : List CT} (h : Asc t) {i : ID} (hz : nAt t i ≠ 0) : (putR t i (-1)).length = t.length := by rw [putR_rest h hz]; simp [restR]
theorem relT_none {t : List CT} {l k : List ID} (h : relT t l = none) : relT t (l ++ k) = none := by
  induction l generalizing t with
  | nil => cases h
  | cons a l ih =>
    simp only [List.cons_append, relT] at h ⊢
    split
    · rfl
    · rename_i e
      rw [if_neg e] at h
      exact ih h
theorem nP_ok {t : List CT} (h : tblE t = 0) (i : ID) : (nP t i).1 = nAt t i := by
  unfold nP nAt
  rw [if_pos h]
  cases asc t i <;> rfl

set_option maxHeartbeats 4000000 in
theorem rRelease_any (x : Nat) (t : List CT) (A : Option Addr) (c : Nat) (m : Man) (B : Option Addr) (d : Nat) (w : World) (hr : RdC w x A t) (hm : RdID w x B m.ids) (hx : x < w.heap.size) (hn : t.length ≤ 9223372036854775807) (hi : m.ids.length ≤ 9223372036854775807) :
    Calls Try.prog 25 #[.slice A t.length c, .agg #[.int .i64 m.size, .slice B m.ids.length d]] w (TwoC x (relP t m) w) := by
  have Hr := Lib.hid hr
  have Hm := Lib.hid hm
  clear hr hm
  obtain ⟨p, Hp⟩ : ∃ p, Hid (relP t m = p) := ⟨_, rfl⟩
  rw [Hp.out]
  go_enter Try.func25, Try.ntmps25
  go_wp2_with fail
  refine (rCheck_any x t A c _ (Hr.out.alloc _) hn).mono ?_
  rintro e w1 ⟨rfl, hb1⟩
  have Hb1 : Hid (Below w.heap.size w w1) := (bel1 w _).trans (hb1.mono (by simp))
  have HI : Hid (IsB w1 w.heap.size 38 #[.int .i64 m.size, .slice B m.ids.length d]) := (IsB.new _ _ _).on hb1
  clear hb1
  by_cases hE : tblE t = 0
  · have HE := Lib.hid hE
    rw [hE]
    clear hE
    have hm0 : w1.cell? ⟨w.heap.size, 0, none⟩ = some (.int .i64 m.size) := by rw [HI.out.cell]; rfl
    have hm1 : w1.cell? ⟨w.heap.size, 1, none⟩ = some (.slice B m.ids.length d) := by rw [HI.out.cell]; rfl
    have hs1 := Hb1.out.size
    have hl4 := ((tblE_iff t).1 HE.out).1
    have hI1 := HI.out.lt
    go_wp2_with fail
    refine (rmanCheck_any x m B d _ (Hm.out.on Hb1.out) hi).mono ?_
    rintro e w2 ⟨rfl, hb2⟩
    have Hb2 : Hid (Below w.heap.size w w2) := Hb1.out.trans (hb2.mono hs1)
    have HI2 : Hid (IsB w2 w.heap.size 38 #[.int .i64 m.size, .slice B m.ids.length d]) := HI.out.on hb2
    have hs2 := Hb2.out.size
    clear hb2 hm0 hm1
    by_cases hM : manE m = 0
    · have hp := Hp.out
      rw [← rel_eq, if_pos HE.out, if_pos hM] at hp
      have Hq := Lib.hid hp
      have hml := manE_len hM
      rw [hM]
      clear hM hp
      go_wp2_with fail
      refine (Copy_any x t A c _ (Hr.out.on Hb2.out) (by omega) (by omega)).mono ?_
      rintro e w3 ⟨A3, c3, rfl, hr3, hc3, hb3⟩
      have Hb3 : Hid (Below w.heap.size w w3) := Hb2.out.trans (hb3.mono hs2)
      have Hr3 := Lib.hid hr3
      have HI3 : Hid (IsB w3 w.heap.size 38 #[.int .i64 m.size, .slice B m.ids.length d]) := HI2.out.on hb3
      clear hb3 hr3
      go_wp2_with fail
      go_loopw [8, 9] (fun v8 v9 wr => ∃ (k : Nat) (u : List CT) (V : Option Addr) (e : Nat), k ≤ m.ids.length ∧ v9 = .int .i64 k ∧ v8 = .slice V u.length e ∧ relT t (m.ids.take k) = some u ∧ tblE u = 0 ∧ RdC wr x V u ∧ u.length ≤ e ∧ IsB wr w.heap.size 38 #[.int .i64 m.size, .slice B m.ids.length d] ∧ Below w.heap.size w wr) (fun _ v9 _ => m.ids.length - (intOf v9).toNat)
      case atStart => exact ⟨0, t, A3, c3, Nat.zero_le _, rfl, rfl, rfl, HE.out, Hr3.out, hc3, HI3.out, Hb3.out⟩
      case round =>
        obtain ⟨k, u, V, ee, hk, rfl, rfl, hu, hue, hrV, hee, hI, hbw⟩ := hrel
        have hsz := hbw.size
        have hul := ((tblE_iff u).1 hue).1
        have n0 : wr.cell? ⟨w.heap.size, 0, none⟩ = some (.int .i64 m.size) := by rw [hI.cell]; rfl
        have n1 : wr.cell? ⟨w.heap.size, 1, none⟩ = some (.slice B m.ids.length d) := by rw [hI.cell]; rfl
        have hIl := hI.lt
        have Hu := Lib.hid hu
        have Hue := Lib.hid hue
        have HrV := Lib.hid hrV
        have Hbw := Lib.hid hbw
        have HIw := Lib.hid hI
        clear hu hue hrV hbw hI
        by_cases hlt : k < m.ids.length
        · obtain ⟨b1, o1, rfl, hb1, _, hc1⟩ := Hm.out (by omega)
          obtain ⟨p0, q0, HJ⟩ : ∃ p0 q0, Hid (m.ids.getD k (0, 0) = (p0, q0)) := ⟨_, _, rfl⟩
          have C0 : Hid (w.cell? ⟨b1, o1 + k * 2, none⟩ = some (.int .u64 p0)) := hc1 k hlt 0 _ (by rw [HJ.out]; rfl)
          have C1 : Hid (w.cell? ⟨b1, o1 + k * 2 + 1, none⟩ = some (.int .i64 q0)) := hc1 k hlt 1 _ (by rw [HJ.out]; rfl)
          have d0 := B_cell Hbw.out hb1 C0.out
          have d1 := B_cell Hbw.out hb1 C1.out
          have HS : Hid (relT t (m.ids.take (k + 1)) = if nAt u (p0, q0) = 0 then none else some (putR u (p0, q0) (-1))) := by
            unfold Hid
            rw [take_snoc _ (0, 0) _ hlt, relT_snoc, Hu.out, HJ.out]
            rfl
          clear hc1
          go_wp2_with fail
          refine (rN_any x u V ee p0 q0 _ HrV.out (by omega)).mono ?_
          rintro e w4 ⟨rfl, hb4⟩
          rw [nP_ok Hue.out]
          have Hb4 : Hid (Below w.heap.size w w4) := Hbw.out.trans (hb4.mono hsz)
          have HI4 : Hid (IsB w4 w.heap.size 38 #[.int .i64 m.size, .slice (some ⟨b1, o1, none⟩) m.ids.length d]) := HIw.out.on hb4
          have HrV4 : Hid (RdC w4 x V u) := HrV.out.on hb4
          have hs4 := Hb4.out.size
          clear hb4 n0 n1
          by_cases hz : nAt u (p0, q0) = 0
          · have hbz : (nAt u (p0, q0) == 0) = true := by rw [beq_iff_eq]; exact hz
            have hq := Hq.out
            have hs := HS.out
            rw [if_pos hz] at hs
            have h9 := relT_none (k := m.ids.drop (k + 1)) hs
            rw [List.take_append_drop] at h9
            rw [h9] at hq
            have HQ := Lib.hid hq.symm
            clear hz hq hs h9
            go_wp2_with fail
            go_ret2
            exact twoC_err HQ.out Hb4.out
          · have hbz : (nAt u (p0, q0) == 0) = false := by rw [beq_eq_false_iff_ne]; exact hz
            have Hpt : Hid (tblE (putR u (p0, q0) (-1)) = 0) := putR_tbl Hue.out hz
            have hs := HS.out
            rw [if_neg hz] at hs
            have HS' := Lib.hid hs
            have m0 : w4.cell? ⟨w.heap.size, 0, none⟩ = some (.int .i64 m.size) := by rw [HI4.out.cell]; rfl
            have m1 : w4.cell? ⟨w.heap.size, 1, none⟩ = some (.slice (some ⟨b1, o1, none⟩) m.ids.length d) := by rw [HI4.out.cell]; rfl
            have f0 := B_cell Hb4.out hb1 C0.out
            have f1 := B_cell Hb4.out hb1 C1.out
            clear hz hs d0 d1
            go_wp2_with fail
            refine (Put_any x u V ee p0 q0 (-1) _ HrV4.out (by omega) (by omega) (by omega) (fun c hc => by have := tbl_bd Hue.out c hc; omega)).mono ?_
            rintro e w5 ⟨A5, c5, rfl, hr5, hc5, _, hb5⟩
            have Hr5 := Lib.hid hr5
            have HI5 : Hid (IsB w5 w.heap.size 38 #[.int .i64 m.size, .slice (some ⟨b1, o1, none⟩) m.ids.length d]) := HI4.out.on hb5
            have Hb5 : Hid (Below w.heap.size w w5) := Hb4.out.trans (hb5.mono hs4)
            clear hr5 hb5
            go_wp2_with fail
            go_roundw
            case rel => exact ⟨k + 1, _, A5, c5, by omega, by go_num, rfl, HS'.out, Hpt.out, Hr5.out, hc5, HI5.out, Hb5.out⟩
            case measure => simp [intOf]; omega
        · obtain rfl : k = m.ids.length := by omega
          have hq := Hq.out
          have hu := Hu.out
          rw [List.take_length] at hu
          rw [hu] at hq
          subst hq
          clear hu
          go_wp2_with fail
          go_ret2
          exact ⟨V, ee, rfl, HrV.out, hee, Hbw.out⟩
    · have hp := Hp.out
      rw [relP, if_pos HE.out, if_neg hM] at hp
      have Hq := Lib.hid hp.symm
      have hbe : (manE m != 0) = true := by rw [bne_iff_ne]; exact hM
      clear hM hp
      go_wp2_with fail
      go_ret2
      exact twoC_err Hq.out Hb2.out
  · have hp := Hp.out
    rw [relP, if_neg hE] at hp
    have Hq := Lib.hid hp.symm
    have hbe : (tblE t != 0) = true := by rw [bne_iff_ne]; exact hE
    clear hE hp
    go_wp2_with fail
    go_ret2
    exact twoC_err Hq.out Hb1.out
end Go.Proofs.Ytjglpmcekbjoaaa
