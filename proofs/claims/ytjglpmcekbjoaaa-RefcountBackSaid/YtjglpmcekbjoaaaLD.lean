/- Walks of laws: RefcountBack. -/
import Derived.Test.YtjglpmcekbjoaaaLA
import Derived.Test.YtjglpmcekbjoaaaPD
namespace Go.Proofs.Ytjglpmcekbjoaaa
open Go.RowKit Go.MapKept Go.ChangeMaps
attribute [local go_sem] wext_cell

set_option maxRecDepth 100000 in
set_option maxHeartbeats 8000000 in
theorem law9 (A : Option Addr) (l : List Int) (c : Nat) (w : World) (hr : RdT w w.heap.size A l) (hn : l.length ≤ 9223372036854775807) :
    Calls Try.prog 9 #[.slice A l.length c] w (Gives (.bool true) w) := by
  have T_w : Hid (Tp (w.alloc (.cells #[.slice A l.length c, .int .i64 0] 26)) w.heap.size 0) := tape0 hr hn
  have G_w : Hid (w.grownBy (w.alloc (.cells #[.slice A l.length c, .int .i64 0] 26)) (some w.heap.size)) := World.grownBy_alloc _ _ _
  clear hr hn
  go_enter Try.func9, Try.ntmps9
  go_wp2_with fail
  refine (tabM_any false w.heap.size 0 _ (by omega) T_w.out).mono ?_
  rintro e w1 ⟨t, At, ct, hok, hl9, hv, rfl, hrt, hct, ht, hg⟩
  have T_w1 : Hid (Tp w1 w.heap.size (0 + 40)) := ht
  have G_w1 : Hid (w.grownBy w1 (some w.heap.size)) := g_trans (G_w.out) hg
  have S_w1 := G_w1.out.size
  have X_w1 := T_w1.out.lt
  have R_t_w1 := Lib.hid hrt
  have H_hok := Lib.hid hok
  have H_hv := Lib.hid hv
  clear hrt hok hv ht hg
  go_wp2_with fail
  refine (list_any false w.heap.size (0 + 40) _ (by omega) T_w1.out).mono ?_
  rintro e w2 ⟨m, Am, cm, hm, rfl, hrm, hcm, _, ht, hg⟩
  have T_w2 : Hid (Tp w2 w.heap.size (0 + 40 + 12)) := ht
  have R_t_w2 : Hid (RdC w2 w.heap.size At t) := (R_t_w1.out).gr hg
  have G_w2 : Hid (w.grownBy w2 (some w.heap.size)) := g_trans (G_w1.out) hg
  have S_w2 := G_w2.out.size
  have X_w2 := T_w2.out.lt
  have R_m_w2 := Lib.hid hrm
  have H_hm := Lib.hid hm
  clear hrm hm ht hg
  have hml := fewM_len H_hm.out
  have Htb : Hid (tblE t = 0) := by first | exact H_hv.out rfl | exact H_hv.out trivial
  rcases add_cases Htb.out (few_man H_hm.out) (fewM_ok H_hm.out) H_hok.out with hA | ⟨T, Z, hA, hR, hT0, hZ0, hTo, hNN⟩
  · have HA := Lib.hid hA
    clear hA
    go_wp2_with fail
    refine (Add_any w.heap.size t At ct m Am cm _ (R_t_w2.out.alloc _) (R_m_w2.out.alloc _) hcm (by simp; omega) (by omega) (by omega) (fewM_ok H_hm.out) H_hok.out).mono ?_
    intro e w3 h
    rw [HA.out] at h
    obtain ⟨A3, c3, he, hr, hc3, hb⟩ := h
    have he' : e = .returned (.tuple #[.slice A3 ([] : List CT).length c3, .int .i64 281]) := he
    subst he'
    have B_m_w3 : Hid (IsB w3 (w2.heap.size) 38 #[.int .i64 m.size, .slice Am m.ids.length cm]) := (IsB.new w2 _ _).on hb
    have R_t_w3 : Hid (RdC w3 w.heap.size At t) := (R_t_w2.out.alloc _).on hb
    have R_m_w3 : Hid (RdID w3 w.heap.size Am m.ids) := (R_m_w2.out.alloc _).on hb
    have T_w3 : Hid (Tp w3 w.heap.size (0 + 40 + 12)) := (T_w2.out.alloc _).on hb
    have G_w3 : Hid (w.grownBy w3 (some w.heap.size)) := g_below (g_alloc (G_w2.out) _) hb
    have S_w3 := G_w3.out.size
    have X_w3 := T_w3.out.lt
    have c_m_0_w3 : w3.cell? ⟨w2.heap.size, 0, none⟩ = some (.int .i64 m.size) := by rw [B_m_w3.out.cell]; rfl
    have c_m_1_w3 : w3.cell? ⟨w2.heap.size, 1, none⟩ = some (.slice Am m.ids.length cm) := by rw [B_m_w3.out.cell]; rfl
    have L_m_w3 := B_m_w3.out.lt
    have R_a_w3 : Hid (RdC w3 w.heap.size A3 ([] : List CT)) := hr
    clear hr hb he
    go_wp2_with fail
    refine (known_any w.heap.size _ (by omega)).mono ?_
    rintro e w4 ⟨rfl, hb⟩
    have R_t_w4 : Hid (RdC w4 w.heap.size At t) := (R_t_w3.out).on hb
    have R_m_w4 : Hid (RdID w4 w.heap.size Am m.ids) := (R_m_w3.out).on hb
    have R_a_w4 : Hid (RdC w4 w.heap.size A3 ([] : List CT)) := (R_a_w3.out).on hb
    have B_m_w4 : Hid (IsB w4 (w2.heap.size) 38 #[.int .i64 m.size, .slice Am m.ids.length cm]) := (B_m_w3.out).on hb
    clear c_m_0_w3
    clear c_m_1_w3
    have T_w4 : Hid (Tp w4 w.heap.size (0 + 40 + 12)) := (T_w3.out).on hb
    have G_w4 : Hid (w.grownBy w4 (some w.heap.size)) := g_below (G_w3.out) hb
    have S_w4 := G_w4.out.size
    have X_w4 := T_w4.out.lt
    have c_m_0_w4 : w4.cell? ⟨w2.heap.size, 0, none⟩ = some (.int .i64 m.size) := by rw [B_m_w4.out.cell]; rfl
    have c_m_1_w4 : w4.cell? ⟨w2.heap.size, 1, none⟩ = some (.slice Am m.ids.length cm) := by rw [B_m_w4.out.cell]; rfl
    have L_m_w4 := B_m_w4.out.lt
    clear hb
    go_wp2_with fail
    go_ret
    exact ⟨rfl, law_end G_w4.out⟩
  · have HA := Lib.hid hA
    have HhR := Lib.hid hR
    have HhT0 := Lib.hid hT0
    have HhZ0 := Lib.hid hZ0
    have HhTo := Lib.hid hTo
    have HhNN := Lib.hid hNN
    have lT := ((tblE_iff T).1 hT0).1
    have lZ := ((tblE_iff Z).1 hZ0).1
    clear hA hR hT0 hZ0 hTo hNN
    go_wp2_with fail
    refine (Add_any w.heap.size t At ct m Am cm _ (R_t_w2.out.alloc _) (R_m_w2.out.alloc _) hcm (by simp; omega) (by omega) (by omega) (fewM_ok H_hm.out) H_hok.out).mono ?_
    intro e w3 h
    rw [HA.out] at h
    obtain ⟨A3, c3, he, hr, hc3, hb⟩ := h
    have he' : e = .returned (.tuple #[.slice A3 T.length c3, .int .i64 0]) := he
    subst he'
    have B_m_w3 : Hid (IsB w3 (w2.heap.size) 38 #[.int .i64 m.size, .slice Am m.ids.length cm]) := (IsB.new w2 _ _).on hb
    have R_t_w3 : Hid (RdC w3 w.heap.size At t) := (R_t_w2.out.alloc _).on hb
    have R_m_w3 : Hid (RdID w3 w.heap.size Am m.ids) := (R_m_w2.out.alloc _).on hb
    have T_w3 : Hid (Tp w3 w.heap.size (0 + 40 + 12)) := (T_w2.out.alloc _).on hb
    have G_w3 : Hid (w.grownBy w3 (some w.heap.size)) := g_below (g_alloc (G_w2.out) _) hb
    have S_w3 := G_w3.out.size
    have X_w3 := T_w3.out.lt
    have c_m_0_w3 : w3.cell? ⟨w2.heap.size, 0, none⟩ = some (.int .i64 m.size) := by rw [B_m_w3.out.cell]; rfl
    have c_m_1_w3 : w3.cell? ⟨w2.heap.size, 1, none⟩ = some (.slice Am m.ids.length cm) := by rw [B_m_w3.out.cell]; rfl
    have L_m_w3 := B_m_w3.out.lt
    have R_a_w3 : Hid (RdC w3 w.heap.size A3 T) := hr
    clear hr hb he
    go_wp2_with fail
    refine (known_any w.heap.size _ (by omega)).mono ?_
    rintro e w4 ⟨rfl, hb⟩
    have R_t_w4 : Hid (RdC w4 w.heap.size At t) := (R_t_w3.out).on hb
    have R_m_w4 : Hid (RdID w4 w.heap.size Am m.ids) := (R_m_w3.out).on hb
    have R_a_w4 : Hid (RdC w4 w.heap.size A3 T) := (R_a_w3.out).on hb
    have B_m_w4 : Hid (IsB w4 (w2.heap.size) 38 #[.int .i64 m.size, .slice Am m.ids.length cm]) := (B_m_w3.out).on hb
    clear c_m_0_w3
    clear c_m_1_w3
    have T_w4 : Hid (Tp w4 w.heap.size (0 + 40 + 12)) := (T_w3.out).on hb
    have G_w4 : Hid (w.grownBy w4 (some w.heap.size)) := g_below (G_w3.out) hb
    have S_w4 := G_w4.out.size
    have X_w4 := T_w4.out.lt
    have c_m_0_w4 : w4.cell? ⟨w2.heap.size, 0, none⟩ = some (.int .i64 m.size) := by rw [B_m_w4.out.cell]; rfl
    have c_m_1_w4 : w4.cell? ⟨w2.heap.size, 1, none⟩ = some (.slice Am m.ids.length cm) := by rw [B_m_w4.out.cell]; rfl
    have L_m_w4 := B_m_w4.out.lt
    clear hb
    go_wp2_with fail
    refine (Release_any w.heap.size T A3 c3 m Am cm _ R_a_w4.out R_m_w4.out hcm (by omega) (by omega) (by omega) (fewM_ok H_hm.out) HhTo.out).mono ?_
    intro e w5 h
    rw [HhR.out] at h
    obtain ⟨A5, c5, he, hr, hc5, hb⟩ := h
    have he' : e = .returned (.tuple #[.slice A5 Z.length c5, .int .i64 0]) := he
    subst he'
    have R_t_w5 : Hid (RdC w5 w.heap.size At t) := (R_t_w4.out).on hb
    have R_m_w5 : Hid (RdID w5 w.heap.size Am m.ids) := (R_m_w4.out).on hb
    have R_a_w5 : Hid (RdC w5 w.heap.size A3 T) := (R_a_w4.out).on hb
    have B_m_w5 : Hid (IsB w5 (w2.heap.size) 38 #[.int .i64 m.size, .slice Am m.ids.length cm]) := (B_m_w4.out).on hb
    clear c_m_0_w4
    clear c_m_1_w4
    have T_w5 : Hid (Tp w5 w.heap.size (0 + 40 + 12)) := (T_w4.out).on hb
    have G_w5 : Hid (w.grownBy w5 (some w.heap.size)) := g_below (G_w4.out) hb
    have S_w5 := G_w5.out.size
    have X_w5 := T_w5.out.lt
    have c_m_0_w5 : w5.cell? ⟨w2.heap.size, 0, none⟩ = some (.int .i64 m.size) := by rw [B_m_w5.out.cell]; rfl
    have c_m_1_w5 : w5.cell? ⟨w2.heap.size, 1, none⟩ = some (.slice Am m.ids.length cm) := by rw [B_m_w5.out.cell]; rfl
    have L_m_w5 := B_m_w5.out.lt
    have R_z_w5 : Hid (RdC w5 w.heap.size A5 Z) := hr
    clear hr hb he
    go_wp2_with fail
    go_loopw [10] (fun v10 wr => ∃ s : Nat, 1 ≤ s ∧ s ≤ 5 ∧ v10 = .int .i64 s ∧ Below w5.heap.size w5 wr) (fun v10 _ => 5 - (intOf v10).toNat)
    case atStart => exact ⟨1, by omega, by omega, rfl, Below.refl _ _⟩
    case round =>
      obtain ⟨s, hs1, hs5, rfl, hb⟩ := hrel
      have Hb := Lib.hid hb
      clear hb
      by_cases hlt : s < 5
      · have hds : decide ((s : Int) < 5) = true := by simp; omega
        rename World => wa
        go_wp2_with fail
        go_loopw [11] (fun v11 wr => ∃ z : Nat, 1 ≤ z ∧ z ≤ 3 ∧ v11 = .int .i64 z ∧ Below w5.heap.size w5 wr) (fun v11 _ => 3 - (intOf v11).toNat)
        case atStart => exact ⟨1, by omega, by omega, rfl, Hb.out⟩
        case round =>
          obtain ⟨z, hz1, hz3, rfl, hb⟩ := hrel
          have hsz := hb.size
          have Hb2 := Lib.hid hb
          clear hb
          by_cases hlz : z < 3
          · have B1 : Hid (Below w5.heap.size w5 (wr.alloc (.cells #[.int .u64 s, .int .i64 z] 43))) := Hb2.out.alloc hsz _
            go_wp2_with fail
            refine (N_any w.heap.size t At ct s z _ (R_t_w5.out.on B1.out) (by omega)).mono ?_
            rintro e w8 ⟨rfl, hb⟩
            rw [nP_ok Htb.out]
            have B2 : Hid (Below w5.heap.size w5 w8) := B1.out.trans (hb.mono (by simp; omega))
            have I8 : Hid (IsB w8 wr.heap.size 43 #[.int .u64 s, .int .i64 z]) := (IsB.new _ _ _).on hb
            have hs8 := B2.out.size
            clear hb
            have i0 : w8.cell? ⟨wr.heap.size, 0, none⟩ = some (.int .u64 s) := by rw [I8.out.cell]; rfl
            have i1 : w8.cell? ⟨wr.heap.size, 1, none⟩ = some (.int .i64 z) := by rw [I8.out.cell]; rfl
            go_wp2_with fail
            refine (N_any w.heap.size Z A5 c5 s z _ (R_z_w5.out.on B2.out) (by omega)).mono ?_
            rintro e w9 ⟨rfl, hb⟩
            rw [nP_ok HhZ0.out, HhNN.out]
            have B3 : Hid (Below w5.heap.size w5 w9) := B2.out.trans (hb.mono hs8)
            clear hb i0 i1
            go_wp2_with fail
            go_roundw
            case rel => exact ⟨z + 1, by omega, by omega, by go_num, B3.out⟩
            case measure => simp [intOf]; omega
          · obtain rfl : z = 3 := by omega
            go_wp2_with fail
            go_roundw
            case rel => exact ⟨s + 1, by omega, by omega, by go_num, Hb2.out⟩
            case measure => simp [intOf]; omega
      · obtain rfl : s = 5 := by omega
        go_wp2_with fail
        go_ret
        exact ⟨rfl, law_end (g_below G_w5.out Hb.out)⟩
end Go.Proofs.Ytjglpmcekbjoaaa
