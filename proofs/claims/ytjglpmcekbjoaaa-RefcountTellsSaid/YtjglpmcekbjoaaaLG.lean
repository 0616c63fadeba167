/- Walks of laws: RefcountOf, RefcountChecks. -/
import Derived.Test.YtjglpmcekbjoaaaLA
namespace Go.Proofs.Ytjglpmcekbjoaaa
open Go.RowKit Go.MapKept Go.ChangeMaps
attribute [local go_sem] wext_cell

theorem RdM.alloc {w : World} {x : Nat} {A : Option Addr} {ms : List Man} (h : RdM w x A ms) (o : Obj) : RdM (w.alloc o) x A ms := h.on (bel1 _ _)
theorem dead_len (t : List CT) : (deadP t).length ≤ 4096 := by
  unfold deadP
  split
  · rename_i h
    have := ((tblE_iff t).1 h).1
    have := deadL_len t
    show (deadL t).length ≤ 4096
    omega
  · simp
theorem sweep_len (t : List CT) : (sweepP t).length ≤ 4096 := by
  unfold sweepP
  split
  · rename_i h
    have := ((tblE_iff t).1 h).1
    have := List.length_filter_le (fun c : CT => !(c.2 == 0)) t
    omega
  · simp

theorem law_end1 {w w' : World} (h : w.grownBy w' (some (w.heap.size + 1))) : Below w.heap.size w w' :=
  ⟨h.os, h.tape, h.output, h.size, fun i hi => h.block i hi (fun e => by injection e with e; omega)⟩

set_option maxRecDepth 100000 in
set_option maxHeartbeats 8000000 in
theorem law3 (R : Option Addr) (raw : List Man) (rc : Nat) (A : Option Addr) (l : List Int) (c : Nat) (w : World) (hr : RdT w w.heap.size A l) (hn : l.length ≤ 9223372036854775807) (hraw : RdM w w.heap.size R raw) (hri : ∀ m ∈ raw, m.ids.length ≤ 9223372036854775807) (hro : ∀ m ∈ raw, ∀ i ∈ m.ids, okID i) :
    Calls Try.prog 3 #[.slice R raw.length rc, .slice A l.length c] w (Gives (.bool true) w) := by
  have T_w : Hid (Tp (w.alloc (.cells #[.slice A l.length c, .int .i64 0] 26)) w.heap.size 0) := tape0 hr hn
  have G_w : Hid (w.grownBy (w.alloc (.cells #[.slice A l.length c, .int .i64 0] 26)) (some w.heap.size)) := World.grownBy_alloc _ _ _
  have R_raw_w : Hid (RdM (w.alloc (.cells #[.slice A l.length c, .int .i64 0] 26)) w.heap.size R raw) := hraw.alloc _
  have Hri := Lib.hid hri
  have Hro := Lib.hid hro
  clear hr hn hraw hri hro
  by_cases h20 : 20 < raw.length
  · go_enter Try.func3, Try.ntmps3
    go_wp2_with fail
    go_ret
    exact ⟨rfl, Below.refl _ _⟩
  go_enter Try.func3, Try.ntmps3
  go_wp2_with fail
  refine (lists_any true w.heap.size 0 _ (by omega) T_w.out).mono ?_
  rintro e w1 ⟨m, Am, cm, hm, hlm, rfl, hrm, hcm, _, ht, hg⟩
  have T_w1 : Hid (Tp w1 w.heap.size (0 + 49)) := ht
  have R_raw_w1 : Hid (RdM w1 w.heap.size R raw) := (R_raw_w.out).gr hg
  have G_w1 : Hid (w.grownBy w1 (some w.heap.size)) := g_trans (G_w.out) hg
  have S_w1 := G_w1.out.size
  have X_w1 := T_w1.out.lt
  have R_m_w1 := Lib.hid hrm
  have H_hm := Lib.hid hm
  clear hrm hm ht hg
  obtain ⟨pa, qa, Ha⟩ := pair_ (ofP raw)
  have hpa := of_len raw
  rw [Ha.out] at hpa
  simp only at hpa
  obtain ⟨pb, qb, Hb⟩ := pair_ (ofP m)
  have hpb := of_len m
  rw [Hb.out] at hpb
  simp only at hpb
  go_wp2_with fail
  refine (Of_any w.heap.size raw R rc _ R_raw_w1.out (by omega) (by omega) Hri.out Hro.out).mono ?_
  intro e w2 h
  rw [Ha.out] at h
  obtain ⟨A2, c2, he, hr, hc2, hb⟩ := h
  have he' : e = .returned (.tuple #[.slice A2 pa.length c2, .int .i64 qa]) := he
  subst he'
  have R_raw_w2 : Hid (RdM w2 w.heap.size R raw) := (R_raw_w1.out).on hb
  have R_m_w2 : Hid (RdM w2 w.heap.size Am m) := (R_m_w1.out).on hb
  have T_w2 : Hid (Tp w2 w.heap.size (0 + 49)) := (T_w1.out).on hb
  have G_w2 : Hid (w.grownBy w2 (some w.heap.size)) := g_below (G_w1.out) hb
  have S_w2 := G_w2.out.size
  have X_w2 := T_w2.out.lt
  have R_x_w2 : Hid (RdC w2 w.heap.size A2 pa) := hr
  clear hr hb he
  go_wp2_with fail
  refine (rOf_any w.heap.size raw R rc _ R_raw_w2.out (by omega) (by omega) Hri.out).mono ?_
  intro e w3 h
  rw [Ha.out] at h
  obtain ⟨A3, c3, he, hr, hc3, hb⟩ := h
  have he' : e = .returned (.tuple #[.slice A3 pa.length c3, .int .i64 qa]) := he
  subst he'
  have R_raw_w3 : Hid (RdM w3 w.heap.size R raw) := (R_raw_w2.out).on hb
  have R_m_w3 : Hid (RdM w3 w.heap.size Am m) := (R_m_w2.out).on hb
  have R_x_w3 : Hid (RdC w3 w.heap.size A2 pa) := (R_x_w2.out).on hb
  have T_w3 : Hid (Tp w3 w.heap.size (0 + 49)) := (T_w2.out).on hb
  have G_w3 : Hid (w.grownBy w3 (some w.heap.size)) := g_below (G_w2.out) hb
  have S_w3 := G_w3.out.size
  have X_w3 := T_w3.out.lt
  have R_y_w3 : Hid (RdC w3 w.heap.size A3 pa) := hr
  clear hr hb he
  go_wp2_with fail
  refine (Of_any w.heap.size m Am cm _ R_m_w3.out (by omega) (by omega) (fun y hy => by have := fewM_len (H_hm.out y hy); omega) (fun y hy => fewM_ok (H_hm.out y hy))).mono ?_
  intro e w4 h
  rw [Hb.out] at h
  obtain ⟨A4, c4, he, hr, hc4, hb⟩ := h
  have he' : e = .returned (.tuple #[.slice A4 pb.length c4, .int .i64 qb]) := he
  subst he'
  have R_raw_w4 : Hid (RdM w4 w.heap.size R raw) := (R_raw_w3.out).on hb
  have R_m_w4 : Hid (RdM w4 w.heap.size Am m) := (R_m_w3.out).on hb
  have R_x_w4 : Hid (RdC w4 w.heap.size A2 pa) := (R_x_w3.out).on hb
  have R_y_w4 : Hid (RdC w4 w.heap.size A3 pa) := (R_y_w3.out).on hb
  have T_w4 : Hid (Tp w4 w.heap.size (0 + 49)) := (T_w3.out).on hb
  have G_w4 : Hid (w.grownBy w4 (some w.heap.size)) := g_below (G_w3.out) hb
  have S_w4 := G_w4.out.size
  have X_w4 := T_w4.out.lt
  have R_u_w4 : Hid (RdC w4 w.heap.size A4 pb) := hr
  clear hr hb he
  go_wp2_with fail
  refine (rOf_any w.heap.size m Am cm _ R_m_w4.out (by omega) (by omega) (fun y hy => by have := fewM_len (H_hm.out y hy); omega)).mono ?_
  intro e w5 h
  rw [Hb.out] at h
  obtain ⟨A5, c5, he, hr, hc5, hb⟩ := h
  have he' : e = .returned (.tuple #[.slice A5 pb.length c5, .int .i64 qb]) := he
  subst he'
  have R_raw_w5 : Hid (RdM w5 w.heap.size R raw) := (R_raw_w4.out).on hb
  have R_m_w5 : Hid (RdM w5 w.heap.size Am m) := (R_m_w4.out).on hb
  have R_x_w5 : Hid (RdC w5 w.heap.size A2 pa) := (R_x_w4.out).on hb
  have R_y_w5 : Hid (RdC w5 w.heap.size A3 pa) := (R_y_w4.out).on hb
  have R_u_w5 : Hid (RdC w5 w.heap.size A4 pb) := (R_u_w4.out).on hb
  have T_w5 : Hid (Tp w5 w.heap.size (0 + 49)) := (T_w4.out).on hb
  have G_w5 : Hid (w.grownBy w5 (some w.heap.size)) := g_below (G_w4.out) hb
  have S_w5 := G_w5.out.size
  have X_w5 := T_w5.out.lt
  have R_v_w5 : Hid (RdC w5 w.heap.size A5 pb) := hr
  clear hr hb he
  go_wp2_with fail
  refine (known_any w.heap.size _ (by omega)).mono ?_
  rintro e w6 ⟨rfl, hb⟩
  have R_raw_w6 : Hid (RdM w6 w.heap.size R raw) := (R_raw_w5.out).on hb
  have R_m_w6 : Hid (RdM w6 w.heap.size Am m) := (R_m_w5.out).on hb
  have R_x_w6 : Hid (RdC w6 w.heap.size A2 pa) := (R_x_w5.out).on hb
  have R_y_w6 : Hid (RdC w6 w.heap.size A3 pa) := (R_y_w5.out).on hb
  have R_u_w6 : Hid (RdC w6 w.heap.size A4 pb) := (R_u_w5.out).on hb
  have R_v_w6 : Hid (RdC w6 w.heap.size A5 pb) := (R_v_w5.out).on hb
  have T_w6 : Hid (Tp w6 w.heap.size (0 + 49)) := (T_w5.out).on hb
  have G_w6 : Hid (w.grownBy w6 (some w.heap.size)) := g_below (G_w5.out) hb
  have S_w6 := G_w6.out.size
  have X_w6 := T_w6.out.lt
  clear hb
  go_wp2_with fail
  refine (same_true w.heap.size w.heap.size pa A2 A3 c2 c3 _ R_x_w6.out R_y_w6.out (by omega)).mono ?_
  rintro e w7 ⟨rfl, hb⟩
  have R_raw_w7 : Hid (RdM w7 w.heap.size R raw) := (R_raw_w6.out).on hb
  have R_m_w7 : Hid (RdM w7 w.heap.size Am m) := (R_m_w6.out).on hb
  have R_x_w7 : Hid (RdC w7 w.heap.size A2 pa) := (R_x_w6.out).on hb
  have R_y_w7 : Hid (RdC w7 w.heap.size A3 pa) := (R_y_w6.out).on hb
  have R_u_w7 : Hid (RdC w7 w.heap.size A4 pb) := (R_u_w6.out).on hb
  have R_v_w7 : Hid (RdC w7 w.heap.size A5 pb) := (R_v_w6.out).on hb
  have T_w7 : Hid (Tp w7 w.heap.size (0 + 49)) := (T_w6.out).on hb
  have G_w7 : Hid (w.grownBy w7 (some w.heap.size)) := g_below (G_w6.out) hb
  have S_w7 := G_w7.out.size
  have X_w7 := T_w7.out.lt
  clear hb
  go_wp2_with fail
  refine (same_true w.heap.size w.heap.size pb A4 A5 c4 c5 _ R_u_w7.out R_v_w7.out (by omega)).mono ?_
  rintro e w8 ⟨rfl, hb⟩
  have R_raw_w8 : Hid (RdM w8 w.heap.size R raw) := (R_raw_w7.out).on hb
  have R_m_w8 : Hid (RdM w8 w.heap.size Am m) := (R_m_w7.out).on hb
  have R_x_w8 : Hid (RdC w8 w.heap.size A2 pa) := (R_x_w7.out).on hb
  have R_y_w8 : Hid (RdC w8 w.heap.size A3 pa) := (R_y_w7.out).on hb
  have R_u_w8 : Hid (RdC w8 w.heap.size A4 pb) := (R_u_w7.out).on hb
  have R_v_w8 : Hid (RdC w8 w.heap.size A5 pb) := (R_v_w7.out).on hb
  have T_w8 : Hid (Tp w8 w.heap.size (0 + 49)) := (T_w7.out).on hb
  have G_w8 : Hid (w.grownBy w8 (some w.heap.size)) := g_below (G_w7.out) hb
  have S_w8 := G_w8.out.size
  have X_w8 := T_w8.out.lt
  clear hb
  go_wp2_with fail
  go_ret
  exact ⟨rfl, law_end G_w8.out⟩

set_option maxRecDepth 100000 in
set_option maxHeartbeats 8000000 in
theorem law10 (R : Option Addr) (raw : List CT) (rc : Nat) (s z : Int) (A : Option Addr) (l : List Int) (c : Nat) (w : World) (hr : RdT w w.heap.size A l) (hn : l.length ≤ 9223372036854775807) (hraw : RdC w w.heap.size R raw) (hrl : raw.length ≤ 9223372036854775807) :
    Calls Try.prog 10 #[.slice R raw.length rc, .agg #[.int .u64 s, .int .i64 z], .slice A l.length c] w (Gives (.bool true) w) := by
  have T_w : Hid (Tp ((w.alloc (.cells #[.int .u64 s, .int .i64 z] 43)).alloc (.cells #[.slice A l.length c, .int .i64 0] 26)) (w.heap.size + 1) 0) :=
    ⟨A, c, 0, l, newAt _ _ _ _ (by simp), Nat.le_refl _, hn, fun hp => by
      obtain ⟨b, o, e, hb, hc⟩ := hr hp
      exact ⟨b, o, e, by omega, fun j hj => ((((Below.refl w.heap.size w).alloc (Nat.le_refl _) _).alloc (by simp) _).cell (p := ⟨b, o + j, none⟩) hb).trans (hc j hj)⟩⟩
  have G_w : Hid (w.grownBy ((w.alloc (.cells #[.int .u64 s, .int .i64 z] 43)).alloc (.cells #[.slice A l.length c, .int .i64 0] 26)) (some (w.heap.size + 1))) := g_alloc (World.grownBy_alloc _ _ _) _
  have R_raw_w : Hid (RdC ((w.alloc (.cells #[.int .u64 s, .int .i64 z] 43)).alloc (.cells #[.slice A l.length c, .int .i64 0] 26)) (w.heap.size + 1) R raw) := by
    refine Rd.alloc (Rd.alloc ?_ _) _
    intro hp
    obtain ⟨b, o, e, hb, _, hc⟩ := hraw hp
    exact ⟨b, o, e, hb, by omega, hc⟩
  have B_i_w : Hid (IsB ((w.alloc (.cells #[.int .u64 s, .int .i64 z] 43)).alloc (.cells #[.slice A l.length c, .int .i64 0] 26)) w.heap.size 43 #[.int .u64 s, .int .i64 z]) := (IsB.new _ _ _).alloc _
  clear hr hn hraw
  go_enter Try.func10, Try.ntmps10
  go_wp2_with fail
  refine (tabM_any true (w.heap.size + 1) 0 _ (by omega) T_w.out).mono ?_
  rintro e w1 ⟨y, Ay, cy, _, hl9, _, rfl, hry, hcy, ht, hg⟩
  have T_w1 : Hid (Tp w1 (w.heap.size + 1) (0 + 40)) := ht
  have R_raw_w1 : Hid (RdC w1 (w.heap.size + 1) R raw) := (R_raw_w.out).gr hg
  have B_i_w1 : Hid (IsB w1 (w.heap.size) 43 #[.int .u64 s, .int .i64 z]) := (B_i_w.out).grown hg (fun e => by injection e with e; have := B_i_w.out.lt; omega)
  have G_w1 : Hid (w.grownBy w1 (some (w.heap.size + 1))) := g_trans (G_w.out) hg
  have S_w1 := G_w1.out.size
  have X_w1 := T_w1.out.lt
  have c_i_0_w1 : w1.cell? ⟨w.heap.size, 0, none⟩ = some (.int .u64 s) := by rw [B_i_w1.out.cell]; rfl
  have c_i_1_w1 : w1.cell? ⟨w.heap.size, 1, none⟩ = some (.int .i64 z) := by rw [B_i_w1.out.cell]; rfl
  have L_i_w1 := B_i_w1.out.lt
  have R_y_w1 := Lib.hid hry
  clear hry ht hg
  go_wp2_with fail
  refine (id_any (w.heap.size + 1) (0 + 40) _ (by omega) T_w1.out).mono ?_
  rintro e w2 ⟨⟨ks, kz⟩, hk, rfl, ht, hg⟩
  have T_w2 : Hid (Tp w2 (w.heap.size + 1) (0 + 40 + 2)) := ht
  have R_raw_w2 : Hid (RdC w2 (w.heap.size + 1) R raw) := (R_raw_w1.out).gr hg
  have R_y_w2 : Hid (RdC w2 (w.heap.size + 1) Ay y) := (R_y_w1.out).gr hg
  have B_i_w2 : Hid (IsB w2 (w.heap.size) 43 #[.int .u64 s, .int .i64 z]) := (B_i_w1.out).grown hg (fun e => by injection e with e; have := B_i_w1.out.lt; omega)
  clear c_i_0_w1
  clear c_i_1_w1
  have G_w2 : Hid (w.grownBy w2 (some (w.heap.size + 1))) := g_trans (G_w1.out) hg
  have S_w2 := G_w2.out.size
  have X_w2 := T_w2.out.lt
  have c_i_0_w2 : w2.cell? ⟨w.heap.size, 0, none⟩ = some (.int .u64 s) := by rw [B_i_w2.out.cell]; rfl
  have c_i_1_w2 : w2.cell? ⟨w.heap.size, 1, none⟩ = some (.int .i64 z) := by rw [B_i_w2.out.cell]; rfl
  have L_i_w2 := B_i_w2.out.lt
  have H_hk := Lib.hid hk
  clear hk ht hg
  go_wp2_with fail
  refine (N_any (w.heap.size + 1) raw R rc s z _ (R_raw_w2.out.alloc _) hrl).mono ?_
  rintro e w3 ⟨rfl, hb⟩
  have B_k_w3 : Hid (IsB w3 (w2.heap.size) 43 #[.int .u64 ks, .int .i64 kz]) := (IsB.new w2 _ _).on hb
  have R_raw_w3 : Hid (RdC w3 (w.heap.size + 1) R raw) := (R_raw_w2.out.alloc _).on hb
  have R_y_w3 : Hid (RdC w3 (w.heap.size + 1) Ay y) := (R_y_w2.out.alloc _).on hb
  have B_i_w3 : Hid (IsB w3 (w.heap.size) 43 #[.int .u64 s, .int .i64 z]) := (B_i_w2.out.alloc _).on hb
  clear c_i_0_w2
  clear c_i_1_w2
  have T_w3 : Hid (Tp w3 (w.heap.size + 1) (0 + 40 + 2)) := (T_w2.out.alloc _).on hb
  have G_w3 : Hid (w.grownBy w3 (some (w.heap.size + 1))) := g_below (g_alloc (G_w2.out) _) hb
  have S_w3 := G_w3.out.size
  have X_w3 := T_w3.out.lt
  have c_i_0_w3 : w3.cell? ⟨w.heap.size, 0, none⟩ = some (.int .u64 s) := by rw [B_i_w3.out.cell]; rfl
  have c_i_1_w3 : w3.cell? ⟨w.heap.size, 1, none⟩ = some (.int .i64 z) := by rw [B_i_w3.out.cell]; rfl
  have L_i_w3 := B_i_w3.out.lt
  have c_k_0_w3 : w3.cell? ⟨w2.heap.size, 0, none⟩ = some (.int .u64 ks) := by rw [B_k_w3.out.cell]; rfl
  have c_k_1_w3 : w3.cell? ⟨w2.heap.size, 1, none⟩ = some (.int .i64 kz) := by rw [B_k_w3.out.cell]; rfl
  have L_k_w3 := B_k_w3.out.lt
  clear hb
  go_wp2_with fail
  refine (rN_any (w.heap.size + 1) raw R rc s z _ R_raw_w3.out hrl).mono ?_
  rintro e w4 ⟨rfl, hb⟩
  have R_raw_w4 : Hid (RdC w4 (w.heap.size + 1) R raw) := (R_raw_w3.out).on hb
  have R_y_w4 : Hid (RdC w4 (w.heap.size + 1) Ay y) := (R_y_w3.out).on hb
  have B_i_w4 : Hid (IsB w4 (w.heap.size) 43 #[.int .u64 s, .int .i64 z]) := (B_i_w3.out).on hb
  have B_k_w4 : Hid (IsB w4 (w2.heap.size) 43 #[.int .u64 ks, .int .i64 kz]) := (B_k_w3.out).on hb
  clear c_i_0_w3
  clear c_i_1_w3
  clear c_k_0_w3
  clear c_k_1_w3
  have T_w4 : Hid (Tp w4 (w.heap.size + 1) (0 + 40 + 2)) := (T_w3.out).on hb
  have G_w4 : Hid (w.grownBy w4 (some (w.heap.size + 1))) := g_below (G_w3.out) hb
  have S_w4 := G_w4.out.size
  have X_w4 := T_w4.out.lt
  have c_i_0_w4 : w4.cell? ⟨w.heap.size, 0, none⟩ = some (.int .u64 s) := by rw [B_i_w4.out.cell]; rfl
  have c_i_1_w4 : w4.cell? ⟨w.heap.size, 1, none⟩ = some (.int .i64 z) := by rw [B_i_w4.out.cell]; rfl
  have L_i_w4 := B_i_w4.out.lt
  have c_k_0_w4 : w4.cell? ⟨w2.heap.size, 0, none⟩ = some (.int .u64 ks) := by rw [B_k_w4.out.cell]; rfl
  have c_k_1_w4 : w4.cell? ⟨w2.heap.size, 1, none⟩ = some (.int .i64 kz) := by rw [B_k_w4.out.cell]; rfl
  have L_k_w4 := B_k_w4.out.lt
  clear hb
  go_wp2_with fail
  refine (N_any (w.heap.size + 1) y Ay cy ks kz _ R_y_w4.out (by omega)).mono ?_
  rintro e w5 ⟨rfl, hb⟩
  have R_raw_w5 : Hid (RdC w5 (w.heap.size + 1) R raw) := (R_raw_w4.out).on hb
  have R_y_w5 : Hid (RdC w5 (w.heap.size + 1) Ay y) := (R_y_w4.out).on hb
  have B_i_w5 : Hid (IsB w5 (w.heap.size) 43 #[.int .u64 s, .int .i64 z]) := (B_i_w4.out).on hb
  have B_k_w5 : Hid (IsB w5 (w2.heap.size) 43 #[.int .u64 ks, .int .i64 kz]) := (B_k_w4.out).on hb
  clear c_i_0_w4
  clear c_i_1_w4
  clear c_k_0_w4
  clear c_k_1_w4
  have T_w5 : Hid (Tp w5 (w.heap.size + 1) (0 + 40 + 2)) := (T_w4.out).on hb
  have G_w5 : Hid (w.grownBy w5 (some (w.heap.size + 1))) := g_below (G_w4.out) hb
  have S_w5 := G_w5.out.size
  have X_w5 := T_w5.out.lt
  have c_i_0_w5 : w5.cell? ⟨w.heap.size, 0, none⟩ = some (.int .u64 s) := by rw [B_i_w5.out.cell]; rfl
  have c_i_1_w5 : w5.cell? ⟨w.heap.size, 1, none⟩ = some (.int .i64 z) := by rw [B_i_w5.out.cell]; rfl
  have L_i_w5 := B_i_w5.out.lt
  have c_k_0_w5 : w5.cell? ⟨w2.heap.size, 0, none⟩ = some (.int .u64 ks) := by rw [B_k_w5.out.cell]; rfl
  have c_k_1_w5 : w5.cell? ⟨w2.heap.size, 1, none⟩ = some (.int .i64 kz) := by rw [B_k_w5.out.cell]; rfl
  have L_k_w5 := B_k_w5.out.lt
  clear hb
  go_wp2_with fail
  refine (rN_any (w.heap.size + 1) y Ay cy ks kz _ R_y_w5.out (by omega)).mono ?_
  rintro e w6 ⟨rfl, hb⟩
  have R_raw_w6 : Hid (RdC w6 (w.heap.size + 1) R raw) := (R_raw_w5.out).on hb
  have R_y_w6 : Hid (RdC w6 (w.heap.size + 1) Ay y) := (R_y_w5.out).on hb
  have B_i_w6 : Hid (IsB w6 (w.heap.size) 43 #[.int .u64 s, .int .i64 z]) := (B_i_w5.out).on hb
  have B_k_w6 : Hid (IsB w6 (w2.heap.size) 43 #[.int .u64 ks, .int .i64 kz]) := (B_k_w5.out).on hb
  clear c_i_0_w5
  clear c_i_1_w5
  clear c_k_0_w5
  clear c_k_1_w5
  have T_w6 : Hid (Tp w6 (w.heap.size + 1) (0 + 40 + 2)) := (T_w5.out).on hb
  have G_w6 : Hid (w.grownBy w6 (some (w.heap.size + 1))) := g_below (G_w5.out) hb
  have S_w6 := G_w6.out.size
  have X_w6 := T_w6.out.lt
  have c_i_0_w6 : w6.cell? ⟨w.heap.size, 0, none⟩ = some (.int .u64 s) := by rw [B_i_w6.out.cell]; rfl
  have c_i_1_w6 : w6.cell? ⟨w.heap.size, 1, none⟩ = some (.int .i64 z) := by rw [B_i_w6.out.cell]; rfl
  have L_i_w6 := B_i_w6.out.lt
  have c_k_0_w6 : w6.cell? ⟨w2.heap.size, 0, none⟩ = some (.int .u64 ks) := by rw [B_k_w6.out.cell]; rfl
  have c_k_1_w6 : w6.cell? ⟨w2.heap.size, 1, none⟩ = some (.int .i64 kz) := by rw [B_k_w6.out.cell]; rfl
  have L_k_w6 := B_k_w6.out.lt
  clear hb
  go_wp2_with fail
  refine (known_any (w.heap.size + 1) _ (by omega)).mono ?_
  rintro e w7 ⟨rfl, hb⟩
  have R_raw_w7 : Hid (RdC w7 (w.heap.size + 1) R raw) := (R_raw_w6.out).on hb
  have R_y_w7 : Hid (RdC w7 (w.heap.size + 1) Ay y) := (R_y_w6.out).on hb
  have B_i_w7 : Hid (IsB w7 (w.heap.size) 43 #[.int .u64 s, .int .i64 z]) := (B_i_w6.out).on hb
  have B_k_w7 : Hid (IsB w7 (w2.heap.size) 43 #[.int .u64 ks, .int .i64 kz]) := (B_k_w6.out).on hb
  clear c_i_0_w6
  clear c_i_1_w6
  clear c_k_0_w6
  clear c_k_1_w6
  have T_w7 : Hid (Tp w7 (w.heap.size + 1) (0 + 40 + 2)) := (T_w6.out).on hb
  have G_w7 : Hid (w.grownBy w7 (some (w.heap.size + 1))) := g_below (G_w6.out) hb
  have S_w7 := G_w7.out.size
  have X_w7 := T_w7.out.lt
  have c_i_0_w7 : w7.cell? ⟨w.heap.size, 0, none⟩ = some (.int .u64 s) := by rw [B_i_w7.out.cell]; rfl
  have c_i_1_w7 : w7.cell? ⟨w.heap.size, 1, none⟩ = some (.int .i64 z) := by rw [B_i_w7.out.cell]; rfl
  have L_i_w7 := B_i_w7.out.lt
  have c_k_0_w7 : w7.cell? ⟨w2.heap.size, 0, none⟩ = some (.int .u64 ks) := by rw [B_k_w7.out.cell]; rfl
  have c_k_1_w7 : w7.cell? ⟨w2.heap.size, 1, none⟩ = some (.int .i64 kz) := by rw [B_k_w7.out.cell]; rfl
  have L_k_w7 := B_k_w7.out.lt
  clear hb
  go_wp2_with fail
  refine (Check_any (w.heap.size + 1) raw R rc _ R_raw_w7.out hrl).mono ?_
  rintro e w8 ⟨rfl, hb⟩
  have R_raw_w8 : Hid (RdC w8 (w.heap.size + 1) R raw) := (R_raw_w7.out).on hb
  have R_y_w8 : Hid (RdC w8 (w.heap.size + 1) Ay y) := (R_y_w7.out).on hb
  have B_i_w8 : Hid (IsB w8 (w.heap.size) 43 #[.int .u64 s, .int .i64 z]) := (B_i_w7.out).on hb
  have B_k_w8 : Hid (IsB w8 (w2.heap.size) 43 #[.int .u64 ks, .int .i64 kz]) := (B_k_w7.out).on hb
  clear c_i_0_w7
  clear c_i_1_w7
  clear c_k_0_w7
  clear c_k_1_w7
  have T_w8 : Hid (Tp w8 (w.heap.size + 1) (0 + 40 + 2)) := (T_w7.out).on hb
  have G_w8 : Hid (w.grownBy w8 (some (w.heap.size + 1))) := g_below (G_w7.out) hb
  have S_w8 := G_w8.out.size
  have X_w8 := T_w8.out.lt
  have c_i_0_w8 : w8.cell? ⟨w.heap.size, 0, none⟩ = some (.int .u64 s) := by rw [B_i_w8.out.cell]; rfl
  have c_i_1_w8 : w8.cell? ⟨w.heap.size, 1, none⟩ = some (.int .i64 z) := by rw [B_i_w8.out.cell]; rfl
  have L_i_w8 := B_i_w8.out.lt
  have c_k_0_w8 : w8.cell? ⟨w2.heap.size, 0, none⟩ = some (.int .u64 ks) := by rw [B_k_w8.out.cell]; rfl
  have c_k_1_w8 : w8.cell? ⟨w2.heap.size, 1, none⟩ = some (.int .i64 kz) := by rw [B_k_w8.out.cell]; rfl
  have L_k_w8 := B_k_w8.out.lt
  clear hb
  go_wp2_with fail
  refine (rCheck_any (w.heap.size + 1) raw R rc _ R_raw_w8.out hrl).mono ?_
  rintro e w9 ⟨rfl, hb⟩
  have R_raw_w9 : Hid (RdC w9 (w.heap.size + 1) R raw) := (R_raw_w8.out).on hb
  have R_y_w9 : Hid (RdC w9 (w.heap.size + 1) Ay y) := (R_y_w8.out).on hb
  have B_i_w9 : Hid (IsB w9 (w.heap.size) 43 #[.int .u64 s, .int .i64 z]) := (B_i_w8.out).on hb
  have B_k_w9 : Hid (IsB w9 (w2.heap.size) 43 #[.int .u64 ks, .int .i64 kz]) := (B_k_w8.out).on hb
  clear c_i_0_w8
  clear c_i_1_w8
  clear c_k_0_w8
  clear c_k_1_w8
  have T_w9 : Hid (Tp w9 (w.heap.size + 1) (0 + 40 + 2)) := (T_w8.out).on hb
  have G_w9 : Hid (w.grownBy w9 (some (w.heap.size + 1))) := g_below (G_w8.out) hb
  have S_w9 := G_w9.out.size
  have X_w9 := T_w9.out.lt
  have c_i_0_w9 : w9.cell? ⟨w.heap.size, 0, none⟩ = some (.int .u64 s) := by rw [B_i_w9.out.cell]; rfl
  have c_i_1_w9 : w9.cell? ⟨w.heap.size, 1, none⟩ = some (.int .i64 z) := by rw [B_i_w9.out.cell]; rfl
  have L_i_w9 := B_i_w9.out.lt
  have c_k_0_w9 : w9.cell? ⟨w2.heap.size, 0, none⟩ = some (.int .u64 ks) := by rw [B_k_w9.out.cell]; rfl
  have c_k_1_w9 : w9.cell? ⟨w2.heap.size, 1, none⟩ = some (.int .i64 kz) := by rw [B_k_w9.out.cell]; rfl
  have L_k_w9 := B_k_w9.out.lt
  clear hb
  go_wp2_with fail
  refine (Check_any (w.heap.size + 1) y Ay cy _ R_y_w9.out (by omega)).mono ?_
  rintro e w10 ⟨rfl, hb⟩
  have R_raw_w10 : Hid (RdC w10 (w.heap.size + 1) R raw) := (R_raw_w9.out).on hb
  have R_y_w10 : Hid (RdC w10 (w.heap.size + 1) Ay y) := (R_y_w9.out).on hb
  have B_i_w10 : Hid (IsB w10 (w.heap.size) 43 #[.int .u64 s, .int .i64 z]) := (B_i_w9.out).on hb
  have B_k_w10 : Hid (IsB w10 (w2.heap.size) 43 #[.int .u64 ks, .int .i64 kz]) := (B_k_w9.out).on hb
  clear c_i_0_w9
  clear c_i_1_w9
  clear c_k_0_w9
  clear c_k_1_w9
  have T_w10 : Hid (Tp w10 (w.heap.size + 1) (0 + 40 + 2)) := (T_w9.out).on hb
  have G_w10 : Hid (w.grownBy w10 (some (w.heap.size + 1))) := g_below (G_w9.out) hb
  have S_w10 := G_w10.out.size
  have X_w10 := T_w10.out.lt
  have c_i_0_w10 : w10.cell? ⟨w.heap.size, 0, none⟩ = some (.int .u64 s) := by rw [B_i_w10.out.cell]; rfl
  have c_i_1_w10 : w10.cell? ⟨w.heap.size, 1, none⟩ = some (.int .i64 z) := by rw [B_i_w10.out.cell]; rfl
  have L_i_w10 := B_i_w10.out.lt
  have c_k_0_w10 : w10.cell? ⟨w2.heap.size, 0, none⟩ = some (.int .u64 ks) := by rw [B_k_w10.out.cell]; rfl
  have c_k_1_w10 : w10.cell? ⟨w2.heap.size, 1, none⟩ = some (.int .i64 kz) := by rw [B_k_w10.out.cell]; rfl
  have L_k_w10 := B_k_w10.out.lt
  clear hb
  go_wp2_with fail
  refine (rCheck_any (w.heap.size + 1) y Ay cy _ R_y_w10.out (by omega)).mono ?_
  rintro e w11 ⟨rfl, hb⟩
  have R_raw_w11 : Hid (RdC w11 (w.heap.size + 1) R raw) := (R_raw_w10.out).on hb
  have R_y_w11 : Hid (RdC w11 (w.heap.size + 1) Ay y) := (R_y_w10.out).on hb
  have B_i_w11 : Hid (IsB w11 (w.heap.size) 43 #[.int .u64 s, .int .i64 z]) := (B_i_w10.out).on hb
  have B_k_w11 : Hid (IsB w11 (w2.heap.size) 43 #[.int .u64 ks, .int .i64 kz]) := (B_k_w10.out).on hb
  clear c_i_0_w10
  clear c_i_1_w10
  clear c_k_0_w10
  clear c_k_1_w10
  have T_w11 : Hid (Tp w11 (w.heap.size + 1) (0 + 40 + 2)) := (T_w10.out).on hb
  have G_w11 : Hid (w.grownBy w11 (some (w.heap.size + 1))) := g_below (G_w10.out) hb
  have S_w11 := G_w11.out.size
  have X_w11 := T_w11.out.lt
  have c_i_0_w11 : w11.cell? ⟨w.heap.size, 0, none⟩ = some (.int .u64 s) := by rw [B_i_w11.out.cell]; rfl
  have c_i_1_w11 : w11.cell? ⟨w.heap.size, 1, none⟩ = some (.int .i64 z) := by rw [B_i_w11.out.cell]; rfl
  have L_i_w11 := B_i_w11.out.lt
  have c_k_0_w11 : w11.cell? ⟨w2.heap.size, 0, none⟩ = some (.int .u64 ks) := by rw [B_k_w11.out.cell]; rfl
  have c_k_1_w11 : w11.cell? ⟨w2.heap.size, 1, none⟩ = some (.int .i64 kz) := by rw [B_k_w11.out.cell]; rfl
  have L_k_w11 := B_k_w11.out.lt
  clear hb
  go_wp2_with fail
  refine (Dead_any (w.heap.size + 1) raw R rc _ R_raw_w11.out (by omega) hrl).mono ?_
  rintro e w12 ⟨A12, c12, rfl, hr, hb⟩
  have R_raw_w12 : Hid (RdC w12 (w.heap.size + 1) R raw) := (R_raw_w11.out).on hb
  have R_y_w12 : Hid (RdC w12 (w.heap.size + 1) Ay y) := (R_y_w11.out).on hb
  have B_i_w12 : Hid (IsB w12 (w.heap.size) 43 #[.int .u64 s, .int .i64 z]) := (B_i_w11.out).on hb
  have B_k_w12 : Hid (IsB w12 (w2.heap.size) 43 #[.int .u64 ks, .int .i64 kz]) := (B_k_w11.out).on hb
  clear c_i_0_w11
  clear c_i_1_w11
  clear c_k_0_w11
  clear c_k_1_w11
  have T_w12 : Hid (Tp w12 (w.heap.size + 1) (0 + 40 + 2)) := (T_w11.out).on hb
  have G_w12 : Hid (w.grownBy w12 (some (w.heap.size + 1))) := g_below (G_w11.out) hb
  have S_w12 := G_w12.out.size
  have X_w12 := T_w12.out.lt
  have c_i_0_w12 : w12.cell? ⟨w.heap.size, 0, none⟩ = some (.int .u64 s) := by rw [B_i_w12.out.cell]; rfl
  have c_i_1_w12 : w12.cell? ⟨w.heap.size, 1, none⟩ = some (.int .i64 z) := by rw [B_i_w12.out.cell]; rfl
  have L_i_w12 := B_i_w12.out.lt
  have c_k_0_w12 : w12.cell? ⟨w2.heap.size, 0, none⟩ = some (.int .u64 ks) := by rw [B_k_w12.out.cell]; rfl
  have c_k_1_w12 : w12.cell? ⟨w2.heap.size, 1, none⟩ = some (.int .i64 kz) := by rw [B_k_w12.out.cell]; rfl
  have L_k_w12 := B_k_w12.out.lt
  have R_draw_w12 : Hid (RdID w12 (w.heap.size + 1) A12 (deadP raw)) := hr
  clear hr hb
  go_wp2_with fail
  refine (rDead_any (w.heap.size + 1) raw R rc _ R_raw_w12.out (by omega) hrl).mono ?_
  rintro e w13 ⟨A13, c13, rfl, hr, hb⟩
  have R_raw_w13 : Hid (RdC w13 (w.heap.size + 1) R raw) := (R_raw_w12.out).on hb
  have R_y_w13 : Hid (RdC w13 (w.heap.size + 1) Ay y) := (R_y_w12.out).on hb
  have R_draw_w13 : Hid (RdID w13 (w.heap.size + 1) A12 (deadP raw)) := (R_draw_w12.out).on hb
  have B_i_w13 : Hid (IsB w13 (w.heap.size) 43 #[.int .u64 s, .int .i64 z]) := (B_i_w12.out).on hb
  have B_k_w13 : Hid (IsB w13 (w2.heap.size) 43 #[.int .u64 ks, .int .i64 kz]) := (B_k_w12.out).on hb
  clear c_i_0_w12
  clear c_i_1_w12
  clear c_k_0_w12
  clear c_k_1_w12
  have T_w13 : Hid (Tp w13 (w.heap.size + 1) (0 + 40 + 2)) := (T_w12.out).on hb
  have G_w13 : Hid (w.grownBy w13 (some (w.heap.size + 1))) := g_below (G_w12.out) hb
  have S_w13 := G_w13.out.size
  have X_w13 := T_w13.out.lt
  have c_i_0_w13 : w13.cell? ⟨w.heap.size, 0, none⟩ = some (.int .u64 s) := by rw [B_i_w13.out.cell]; rfl
  have c_i_1_w13 : w13.cell? ⟨w.heap.size, 1, none⟩ = some (.int .i64 z) := by rw [B_i_w13.out.cell]; rfl
  have L_i_w13 := B_i_w13.out.lt
  have c_k_0_w13 : w13.cell? ⟨w2.heap.size, 0, none⟩ = some (.int .u64 ks) := by rw [B_k_w13.out.cell]; rfl
  have c_k_1_w13 : w13.cell? ⟨w2.heap.size, 1, none⟩ = some (.int .i64 kz) := by rw [B_k_w13.out.cell]; rfl
  have L_k_w13 := B_k_w13.out.lt
  have R_eraw_w13 : Hid (RdID w13 (w.heap.size + 1) A13 (deadP raw)) := hr
  clear hr hb
  go_wp2_with fail
  refine (sameI_true (w.heap.size + 1) (w.heap.size + 1) (deadP raw) A12 A13 c12 c13 _ R_draw_w13.out R_eraw_w13.out (by have := dead_len raw; omega)).mono ?_
  rintro e w14 ⟨rfl, hb⟩
  have R_raw_w14 : Hid (RdC w14 (w.heap.size + 1) R raw) := (R_raw_w13.out).on hb
  have R_y_w14 : Hid (RdC w14 (w.heap.size + 1) Ay y) := (R_y_w13.out).on hb
  have R_draw_w14 : Hid (RdID w14 (w.heap.size + 1) A12 (deadP raw)) := (R_draw_w13.out).on hb
  have R_eraw_w14 : Hid (RdID w14 (w.heap.size + 1) A13 (deadP raw)) := (R_eraw_w13.out).on hb
  have B_i_w14 : Hid (IsB w14 (w.heap.size) 43 #[.int .u64 s, .int .i64 z]) := (B_i_w13.out).on hb
  have B_k_w14 : Hid (IsB w14 (w2.heap.size) 43 #[.int .u64 ks, .int .i64 kz]) := (B_k_w13.out).on hb
  clear c_i_0_w13
  clear c_i_1_w13
  clear c_k_0_w13
  clear c_k_1_w13
  have T_w14 : Hid (Tp w14 (w.heap.size + 1) (0 + 40 + 2)) := (T_w13.out).on hb
  have G_w14 : Hid (w.grownBy w14 (some (w.heap.size + 1))) := g_below (G_w13.out) hb
  have S_w14 := G_w14.out.size
  have X_w14 := T_w14.out.lt
  have c_i_0_w14 : w14.cell? ⟨w.heap.size, 0, none⟩ = some (.int .u64 s) := by rw [B_i_w14.out.cell]; rfl
  have c_i_1_w14 : w14.cell? ⟨w.heap.size, 1, none⟩ = some (.int .i64 z) := by rw [B_i_w14.out.cell]; rfl
  have L_i_w14 := B_i_w14.out.lt
  have c_k_0_w14 : w14.cell? ⟨w2.heap.size, 0, none⟩ = some (.int .u64 ks) := by rw [B_k_w14.out.cell]; rfl
  have c_k_1_w14 : w14.cell? ⟨w2.heap.size, 1, none⟩ = some (.int .i64 kz) := by rw [B_k_w14.out.cell]; rfl
  have L_k_w14 := B_k_w14.out.lt
  clear hb
  go_wp2_with fail
  refine (Dead_any (w.heap.size + 1) y Ay cy _ R_y_w14.out (by omega) (by omega)).mono ?_
  rintro e w15 ⟨A15, c15, rfl, hr, hb⟩
  have R_raw_w15 : Hid (RdC w15 (w.heap.size + 1) R raw) := (R_raw_w14.out).on hb
  have R_y_w15 : Hid (RdC w15 (w.heap.size + 1) Ay y) := (R_y_w14.out).on hb
  have B_i_w15 : Hid (IsB w15 (w.heap.size) 43 #[.int .u64 s, .int .i64 z]) := (B_i_w14.out).on hb
  have B_k_w15 : Hid (IsB w15 (w2.heap.size) 43 #[.int .u64 ks, .int .i64 kz]) := (B_k_w14.out).on hb
  clear c_i_0_w14
  clear c_i_1_w14
  clear c_k_0_w14
  clear c_k_1_w14
  have T_w15 : Hid (Tp w15 (w.heap.size + 1) (0 + 40 + 2)) := (T_w14.out).on hb
  have G_w15 : Hid (w.grownBy w15 (some (w.heap.size + 1))) := g_below (G_w14.out) hb
  have S_w15 := G_w15.out.size
  have X_w15 := T_w15.out.lt
  have c_i_0_w15 : w15.cell? ⟨w.heap.size, 0, none⟩ = some (.int .u64 s) := by rw [B_i_w15.out.cell]; rfl
  have c_i_1_w15 : w15.cell? ⟨w.heap.size, 1, none⟩ = some (.int .i64 z) := by rw [B_i_w15.out.cell]; rfl
  have L_i_w15 := B_i_w15.out.lt
  have c_k_0_w15 : w15.cell? ⟨w2.heap.size, 0, none⟩ = some (.int .u64 ks) := by rw [B_k_w15.out.cell]; rfl
  have c_k_1_w15 : w15.cell? ⟨w2.heap.size, 1, none⟩ = some (.int .i64 kz) := by rw [B_k_w15.out.cell]; rfl
  have L_k_w15 := B_k_w15.out.lt
  have R_dy_w15 : Hid (RdID w15 (w.heap.size + 1) A15 (deadP y)) := hr
  clear hr hb
  go_wp2_with fail
  refine (rDead_any (w.heap.size + 1) y Ay cy _ R_y_w15.out (by omega) (by omega)).mono ?_
  rintro e w16 ⟨A16, c16, rfl, hr, hb⟩
  have R_raw_w16 : Hid (RdC w16 (w.heap.size + 1) R raw) := (R_raw_w15.out).on hb
  have R_y_w16 : Hid (RdC w16 (w.heap.size + 1) Ay y) := (R_y_w15.out).on hb
  have R_dy_w16 : Hid (RdID w16 (w.heap.size + 1) A15 (deadP y)) := (R_dy_w15.out).on hb
  have B_i_w16 : Hid (IsB w16 (w.heap.size) 43 #[.int .u64 s, .int .i64 z]) := (B_i_w15.out).on hb
  have B_k_w16 : Hid (IsB w16 (w2.heap.size) 43 #[.int .u64 ks, .int .i64 kz]) := (B_k_w15.out).on hb
  clear c_i_0_w15
  clear c_i_1_w15
  clear c_k_0_w15
  clear c_k_1_w15
  have T_w16 : Hid (Tp w16 (w.heap.size + 1) (0 + 40 + 2)) := (T_w15.out).on hb
  have G_w16 : Hid (w.grownBy w16 (some (w.heap.size + 1))) := g_below (G_w15.out) hb
  have S_w16 := G_w16.out.size
  have X_w16 := T_w16.out.lt
  have c_i_0_w16 : w16.cell? ⟨w.heap.size, 0, none⟩ = some (.int .u64 s) := by rw [B_i_w16.out.cell]; rfl
  have c_i_1_w16 : w16.cell? ⟨w.heap.size, 1, none⟩ = some (.int .i64 z) := by rw [B_i_w16.out.cell]; rfl
  have L_i_w16 := B_i_w16.out.lt
  have c_k_0_w16 : w16.cell? ⟨w2.heap.size, 0, none⟩ = some (.int .u64 ks) := by rw [B_k_w16.out.cell]; rfl
  have c_k_1_w16 : w16.cell? ⟨w2.heap.size, 1, none⟩ = some (.int .i64 kz) := by rw [B_k_w16.out.cell]; rfl
  have L_k_w16 := B_k_w16.out.lt
  have R_ey_w16 : Hid (RdID w16 (w.heap.size + 1) A16 (deadP y)) := hr
  clear hr hb
  go_wp2_with fail
  refine (sameI_true (w.heap.size + 1) (w.heap.size + 1) (deadP y) A15 A16 c15 c16 _ R_dy_w16.out R_ey_w16.out (by have := dead_len y; omega)).mono ?_
  rintro e w17 ⟨rfl, hb⟩
  have R_raw_w17 : Hid (RdC w17 (w.heap.size + 1) R raw) := (R_raw_w16.out).on hb
  have R_y_w17 : Hid (RdC w17 (w.heap.size + 1) Ay y) := (R_y_w16.out).on hb
  have R_dy_w17 : Hid (RdID w17 (w.heap.size + 1) A15 (deadP y)) := (R_dy_w16.out).on hb
  have R_ey_w17 : Hid (RdID w17 (w.heap.size + 1) A16 (deadP y)) := (R_ey_w16.out).on hb
  have B_i_w17 : Hid (IsB w17 (w.heap.size) 43 #[.int .u64 s, .int .i64 z]) := (B_i_w16.out).on hb
  have B_k_w17 : Hid (IsB w17 (w2.heap.size) 43 #[.int .u64 ks, .int .i64 kz]) := (B_k_w16.out).on hb
  clear c_i_0_w16
  clear c_i_1_w16
  clear c_k_0_w16
  clear c_k_1_w16
  have T_w17 : Hid (Tp w17 (w.heap.size + 1) (0 + 40 + 2)) := (T_w16.out).on hb
  have G_w17 : Hid (w.grownBy w17 (some (w.heap.size + 1))) := g_below (G_w16.out) hb
  have S_w17 := G_w17.out.size
  have X_w17 := T_w17.out.lt
  have c_i_0_w17 : w17.cell? ⟨w.heap.size, 0, none⟩ = some (.int .u64 s) := by rw [B_i_w17.out.cell]; rfl
  have c_i_1_w17 : w17.cell? ⟨w.heap.size, 1, none⟩ = some (.int .i64 z) := by rw [B_i_w17.out.cell]; rfl
  have L_i_w17 := B_i_w17.out.lt
  have c_k_0_w17 : w17.cell? ⟨w2.heap.size, 0, none⟩ = some (.int .u64 ks) := by rw [B_k_w17.out.cell]; rfl
  have c_k_1_w17 : w17.cell? ⟨w2.heap.size, 1, none⟩ = some (.int .i64 kz) := by rw [B_k_w17.out.cell]; rfl
  have L_k_w17 := B_k_w17.out.lt
  clear hb
  go_wp2_with fail
  refine (Sweep_any (w.heap.size + 1) raw R rc _ R_raw_w17.out (by omega) hrl).mono ?_
  rintro e w18 ⟨A18, c18, rfl, hr, hc, hb⟩
  have R_raw_w18 : Hid (RdC w18 (w.heap.size + 1) R raw) := (R_raw_w17.out).on hb
  have R_y_w18 : Hid (RdC w18 (w.heap.size + 1) Ay y) := (R_y_w17.out).on hb
  have B_i_w18 : Hid (IsB w18 (w.heap.size) 43 #[.int .u64 s, .int .i64 z]) := (B_i_w17.out).on hb
  have B_k_w18 : Hid (IsB w18 (w2.heap.size) 43 #[.int .u64 ks, .int .i64 kz]) := (B_k_w17.out).on hb
  clear c_i_0_w17
  clear c_i_1_w17
  clear c_k_0_w17
  clear c_k_1_w17
  have T_w18 : Hid (Tp w18 (w.heap.size + 1) (0 + 40 + 2)) := (T_w17.out).on hb
  have G_w18 : Hid (w.grownBy w18 (some (w.heap.size + 1))) := g_below (G_w17.out) hb
  have S_w18 := G_w18.out.size
  have X_w18 := T_w18.out.lt
  have c_i_0_w18 : w18.cell? ⟨w.heap.size, 0, none⟩ = some (.int .u64 s) := by rw [B_i_w18.out.cell]; rfl
  have c_i_1_w18 : w18.cell? ⟨w.heap.size, 1, none⟩ = some (.int .i64 z) := by rw [B_i_w18.out.cell]; rfl
  have L_i_w18 := B_i_w18.out.lt
  have c_k_0_w18 : w18.cell? ⟨w2.heap.size, 0, none⟩ = some (.int .u64 ks) := by rw [B_k_w18.out.cell]; rfl
  have c_k_1_w18 : w18.cell? ⟨w2.heap.size, 1, none⟩ = some (.int .i64 kz) := by rw [B_k_w18.out.cell]; rfl
  have L_k_w18 := B_k_w18.out.lt
  have R_draw_w18 : Hid (RdC w18 (w.heap.size + 1) A18 (sweepP raw)) := hr
  clear hr hb
  go_wp2_with fail
  refine (rSweep_any (w.heap.size + 1) raw R rc _ R_raw_w18.out (by omega) hrl).mono ?_
  rintro e w19 ⟨A19, c19, rfl, hr, hc, hb⟩
  have R_raw_w19 : Hid (RdC w19 (w.heap.size + 1) R raw) := (R_raw_w18.out).on hb
  have R_y_w19 : Hid (RdC w19 (w.heap.size + 1) Ay y) := (R_y_w18.out).on hb
  have R_draw_w19 : Hid (RdC w19 (w.heap.size + 1) A18 (sweepP raw)) := (R_draw_w18.out).on hb
  have B_i_w19 : Hid (IsB w19 (w.heap.size) 43 #[.int .u64 s, .int .i64 z]) := (B_i_w18.out).on hb
  have B_k_w19 : Hid (IsB w19 (w2.heap.size) 43 #[.int .u64 ks, .int .i64 kz]) := (B_k_w18.out).on hb
  clear c_i_0_w18
  clear c_i_1_w18
  clear c_k_0_w18
  clear c_k_1_w18
  have T_w19 : Hid (Tp w19 (w.heap.size + 1) (0 + 40 + 2)) := (T_w18.out).on hb
  have G_w19 : Hid (w.grownBy w19 (some (w.heap.size + 1))) := g_below (G_w18.out) hb
  have S_w19 := G_w19.out.size
  have X_w19 := T_w19.out.lt
  have c_i_0_w19 : w19.cell? ⟨w.heap.size, 0, none⟩ = some (.int .u64 s) := by rw [B_i_w19.out.cell]; rfl
  have c_i_1_w19 : w19.cell? ⟨w.heap.size, 1, none⟩ = some (.int .i64 z) := by rw [B_i_w19.out.cell]; rfl
  have L_i_w19 := B_i_w19.out.lt
  have c_k_0_w19 : w19.cell? ⟨w2.heap.size, 0, none⟩ = some (.int .u64 ks) := by rw [B_k_w19.out.cell]; rfl
  have c_k_1_w19 : w19.cell? ⟨w2.heap.size, 1, none⟩ = some (.int .i64 kz) := by rw [B_k_w19.out.cell]; rfl
  have L_k_w19 := B_k_w19.out.lt
  have R_eraw_w19 : Hid (RdC w19 (w.heap.size + 1) A19 (sweepP raw)) := hr
  clear hr hb
  go_wp2_with fail
  refine (same_true (w.heap.size + 1) (w.heap.size + 1) (sweepP raw) A18 A19 c18 c19 _ R_draw_w19.out R_eraw_w19.out (by have := sweep_len raw; omega)).mono ?_
  rintro e w20 ⟨rfl, hb⟩
  have R_raw_w20 : Hid (RdC w20 (w.heap.size + 1) R raw) := (R_raw_w19.out).on hb
  have R_y_w20 : Hid (RdC w20 (w.heap.size + 1) Ay y) := (R_y_w19.out).on hb
  have R_draw_w20 : Hid (RdC w20 (w.heap.size + 1) A18 (sweepP raw)) := (R_draw_w19.out).on hb
  have R_eraw_w20 : Hid (RdC w20 (w.heap.size + 1) A19 (sweepP raw)) := (R_eraw_w19.out).on hb
  have B_i_w20 : Hid (IsB w20 (w.heap.size) 43 #[.int .u64 s, .int .i64 z]) := (B_i_w19.out).on hb
  have B_k_w20 : Hid (IsB w20 (w2.heap.size) 43 #[.int .u64 ks, .int .i64 kz]) := (B_k_w19.out).on hb
  clear c_i_0_w19
  clear c_i_1_w19
  clear c_k_0_w19
  clear c_k_1_w19
  have T_w20 : Hid (Tp w20 (w.heap.size + 1) (0 + 40 + 2)) := (T_w19.out).on hb
  have G_w20 : Hid (w.grownBy w20 (some (w.heap.size + 1))) := g_below (G_w19.out) hb
  have S_w20 := G_w20.out.size
  have X_w20 := T_w20.out.lt
  have c_i_0_w20 : w20.cell? ⟨w.heap.size, 0, none⟩ = some (.int .u64 s) := by rw [B_i_w20.out.cell]; rfl
  have c_i_1_w20 : w20.cell? ⟨w.heap.size, 1, none⟩ = some (.int .i64 z) := by rw [B_i_w20.out.cell]; rfl
  have L_i_w20 := B_i_w20.out.lt
  have c_k_0_w20 : w20.cell? ⟨w2.heap.size, 0, none⟩ = some (.int .u64 ks) := by rw [B_k_w20.out.cell]; rfl
  have c_k_1_w20 : w20.cell? ⟨w2.heap.size, 1, none⟩ = some (.int .i64 kz) := by rw [B_k_w20.out.cell]; rfl
  have L_k_w20 := B_k_w20.out.lt
  clear hb
  go_wp2_with fail
  refine (Sweep_any (w.heap.size + 1) y Ay cy _ R_y_w20.out (by omega) (by omega)).mono ?_
  rintro e w21 ⟨A21, c21, rfl, hr, hc, hb⟩
  have R_raw_w21 : Hid (RdC w21 (w.heap.size + 1) R raw) := (R_raw_w20.out).on hb
  have R_y_w21 : Hid (RdC w21 (w.heap.size + 1) Ay y) := (R_y_w20.out).on hb
  have B_i_w21 : Hid (IsB w21 (w.heap.size) 43 #[.int .u64 s, .int .i64 z]) := (B_i_w20.out).on hb
  have B_k_w21 : Hid (IsB w21 (w2.heap.size) 43 #[.int .u64 ks, .int .i64 kz]) := (B_k_w20.out).on hb
  clear c_i_0_w20
  clear c_i_1_w20
  clear c_k_0_w20
  clear c_k_1_w20
  have T_w21 : Hid (Tp w21 (w.heap.size + 1) (0 + 40 + 2)) := (T_w20.out).on hb
  have G_w21 : Hid (w.grownBy w21 (some (w.heap.size + 1))) := g_below (G_w20.out) hb
  have S_w21 := G_w21.out.size
  have X_w21 := T_w21.out.lt
  have c_i_0_w21 : w21.cell? ⟨w.heap.size, 0, none⟩ = some (.int .u64 s) := by rw [B_i_w21.out.cell]; rfl
  have c_i_1_w21 : w21.cell? ⟨w.heap.size, 1, none⟩ = some (.int .i64 z) := by rw [B_i_w21.out.cell]; rfl
  have L_i_w21 := B_i_w21.out.lt
  have c_k_0_w21 : w21.cell? ⟨w2.heap.size, 0, none⟩ = some (.int .u64 ks) := by rw [B_k_w21.out.cell]; rfl
  have c_k_1_w21 : w21.cell? ⟨w2.heap.size, 1, none⟩ = some (.int .i64 kz) := by rw [B_k_w21.out.cell]; rfl
  have L_k_w21 := B_k_w21.out.lt
  have R_dy_w21 : Hid (RdC w21 (w.heap.size + 1) A21 (sweepP y)) := hr
  clear hr hb
  go_wp2_with fail
  refine (rSweep_any (w.heap.size + 1) y Ay cy _ R_y_w21.out (by omega) (by omega)).mono ?_
  rintro e w22 ⟨A22, c22, rfl, hr, hc, hb⟩
  have R_raw_w22 : Hid (RdC w22 (w.heap.size + 1) R raw) := (R_raw_w21.out).on hb
  have R_y_w22 : Hid (RdC w22 (w.heap.size + 1) Ay y) := (R_y_w21.out).on hb
  have R_dy_w22 : Hid (RdC w22 (w.heap.size + 1) A21 (sweepP y)) := (R_dy_w21.out).on hb
  have B_i_w22 : Hid (IsB w22 (w.heap.size) 43 #[.int .u64 s, .int .i64 z]) := (B_i_w21.out).on hb
  have B_k_w22 : Hid (IsB w22 (w2.heap.size) 43 #[.int .u64 ks, .int .i64 kz]) := (B_k_w21.out).on hb
  clear c_i_0_w21
  clear c_i_1_w21
  clear c_k_0_w21
  clear c_k_1_w21
  have T_w22 : Hid (Tp w22 (w.heap.size + 1) (0 + 40 + 2)) := (T_w21.out).on hb
  have G_w22 : Hid (w.grownBy w22 (some (w.heap.size + 1))) := g_below (G_w21.out) hb
  have S_w22 := G_w22.out.size
  have X_w22 := T_w22.out.lt
  have c_i_0_w22 : w22.cell? ⟨w.heap.size, 0, none⟩ = some (.int .u64 s) := by rw [B_i_w22.out.cell]; rfl
  have c_i_1_w22 : w22.cell? ⟨w.heap.size, 1, none⟩ = some (.int .i64 z) := by rw [B_i_w22.out.cell]; rfl
  have L_i_w22 := B_i_w22.out.lt
  have c_k_0_w22 : w22.cell? ⟨w2.heap.size, 0, none⟩ = some (.int .u64 ks) := by rw [B_k_w22.out.cell]; rfl
  have c_k_1_w22 : w22.cell? ⟨w2.heap.size, 1, none⟩ = some (.int .i64 kz) := by rw [B_k_w22.out.cell]; rfl
  have L_k_w22 := B_k_w22.out.lt
  have R_ey_w22 : Hid (RdC w22 (w.heap.size + 1) A22 (sweepP y)) := hr
  clear hr hb
  go_wp2_with fail
  refine (same_true (w.heap.size + 1) (w.heap.size + 1) (sweepP y) A21 A22 c21 c22 _ R_dy_w22.out R_ey_w22.out (by have := sweep_len y; omega)).mono ?_
  rintro e w23 ⟨rfl, hb⟩
  have R_raw_w23 : Hid (RdC w23 (w.heap.size + 1) R raw) := (R_raw_w22.out).on hb
  have R_y_w23 : Hid (RdC w23 (w.heap.size + 1) Ay y) := (R_y_w22.out).on hb
  have R_dy_w23 : Hid (RdC w23 (w.heap.size + 1) A21 (sweepP y)) := (R_dy_w22.out).on hb
  have R_ey_w23 : Hid (RdC w23 (w.heap.size + 1) A22 (sweepP y)) := (R_ey_w22.out).on hb
  have B_i_w23 : Hid (IsB w23 (w.heap.size) 43 #[.int .u64 s, .int .i64 z]) := (B_i_w22.out).on hb
  have B_k_w23 : Hid (IsB w23 (w2.heap.size) 43 #[.int .u64 ks, .int .i64 kz]) := (B_k_w22.out).on hb
  clear c_i_0_w22
  clear c_i_1_w22
  clear c_k_0_w22
  clear c_k_1_w22
  have T_w23 : Hid (Tp w23 (w.heap.size + 1) (0 + 40 + 2)) := (T_w22.out).on hb
  have G_w23 : Hid (w.grownBy w23 (some (w.heap.size + 1))) := g_below (G_w22.out) hb
  have S_w23 := G_w23.out.size
  have X_w23 := T_w23.out.lt
  have c_i_0_w23 : w23.cell? ⟨w.heap.size, 0, none⟩ = some (.int .u64 s) := by rw [B_i_w23.out.cell]; rfl
  have c_i_1_w23 : w23.cell? ⟨w.heap.size, 1, none⟩ = some (.int .i64 z) := by rw [B_i_w23.out.cell]; rfl
  have L_i_w23 := B_i_w23.out.lt
  have c_k_0_w23 : w23.cell? ⟨w2.heap.size, 0, none⟩ = some (.int .u64 ks) := by rw [B_k_w23.out.cell]; rfl
  have c_k_1_w23 : w23.cell? ⟨w2.heap.size, 1, none⟩ = some (.int .i64 kz) := by rw [B_k_w23.out.cell]; rfl
  have L_k_w23 := B_k_w23.out.lt
  clear hb
  go_wp2_with fail
  go_ret
  exact ⟨rfl, law_end1 G_w23.out⟩
theorem law3F (R : Option Addr) (len cap : Nat) (raw : List Man) (e : raw.length = len) (A : Option Addr) (len1 cap1 : Nat) (z : List Int) (e1 : z.length = len1) (W : World) (hraw : RdM W W.heap.size R raw) (hri : ∀ m ∈ raw, m.ids.length ≤ 9223372036854775807) (hro : ∀ m ∈ raw, ∀ i ∈ m.ids, okID i) (w1 : RdT W W.heap.size A z) (l1 : len1 ≤ 9223372036854775807) :
    Calls Try.prog 3 #[.slice R len cap, .slice A len1 cap1] W (Gives (.bool true) W) := by
  subst e e1
  exact law3 R raw cap A z cap1 W w1 l1 hraw hri hro
theorem law10F (R : Option Addr) (len cap : Nat) (raw : List CT) (e : raw.length = len) (s z : Int) (A : Option Addr) (len1 cap1 : Nat) (l : List Int) (e1 : l.length = len1) (W : World) (hraw : RdC W W.heap.size R raw) (hl : len ≤ 9223372036854775807) (w1 : RdT W W.heap.size A l) (l1 : len1 ≤ 9223372036854775807) :
    Calls Try.prog 10 #[.slice R len cap, .agg #[.int .u64 s, .int .i64 z], .slice A len1 cap1] W (Gives (.bool true) W) := by
  subst e e1
  exact law10 R raw cap s z A l cap1 W w1 l1 hraw hl
end Go.Proofs.Ytjglpmcekbjoaaa
