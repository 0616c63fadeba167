/- Walks of laws: RefcountSteps, RefcountMerges. -/
import Derived.Test.YtjglpmcekbjoaaaXE
namespace Go.Proofs.Ytjglpmcekbjoaaa
open Go.RowKit Go.MapKept Go.ChangeMaps
attribute [local go_sem] wext_cell

theorem tape0 {A : Option Addr} {l : List Int} {c : Nat} {w : World} (hr : RdT w w.heap.size A l) (hn : l.length ≤ 9223372036854775807) : Tp (w.alloc (.cells #[.slice A l.length c, .int .i64 0] 26)) w.heap.size 0 :=
  ⟨A, c, 0, l, IsB.new _ _ _, Nat.le_refl _, hn, hr.keep fun b o hb => ((Below.refl w.heap.size w).alloc (Nat.le_refl _) _).cell (p := ⟨b, o, none⟩) hb⟩
theorem tapeF {num : FuncId} (h : ∀ (A : Option Addr) (l : List Int) (c : Nat) (w : World), RdT w w.heap.size A l → l.length ≤ 9223372036854775807 → Calls Try.prog num #[.slice A l.length c] w (Gives (.bool true) w))
    (A : Option Addr) (len cap : Nat) (z : List Int) (e : z.length = len) (W : World) (w0 : RdT W W.heap.size A z) (l0 : len ≤ 9223372036854775807) : Calls Try.prog num #[.slice A len cap] W (Gives (.bool true) W) := by
  subst e
  exact h A z cap W w0 l0
theorem law_end {w w' : World} (h : w.grownBy w' (some w.heap.size)) : Below w.heap.size w w' :=
  ⟨h.os, h.tape, h.output, h.size, fun i hi => h.block i hi (fun e => by injection e with e; omega)⟩
theorem same_true (x y : Nat) (a : List CT) (A B : Option Addr) (c d : Nat) (w : World) (ha : RdC w x A a) (hb : RdC w y B a) (hl : a.length ≤ 9223372036854775807) : Calls Try.prog 16 #[.slice A a.length c, .slice B a.length d] w (Gives (.bool true) w) := by
  have := Same_any x y a a A B c d w ha hb hl hl
  rwa [decide_eq_true rfl] at this
theorem sameI_true (x y : Nat) (a : List ID) (A B : Option Addr) (c d : Nat) (w : World) (ha : RdID w x A a) (hb : RdID w y B a) (hl : a.length ≤ 9223372036854775807) : Calls Try.prog 30 #[.slice A a.length c, .slice B a.length d] w (Gives (.bool true) w) := by
  have := SameIDs_any x y a a A B c d w ha hb hl hl
  rwa [decide_eq_true rfl] at this
theorem lim_len (L : List CT) : (limP L).1.length ≤ 4096 := by
  unfold limP
  split
  · rename_i h
    have h1 := (limB_iff L).1 h
    have h2 : (tabR L).length ≤ L.length := by
      have key : ∀ (L t : List CT), (L.foldl (fun t c => putR t c.1 c.2) t).length ≤ t.length + L.length := by
        intro L
        induction L with
        | nil => intro t; simp
        | cons c L ih =>
          intro t
          have h1 := ih (putR t c.1 c.2)
          have h2 := putR_len t c.1 c.2
          rw [List.foldl_cons, List.length_cons]
          omega
      have := key L []
      rw [List.length_nil, Nat.zero_add] at this
      exact this
    show (tabR L).length ≤ 4096
    omega
  · simp
theorem add_len (t : List CT) (m : Man) : (addP t m).1.length ≤ 4096 := by
  unfold addP
  split
  · split
    · exact lim_len _
    · simp
  · simp
theorem of_len (ms : List Man) : (ofP ms).1.length ≤ 4096 := by
  unfold ofP
  split
  · exact lim_len _
  · simp
theorem merge_len (t u : List CT) : (mergeP t u).1.length ≤ 4096 := by
  unfold mergeP
  split
  · split
    · exact lim_len _
    · simp
  · simp
theorem rel_len (t : List CT) (m : Man) : (relP t m).1.length ≤ 4096 := by
  unfold relP
  split
  · rename_i h
    split
    · split
      · simpa [restR] using ((tblE_iff t).1 h).1
      · simp
    · simp
  · simp
theorem idsOf_few {ms : List Man} (h : ∀ m ∈ ms, m.ids.length ≤ 5) : (idsOf ms).length ≤ 5 * ms.length := by
  induction ms with
  | nil => simp [idsOf]
  | cons m ms ih =>
    have h1 := h m (by simp)
    have h2 := ih (fun m hm => h m (by simp [hm]))
    have : idsOf (m :: ms) = m.ids ++ idsOf ms := by simp [idsOf]
    rw [this, List.length_append, List.length_cons]
    omega
theorem ver_len (t : List CT) (ms : List Man) (ht : t.length ≤ 9) (hm : ∀ m ∈ ms, m.ids.length ≤ 5) (hl : ms.length ≤ 4) : (verP t ms).1.length ≤ 29 := by
  unfold verP
  split
  · split
    · have h1 := wrL_len (ofT ms) (bothR t (ofT ms))
      have h2 := bothR_len t (ofT ms)
      have h3 := allR_len [] (idsOf ms)
      have h4 := idsOf_few hm
      rw [← ofT_eq] at h3
      simp only [List.length_nil] at h3
      show (wrL (ofT ms) (bothR t (ofT ms))).length ≤ 29
      omega
    · simp
  · simp
theorem fewM_ok {wr : Bool} {m : Man} (h : FewM wr m) : ∀ i ∈ m.ids, okID i := fun i hi => few_ok (h.1 i hi)
theorem fewM_len {wr : Bool} {m : Man} (h : FewM wr m) : m.ids.length ≤ 5 := h.2.1
theorem pair_ {α : Type} (p : α × Int) : ∃ a b, Hid (p = (a, b)) := ⟨p.1, p.2, rfl⟩

set_option maxRecDepth 100000 in
set_option maxHeartbeats 8000000 in
theorem law5 (A : Option Addr) (l : List Int) (c : Nat) (w : World) (hr : RdT w w.heap.size A l) (hn : l.length ≤ 9223372036854775807) :
    Calls Try.prog 5 #[.slice A l.length c] w (Gives (.bool true) w) := by
  have T_w : Hid (Tp (w.alloc (.cells #[.slice A l.length c, .int .i64 0] 26)) w.heap.size 0) := tape0 hr hn
  have G_w : Hid (w.grownBy (w.alloc (.cells #[.slice A l.length c, .int .i64 0] 26)) (some w.heap.size)) := World.grownBy_alloc _ _ _
  clear hr hn
  go_enter Try.func5, Try.ntmps5
  go_wp2_with fail
  refine (tabM_any true w.heap.size 0 _ (by omega) T_w.out).mono ?_
  rintro e w1 ⟨t, At, ct, hok, hl9, _, rfl, hrt, hct, ht, hg⟩
  have T_w1 : Hid (Tp w1 w.heap.size (0 + 40)) := ht
  have G_w1 : Hid (w.grownBy w1 (some w.heap.size)) := g_trans (G_w.out) hg
  have S_w1 := G_w1.out.size
  have X_w1 := T_w1.out.lt
  have R_t_w1 := Lib.hid hrt
  have H_hok := Lib.hid hok
  clear hrt hok ht hg
  go_wp2_with fail
  refine (list_any true w.heap.size (0 + 40) _ (by omega) T_w1.out).mono ?_
  rintro e w2 ⟨m, Am, cm, hm, rfl, hrm, hcm, _, ht, hg⟩
  have T_w2 : Hid (Tp w2 w.heap.size (0 + 40 + 12)) := ht
  have R_t_w2 : Hid (RdC w2 w.heap.size At t) := (R_t_w1.out).gr hg
  have G_w2 : Hid (w.grownBy w2 (some w.heap.size)) := g_trans (G_w1.out) hg
  have S_w2 := G_w2.out.size
  have X_w2 := T_w2.out.lt
  have R_m_w2 := Lib.hid hrm
  have H_hm := Lib.hid hm
  clear hrm hm ht hg
  have hml := fewM_len H_hm.out
  obtain ⟨pa, qa, Ha⟩ := pair_ (addP t m)
  have hpa := add_len t m
  rw [Ha.out] at hpa
  simp only at hpa
  obtain ⟨pr, qr, Hr⟩ := pair_ (relP t m)
  have hpr := rel_len t m
  rw [Hr.out] at hpr
  simp only at hpr
  go_wp2_with fail
  refine (Add_any w.heap.size t At ct m Am cm _ (R_t_w2.out.alloc _) (R_m_w2.out.alloc _) hcm (by simp; omega) (by omega) (by omega) (fewM_ok H_hm.out) H_hok.out).mono ?_
  intro e w3 h
  rw [Ha.out] at h
  obtain ⟨A3, c3, he, hr, hc3, hb⟩ := h
  have he' : e = .returned (.tuple #[.slice A3 pa.length c3, .int .i64 qa]) := he
  subst he'
  have B_m_w3 : Hid (IsB w3 (w2.heap.size) 38 #[.int .i64 m.size, .slice Am m.ids.length cm]) := (IsB.new w2 _ _).on hb
  have R_t_w3 : Hid (RdC w3 w.heap.size At t) := (R_t_w2.out.alloc _).on hb
  have R_m_w3 : Hid (RdID w3 w.heap.size Am m.ids) := (R_m_w2.out.alloc _).on hb
  have T_w3 : Hid (Tp w3 w.heap.size (0 + 40 + 12)) := (T_w2.out.alloc _).on hb
  have G_w3 : Hid (w.grownBy w3 (some w.heap.size)) := g_below (g_alloc (G_w2.out) _) hb
  have S_w3 := G_w3.out.size
  have X_w3 := T_w3.out.lt
  have c_m_0_w3 : w3.cell? ⟨w2.heap.size, 0, none⟩ = some (.int .i64 m.size) := by rw [B_m_w3.out.cell]; rfl
  have c_m_1_w3 : w3.cell? ⟨w2.heap.size, 1, none⟩ = some (.slice Am m.ids.length cm) := by rw [B_m_w3.out.cell]; rfl
  have L_m_w3 := B_m_w3.out.lt
  have R_a_w3 : Hid (RdC w3 w.heap.size A3 pa) := hr
  clear hr hb he
  go_wp2_with fail
  refine (rAdd_any w.heap.size t At ct m Am cm _ (R_t_w3.out) (R_m_w3.out) (by omega) (by omega) (by omega)).mono ?_
  intro e w4 h
  rw [Ha.out] at h
  obtain ⟨A4, c4, he, hr, hc4, hb⟩ := h
  have he' : e = .returned (.tuple #[.slice A4 pa.length c4, .int .i64 qa]) := he
  subst he'
  have R_t_w4 : Hid (RdC w4 w.heap.size At t) := (R_t_w3.out).on hb
  have R_m_w4 : Hid (RdID w4 w.heap.size Am m.ids) := (R_m_w3.out).on hb
  have R_a_w4 : Hid (RdC w4 w.heap.size A3 pa) := (R_a_w3.out).on hb
  have B_m_w4 : Hid (IsB w4 (w2.heap.size) 38 #[.int .i64 m.size, .slice Am m.ids.length cm]) := (B_m_w3.out).on hb
  clear c_m_0_w3
  clear c_m_1_w3
  have T_w4 : Hid (Tp w4 w.heap.size (0 + 40 + 12)) := (T_w3.out).on hb
  have G_w4 : Hid (w.grownBy w4 (some w.heap.size)) := g_below (G_w3.out) hb
  have S_w4 := G_w4.out.size
  have X_w4 := T_w4.out.lt
  have c_m_0_w4 : w4.cell? ⟨w2.heap.size, 0, none⟩ = some (.int .i64 m.size) := by rw [B_m_w4.out.cell]; rfl
  have c_m_1_w4 : w4.cell? ⟨w2.heap.size, 1, none⟩ = some (.slice Am m.ids.length cm) := by rw [B_m_w4.out.cell]; rfl
  have L_m_w4 := B_m_w4.out.lt
  have R_b_w4 : Hid (RdC w4 w.heap.size A4 pa) := hr
  clear hr hb he
  go_wp2_with fail
  refine (Release_any w.heap.size t At ct m Am cm _ (R_t_w4.out) (R_m_w4.out) hcm (by omega) (by omega) (by omega) (fewM_ok H_hm.out) H_hok.out).mono ?_
  intro e w5 h
  rw [Hr.out] at h
  obtain ⟨A5, c5, he, hr, hc5, hb⟩ := h
  have he' : e = .returned (.tuple #[.slice A5 pr.length c5, .int .i64 qr]) := he
  subst he'
  have R_t_w5 : Hid (RdC w5 w.heap.size At t) := (R_t_w4.out).on hb
  have R_m_w5 : Hid (RdID w5 w.heap.size Am m.ids) := (R_m_w4.out).on hb
  have R_a_w5 : Hid (RdC w5 w.heap.size A3 pa) := (R_a_w4.out).on hb
  have R_b_w5 : Hid (RdC w5 w.heap.size A4 pa) := (R_b_w4.out).on hb
  have B_m_w5 : Hid (IsB w5 (w2.heap.size) 38 #[.int .i64 m.size, .slice Am m.ids.length cm]) := (B_m_w4.out).on hb
  clear c_m_0_w4
  clear c_m_1_w4
  have T_w5 : Hid (Tp w5 w.heap.size (0 + 40 + 12)) := (T_w4.out).on hb
  have G_w5 : Hid (w.grownBy w5 (some w.heap.size)) := g_below (G_w4.out) hb
  have S_w5 := G_w5.out.size
  have X_w5 := T_w5.out.lt
  have c_m_0_w5 : w5.cell? ⟨w2.heap.size, 0, none⟩ = some (.int .i64 m.size) := by rw [B_m_w5.out.cell]; rfl
  have c_m_1_w5 : w5.cell? ⟨w2.heap.size, 1, none⟩ = some (.slice Am m.ids.length cm) := by rw [B_m_w5.out.cell]; rfl
  have L_m_w5 := B_m_w5.out.lt
  have R_c_w5 : Hid (RdC w5 w.heap.size A5 pr) := hr
  clear hr hb he
  go_wp2_with fail
  refine (rRelease_any w.heap.size t At ct m Am cm _ (R_t_w5.out) (R_m_w5.out) (by omega) (by omega) (by omega)).mono ?_
  intro e w6 h
  rw [Hr.out] at h
  obtain ⟨A6, c6, he, hr, hc6, hb⟩ := h
  have he' : e = .returned (.tuple #[.slice A6 pr.length c6, .int .i64 qr]) := he
  subst he'
  have R_t_w6 : Hid (RdC w6 w.heap.size At t) := (R_t_w5.out).on hb
  have R_m_w6 : Hid (RdID w6 w.heap.size Am m.ids) := (R_m_w5.out).on hb
  have R_a_w6 : Hid (RdC w6 w.heap.size A3 pa) := (R_a_w5.out).on hb
  have R_b_w6 : Hid (RdC w6 w.heap.size A4 pa) := (R_b_w5.out).on hb
  have R_c_w6 : Hid (RdC w6 w.heap.size A5 pr) := (R_c_w5.out).on hb
  have B_m_w6 : Hid (IsB w6 (w2.heap.size) 38 #[.int .i64 m.size, .slice Am m.ids.length cm]) := (B_m_w5.out).on hb
  clear c_m_0_w5
  clear c_m_1_w5
  have T_w6 : Hid (Tp w6 w.heap.size (0 + 40 + 12)) := (T_w5.out).on hb
  have G_w6 : Hid (w.grownBy w6 (some w.heap.size)) := g_below (G_w5.out) hb
  have S_w6 := G_w6.out.size
  have X_w6 := T_w6.out.lt
  have c_m_0_w6 : w6.cell? ⟨w2.heap.size, 0, none⟩ = some (.int .i64 m.size) := by rw [B_m_w6.out.cell]; rfl
  have c_m_1_w6 : w6.cell? ⟨w2.heap.size, 1, none⟩ = some (.slice Am m.ids.length cm) := by rw [B_m_w6.out.cell]; rfl
  have L_m_w6 := B_m_w6.out.lt
  have R_d_w6 : Hid (RdC w6 w.heap.size A6 pr) := hr
  clear hr hb he
  go_wp2_with fail
  refine (known_any w.heap.size _ (by omega)).mono ?_
  rintro e w7 ⟨rfl, hb⟩
  have R_t_w7 : Hid (RdC w7 w.heap.size At t) := (R_t_w6.out).on hb
  have R_m_w7 : Hid (RdID w7 w.heap.size Am m.ids) := (R_m_w6.out).on hb
  have R_a_w7 : Hid (RdC w7 w.heap.size A3 pa) := (R_a_w6.out).on hb
  have R_b_w7 : Hid (RdC w7 w.heap.size A4 pa) := (R_b_w6.out).on hb
  have R_c_w7 : Hid (RdC w7 w.heap.size A5 pr) := (R_c_w6.out).on hb
  have R_d_w7 : Hid (RdC w7 w.heap.size A6 pr) := (R_d_w6.out).on hb
  have B_m_w7 : Hid (IsB w7 (w2.heap.size) 38 #[.int .i64 m.size, .slice Am m.ids.length cm]) := (B_m_w6.out).on hb
  clear c_m_0_w6
  clear c_m_1_w6
  have T_w7 : Hid (Tp w7 w.heap.size (0 + 40 + 12)) := (T_w6.out).on hb
  have G_w7 : Hid (w.grownBy w7 (some w.heap.size)) := g_below (G_w6.out) hb
  have S_w7 := G_w7.out.size
  have X_w7 := T_w7.out.lt
  have c_m_0_w7 : w7.cell? ⟨w2.heap.size, 0, none⟩ = some (.int .i64 m.size) := by rw [B_m_w7.out.cell]; rfl
  have c_m_1_w7 : w7.cell? ⟨w2.heap.size, 1, none⟩ = some (.slice Am m.ids.length cm) := by rw [B_m_w7.out.cell]; rfl
  have L_m_w7 := B_m_w7.out.lt
  clear hb
  go_wp2_with fail
  refine (same_true w.heap.size w.heap.size pa A3 A4 c3 c4 _ R_a_w7.out R_b_w7.out (by omega)).mono ?_
  rintro e w8 ⟨rfl, hb⟩
  have R_t_w8 : Hid (RdC w8 w.heap.size At t) := (R_t_w7.out).on hb
  have R_m_w8 : Hid (RdID w8 w.heap.size Am m.ids) := (R_m_w7.out).on hb
  have R_a_w8 : Hid (RdC w8 w.heap.size A3 pa) := (R_a_w7.out).on hb
  have R_b_w8 : Hid (RdC w8 w.heap.size A4 pa) := (R_b_w7.out).on hb
  have R_c_w8 : Hid (RdC w8 w.heap.size A5 pr) := (R_c_w7.out).on hb
  have R_d_w8 : Hid (RdC w8 w.heap.size A6 pr) := (R_d_w7.out).on hb
  have B_m_w8 : Hid (IsB w8 (w2.heap.size) 38 #[.int .i64 m.size, .slice Am m.ids.length cm]) := (B_m_w7.out).on hb
  clear c_m_0_w7
  clear c_m_1_w7
  have T_w8 : Hid (Tp w8 w.heap.size (0 + 40 + 12)) := (T_w7.out).on hb
  have G_w8 : Hid (w.grownBy w8 (some w.heap.size)) := g_below (G_w7.out) hb
  have S_w8 := G_w8.out.size
  have X_w8 := T_w8.out.lt
  have c_m_0_w8 : w8.cell? ⟨w2.heap.size, 0, none⟩ = some (.int .i64 m.size) := by rw [B_m_w8.out.cell]; rfl
  have c_m_1_w8 : w8.cell? ⟨w2.heap.size, 1, none⟩ = some (.slice Am m.ids.length cm) := by rw [B_m_w8.out.cell]; rfl
  have L_m_w8 := B_m_w8.out.lt
  clear hb
  go_wp2_with fail
  refine (same_true w.heap.size w.heap.size pr A5 A6 c5 c6 _ R_c_w8.out R_d_w8.out (by omega)).mono ?_
  rintro e w9 ⟨rfl, hb⟩
  have R_t_w9 : Hid (RdC w9 w.heap.size At t) := (R_t_w8.out).on hb
  have R_m_w9 : Hid (RdID w9 w.heap.size Am m.ids) := (R_m_w8.out).on hb
  have R_a_w9 : Hid (RdC w9 w.heap.size A3 pa) := (R_a_w8.out).on hb
  have R_b_w9 : Hid (RdC w9 w.heap.size A4 pa) := (R_b_w8.out).on hb
  have R_c_w9 : Hid (RdC w9 w.heap.size A5 pr) := (R_c_w8.out).on hb
  have R_d_w9 : Hid (RdC w9 w.heap.size A6 pr) := (R_d_w8.out).on hb
  have B_m_w9 : Hid (IsB w9 (w2.heap.size) 38 #[.int .i64 m.size, .slice Am m.ids.length cm]) := (B_m_w8.out).on hb
  clear c_m_0_w8
  clear c_m_1_w8
  have T_w9 : Hid (Tp w9 w.heap.size (0 + 40 + 12)) := (T_w8.out).on hb
  have G_w9 : Hid (w.grownBy w9 (some w.heap.size)) := g_below (G_w8.out) hb
  have S_w9 := G_w9.out.size
  have X_w9 := T_w9.out.lt
  have c_m_0_w9 : w9.cell? ⟨w2.heap.size, 0, none⟩ = some (.int .i64 m.size) := by rw [B_m_w9.out.cell]; rfl
  have c_m_1_w9 : w9.cell? ⟨w2.heap.size, 1, none⟩ = some (.slice Am m.ids.length cm) := by rw [B_m_w9.out.cell]; rfl
  have L_m_w9 := B_m_w9.out.lt
  clear hb
  go_wp2_with fail
  go_ret
  exact ⟨rfl, law_end G_w9.out⟩

set_option maxRecDepth 100000 in
set_option maxHeartbeats 8000000 in
theorem law8 (A : Option Addr) (l : List Int) (c : Nat) (w : World) (hr : RdT w w.heap.size A l) (hn : l.length ≤ 9223372036854775807) :
    Calls Try.prog 8 #[.slice A l.length c] w (Gives (.bool true) w) := by
  have T_w : Hid (Tp (w.alloc (.cells #[.slice A l.length c, .int .i64 0] 26)) w.heap.size 0) := tape0 hr hn
  have G_w : Hid (w.grownBy (w.alloc (.cells #[.slice A l.length c, .int .i64 0] 26)) (some w.heap.size)) := World.grownBy_alloc _ _ _
  clear hr hn
  go_enter Try.func8, Try.ntmps8
  go_wp2_with fail
  refine (tabM_any true w.heap.size 0 _ (by omega) T_w.out).mono ?_
  rintro e w1 ⟨t, At, ct, hok, hl9, _, rfl, hrt, hct, ht, hg⟩
  have T_w1 : Hid (Tp w1 w.heap.size (0 + 40)) := ht
  have G_w1 : Hid (w.grownBy w1 (some w.heap.size)) := g_trans (G_w.out) hg
  have S_w1 := G_w1.out.size
  have X_w1 := T_w1.out.lt
  have R_t_w1 := Lib.hid hrt
  have H_hok := Lib.hid hok
  clear hrt hok ht hg
  go_wp2_with fail
  refine (tabM_any true w.heap.size (0 + 40) _ (by omega) T_w1.out).mono ?_
  rintro e w2 ⟨u, Au, cu, hou, hl9u, _, rfl, hru, hcu, ht, hg⟩
  have T_w2 : Hid (Tp w2 w.heap.size (0 + 40 + 40)) := ht
  have R_t_w2 : Hid (RdC w2 w.heap.size At t) := (R_t_w1.out).gr hg
  have G_w2 : Hid (w.grownBy w2 (some w.heap.size)) := g_trans (G_w1.out) hg
  have S_w2 := G_w2.out.size
  have X_w2 := T_w2.out.lt
  have R_u_w2 := Lib.hid hru
  have H_hou := Lib.hid hou
  clear hru hou ht hg
  go_wp2_with fail
  refine (lists_any true w.heap.size (0 + 40 + 40) _ (by omega) T_w2.out).mono ?_
  rintro e w3 ⟨ms, Am, cm, hm, hlm, rfl, hrm, hcm, _, ht, hg⟩
  have T_w3 : Hid (Tp w3 w.heap.size (0 + 40 + 40 + 49)) := ht
  have R_t_w3 : Hid (RdC w3 w.heap.size At t) := (R_t_w2.out).gr hg
  have R_u_w3 : Hid (RdC w3 w.heap.size Au u) := (R_u_w2.out).gr hg
  have G_w3 : Hid (w.grownBy w3 (some w.heap.size)) := g_trans (G_w2.out) hg
  have S_w3 := G_w3.out.size
  have X_w3 := T_w3.out.lt
  have R_m_w3 := Lib.hid hrm
  have H_hm := Lib.hid hm
  clear hrm hm ht hg
  obtain ⟨pa, qa, Ha⟩ := pair_ (mergeP t u)
  have hpa := merge_len t u
  rw [Ha.out] at hpa
  simp only at hpa
  obtain ⟨pv, qv, Hv⟩ := pair_ (verP t ms)
  have H_lv : Hid (pv.length ≤ 9223372036854775807) := by have := ver_len t ms hl9 (fun m hm => fewM_len (H_hm.out m hm)) hlm; rw [Hv.out] at this; unfold Hid; simp only at this; omega
  go_wp2_with fail
  refine (Merge_any w.heap.size t u At Au ct cu _ R_t_w3.out R_u_w3.out (by omega) (by omega) (by omega) H_hok.out H_hou.out).mono ?_
  intro e w4 h
  rw [Ha.out] at h
  obtain ⟨A4, c4, he, hr, hc4, hb⟩ := h
  have he' : e = .returned (.tuple #[.slice A4 pa.length c4, .int .i64 qa]) := he
  subst he'
  have R_t_w4 : Hid (RdC w4 w.heap.size At t) := (R_t_w3.out).on hb
  have R_u_w4 : Hid (RdC w4 w.heap.size Au u) := (R_u_w3.out).on hb
  have R_m_w4 : Hid (RdM w4 w.heap.size Am ms) := (R_m_w3.out).on hb
  have T_w4 : Hid (Tp w4 w.heap.size (0 + 40 + 40 + 49)) := (T_w3.out).on hb
  have G_w4 : Hid (w.grownBy w4 (some w.heap.size)) := g_below (G_w3.out) hb
  have S_w4 := G_w4.out.size
  have X_w4 := T_w4.out.lt
  have R_a_w4 : Hid (RdC w4 w.heap.size A4 pa) := hr
  clear hr hb he
  go_wp2_with fail
  refine (rMerge_any w.heap.size t u At Au ct cu _ R_t_w4.out R_u_w4.out (by omega) (by omega) (by omega)).mono ?_
  intro e w5 h
  rw [Ha.out] at h
  obtain ⟨A5, c5, he, hr, hc5, hb⟩ := h
  have he' : e = .returned (.tuple #[.slice A5 pa.length c5, .int .i64 qa]) := he
  subst he'
  have R_t_w5 : Hid (RdC w5 w.heap.size At t) := (R_t_w4.out).on hb
  have R_u_w5 : Hid (RdC w5 w.heap.size Au u) := (R_u_w4.out).on hb
  have R_m_w5 : Hid (RdM w5 w.heap.size Am ms) := (R_m_w4.out).on hb
  have R_a_w5 : Hid (RdC w5 w.heap.size A4 pa) := (R_a_w4.out).on hb
  have T_w5 : Hid (Tp w5 w.heap.size (0 + 40 + 40 + 49)) := (T_w4.out).on hb
  have G_w5 : Hid (w.grownBy w5 (some w.heap.size)) := g_below (G_w4.out) hb
  have S_w5 := G_w5.out.size
  have X_w5 := T_w5.out.lt
  have R_b_w5 : Hid (RdC w5 w.heap.size A5 pa) := hr
  clear hr hb he
  go_wp2_with fail
  refine (Verify_any w.heap.size t At ct ms Am cm _ R_t_w5.out R_m_w5.out (by omega) (by omega) (by omega) (fun m hm => by have := fewM_len (H_hm.out m hm); omega) (fun m hm i hi => fewM_ok (H_hm.out m hm) i hi) H_hok.out).mono ?_
  intro e w6 h
  rw [Hv.out] at h
  obtain ⟨A6, c6, he, hr, hb⟩ := h
  have he' : e = .returned (.tuple #[.slice A6 pv.length c6, .int .i64 qv]) := he
  subst he'
  have R_t_w6 : Hid (RdC w6 w.heap.size At t) := (R_t_w5.out).on hb
  have R_u_w6 : Hid (RdC w6 w.heap.size Au u) := (R_u_w5.out).on hb
  have R_m_w6 : Hid (RdM w6 w.heap.size Am ms) := (R_m_w5.out).on hb
  have R_a_w6 : Hid (RdC w6 w.heap.size A4 pa) := (R_a_w5.out).on hb
  have R_b_w6 : Hid (RdC w6 w.heap.size A5 pa) := (R_b_w5.out).on hb
  have T_w6 : Hid (Tp w6 w.heap.size (0 + 40 + 40 + 49)) := (T_w5.out).on hb
  have G_w6 : Hid (w.grownBy w6 (some w.heap.size)) := g_below (G_w5.out) hb
  have S_w6 := G_w6.out.size
  have X_w6 := T_w6.out.lt
  have R_c_w6 : Hid (RdID w6 w.heap.size A6 pv) := hr
  clear hr hb he
  go_wp2_with fail
  refine (rVerify_any w.heap.size t At ct ms Am cm _ R_t_w6.out R_m_w6.out (by omega) (by omega) (by omega) (fun m hm => by have := fewM_len (H_hm.out m hm); omega)).mono ?_
  intro e w7 h
  rw [Hv.out] at h
  obtain ⟨A7, c7, he, hr, hb⟩ := h
  have he' : e = .returned (.tuple #[.slice A7 pv.length c7, .int .i64 qv]) := he
  subst he'
  have R_t_w7 : Hid (RdC w7 w.heap.size At t) := (R_t_w6.out).on hb
  have R_u_w7 : Hid (RdC w7 w.heap.size Au u) := (R_u_w6.out).on hb
  have R_m_w7 : Hid (RdM w7 w.heap.size Am ms) := (R_m_w6.out).on hb
  have R_a_w7 : Hid (RdC w7 w.heap.size A4 pa) := (R_a_w6.out).on hb
  have R_b_w7 : Hid (RdC w7 w.heap.size A5 pa) := (R_b_w6.out).on hb
  have R_c_w7 : Hid (RdID w7 w.heap.size A6 pv) := (R_c_w6.out).on hb
  have T_w7 : Hid (Tp w7 w.heap.size (0 + 40 + 40 + 49)) := (T_w6.out).on hb
  have G_w7 : Hid (w.grownBy w7 (some w.heap.size)) := g_below (G_w6.out) hb
  have S_w7 := G_w7.out.size
  have X_w7 := T_w7.out.lt
  have R_d_w7 : Hid (RdID w7 w.heap.size A7 pv) := hr
  clear hr hb he
  go_wp2_with fail
  refine (known_any w.heap.size _ (by omega)).mono ?_
  rintro e w8 ⟨rfl, hb⟩
  have R_t_w8 : Hid (RdC w8 w.heap.size At t) := (R_t_w7.out).on hb
  have R_u_w8 : Hid (RdC w8 w.heap.size Au u) := (R_u_w7.out).on hb
  have R_m_w8 : Hid (RdM w8 w.heap.size Am ms) := (R_m_w7.out).on hb
  have R_a_w8 : Hid (RdC w8 w.heap.size A4 pa) := (R_a_w7.out).on hb
  have R_b_w8 : Hid (RdC w8 w.heap.size A5 pa) := (R_b_w7.out).on hb
  have R_c_w8 : Hid (RdID w8 w.heap.size A6 pv) := (R_c_w7.out).on hb
  have R_d_w8 : Hid (RdID w8 w.heap.size A7 pv) := (R_d_w7.out).on hb
  have T_w8 : Hid (Tp w8 w.heap.size (0 + 40 + 40 + 49)) := (T_w7.out).on hb
  have G_w8 : Hid (w.grownBy w8 (some w.heap.size)) := g_below (G_w7.out) hb
  have S_w8 := G_w8.out.size
  have X_w8 := T_w8.out.lt
  clear hb
  go_wp2_with fail
  refine (same_true w.heap.size w.heap.size pa A4 A5 c4 c5 _ R_a_w8.out R_b_w8.out (by omega)).mono ?_
  rintro e w9 ⟨rfl, hb⟩
  have R_t_w9 : Hid (RdC w9 w.heap.size At t) := (R_t_w8.out).on hb
  have R_u_w9 : Hid (RdC w9 w.heap.size Au u) := (R_u_w8.out).on hb
  have R_m_w9 : Hid (RdM w9 w.heap.size Am ms) := (R_m_w8.out).on hb
  have R_a_w9 : Hid (RdC w9 w.heap.size A4 pa) := (R_a_w8.out).on hb
  have R_b_w9 : Hid (RdC w9 w.heap.size A5 pa) := (R_b_w8.out).on hb
  have R_c_w9 : Hid (RdID w9 w.heap.size A6 pv) := (R_c_w8.out).on hb
  have R_d_w9 : Hid (RdID w9 w.heap.size A7 pv) := (R_d_w8.out).on hb
  have T_w9 : Hid (Tp w9 w.heap.size (0 + 40 + 40 + 49)) := (T_w8.out).on hb
  have G_w9 : Hid (w.grownBy w9 (some w.heap.size)) := g_below (G_w8.out) hb
  have S_w9 := G_w9.out.size
  have X_w9 := T_w9.out.lt
  clear hb
  go_wp2_with fail
  refine (sameI_true w.heap.size w.heap.size pv A6 A7 c6 c7 _ R_c_w9.out R_d_w9.out H_lv.out).mono ?_
  rintro e w10 ⟨rfl, hb⟩
  have R_t_w10 : Hid (RdC w10 w.heap.size At t) := (R_t_w9.out).on hb
  have R_u_w10 : Hid (RdC w10 w.heap.size Au u) := (R_u_w9.out).on hb
  have R_m_w10 : Hid (RdM w10 w.heap.size Am ms) := (R_m_w9.out).on hb
  have R_a_w10 : Hid (RdC w10 w.heap.size A4 pa) := (R_a_w9.out).on hb
  have R_b_w10 : Hid (RdC w10 w.heap.size A5 pa) := (R_b_w9.out).on hb
  have R_c_w10 : Hid (RdID w10 w.heap.size A6 pv) := (R_c_w9.out).on hb
  have R_d_w10 : Hid (RdID w10 w.heap.size A7 pv) := (R_d_w9.out).on hb
  have T_w10 : Hid (Tp w10 w.heap.size (0 + 40 + 40 + 49)) := (T_w9.out).on hb
  have G_w10 : Hid (w.grownBy w10 (some w.heap.size)) := g_below (G_w9.out) hb
  have S_w10 := G_w10.out.size
  have X_w10 := T_w10.out.lt
  clear hb
  go_wp2_with fail
  go_ret
  exact ⟨rfl, law_end G_w10.out⟩
end Go.Proofs.Ytjglpmcekbjoaaa
