/- Walks of laws: RefcountJoins. -/
import Derived.Test.YtjglpmcekbjoaaaPC
namespace Go.Proofs.Ytjglpmcekbjoaaa
open Go.RowKit Go.MapKept Go.ChangeMaps
attribute [local go_sem] wext_cell

theorem Link.on {w w' : World} {x : Nat} {r : MR} {m : Man} (h : Link w x r m) (hb : Below w.heap.size w w') : Link w' x r m := let ⟨a, b, c, d⟩ := h; ⟨a, b, c, d.on hb⟩
theorem links_app {W : World} {x : Nat} {rsa rsb : List MR} {a b : List Man} (ha : rsa.length = a.length) (la : ∀ j, j < a.length → Link W x (rsa.getD j mr0) (a.getD j man0)) (hb : rsb.length = b.length) (lb : ∀ j, j < b.length → Link W x (rsb.getD j mr0) (b.getD j man0)) :
    (rsa ++ rsb).length = (a ++ b).length ∧ ∀ j, j < (a ++ b).length → Link W x ((rsa ++ rsb).getD j mr0) ((a ++ b).getD j man0) := by
  refine ⟨by simp [ha, hb], fun j hj => ?_⟩
  by_cases h : j < a.length
  · have := la j h
    rw [List.getD_eq_getElem?_getD, List.getD_eq_getElem?_getD] at this ⊢
    rw [List.getElem?_append_left (by omega), List.getElem?_append_left h]
    exact this
  · have := lb (j - a.length) (by simp at hj; omega)
    rw [List.getD_eq_getElem?_getD, List.getD_eq_getElem?_getD] at this ⊢
    rw [List.getElem?_append_right (by omega), List.getElem?_append_right (by omega), ha]
    exact this
theorem flatM_one (t : List MR) : ∀ u ∈ t.flatMap encMR, u.oneCell' = true := by
  intro u hu
  obtain ⟨c, _, hc⟩ := List.mem_flatMap.1 hu
  exact encMR_one c u hc
theorem few_ids {ms : List Man} (h : ∀ m ∈ ms, FewM false m) (hl : ms.length ≤ 4) : (idsOf ms).length ≤ 20 := by
  have := idsOf_few (fun m hm => fewM_len (h m hm))
  omega
theorem tbl_okID {ms : List Man} {T : List CT} {e : Int} (h : ofP ms = (T, e)) (hf : ∀ m ∈ ms, ∀ i ∈ m.ids, okID i) : ∀ c ∈ T, okID c.1 := by
  unfold ofP at h
  split at h
  · unfold limP at h
    split at h
    · injection h with h _
      subst h
      intro c hc
      have hc2 := (tabR_perm (refs_spec ms).1).mem_iff.1 hc
      have := (refs_keys ms c.1).1 (List.mem_map.2 ⟨c, hc2, rfl⟩)
      obtain ⟨m, hm, hi⟩ := List.mem_flatMap.1 this
      exact hf m hm _ hi
    · injection h with h _; subst h; simp
  · injection h with h _; subst h; simp

set_option maxRecDepth 100000 in
set_option maxHeartbeats 8000000 in
theorem law7 (A : Option Addr) (l : List Int) (c : Nat) (w : World) (hr : RdT w w.heap.size A l) (hn : l.length ≤ 9223372036854775807) :
    Calls Try.prog 7 #[.slice A l.length c] w (Gives (.bool true) w) := by
  have T_w : Hid (Tp (w.alloc (.cells #[.slice A l.length c, .int .i64 0] 26)) w.heap.size 0) := tape0 hr hn
  have G_w : Hid (w.grownBy (w.alloc (.cells #[.slice A l.length c, .int .i64 0] 26)) (some w.heap.size)) := World.grownBy_alloc _ _ _
  clear hr hn
  go_enter Try.func7, Try.ntmps7
  go_wp2_with fail
  refine (lists_any false w.heap.size 0 _ (by omega) T_w.out).mono ?_
  rintro e w1 ⟨a, Aa, ca, ha, hla, rfl, hra, hca, _, ht, hg⟩
  have T_w1 : Hid (Tp w1 w.heap.size (0 + 49)) := ht
  have G_w1 : Hid (w.grownBy w1 (some w.heap.size)) := g_trans (G_w.out) hg
  have S_w1 := G_w1.out.size
  have X_w1 := T_w1.out.lt
  have R_a_w1 := Lib.hid hra
  have H_ha := Lib.hid ha
  clear hra ha ht hg
  go_wp2_with fail
  refine (lists_any false w.heap.size (0 + 49) _ (by omega) T_w1.out).mono ?_
  rintro e w2 ⟨b, Ab, cb, hb0, hlb, rfl, hrb, hcb, _, ht, hg⟩
  have T_w2 : Hid (Tp w2 w.heap.size (0 + 49 + 49)) := ht
  have R_a_w2 : Hid (RdM w2 w.heap.size Aa a) := (R_a_w1.out).gr hg
  have G_w2 : Hid (w.grownBy w2 (some w.heap.size)) := g_trans (G_w1.out) hg
  have S_w2 := G_w2.out.size
  have X_w2 := T_w2.out.lt
  have R_b_w2 := Lib.hid hrb
  have H_hb0 := Lib.hid hb0
  clear hrb hb0 ht hg
  have Hfab : Hid (∀ m ∈ a ++ b, FewM false m) := fun m hm => (List.mem_append.1 hm).elim (H_ha.out m) (H_hb0.out m)
  obtain ⟨X, Y, Z, hX, hY, hZ, hW, hV, hX0, hY0⟩ := joins_plain (few_err H_ha.out) (few_err H_hb0.out) (few_err Hfab.out) (few_ids H_ha.out hla) (few_ids H_hb0.out hlb)
  have OX : Hid (∀ c ∈ X, okID c.1) := tbl_okID hX (fun m hm => fewM_ok (H_ha.out m hm))
  have OY : Hid (∀ c ∈ Y, okID c.1) := tbl_okID hY (fun m hm => fewM_ok (H_hb0.out m hm))
  have LX := ((tblE_iff X).1 hX0).1
  have LY := ((tblE_iff Y).1 hY0).1
  have LZ := of_len (a ++ b)
  rw [hW] at LZ
  simp only at LZ
  have HhX := Lib.hid hX
  have HhY := Lib.hid hY
  have HhZ := Lib.hid hZ
  have HhW := Lib.hid hW
  have HhV := Lib.hid hV
  clear hX hY hZ hW hV hX0 hY0
  go_wp2_with fail
  refine (Of_any w.heap.size a Aa ca _ R_a_w2.out (by omega) (by omega) (fun m hm => by have := fewM_len (H_ha.out m hm); omega) (fun m hm => fewM_ok (H_ha.out m hm))).mono ?_
  intro e w3 h
  rw [HhX.out] at h
  obtain ⟨A3, c3, he, hr, hc3, hb⟩ := h
  have he' : e = .returned (.tuple #[.slice A3 X.length c3, .int .i64 0]) := he
  subst he'
  have R_a_w3 : Hid (RdM w3 w.heap.size Aa a) := (R_a_w2.out).on hb
  have R_b_w3 : Hid (RdM w3 w.heap.size Ab b) := (R_b_w2.out).on hb
  have T_w3 : Hid (Tp w3 w.heap.size (0 + 49 + 49)) := (T_w2.out).on hb
  have G_w3 : Hid (w.grownBy w3 (some w.heap.size)) := g_below (G_w2.out) hb
  have S_w3 := G_w3.out.size
  have X_w3 := T_w3.out.lt
  have R_x_w3 : Hid (RdC w3 w.heap.size A3 X) := hr
  clear hr hb he
  go_wp2_with fail
  refine (Of_any w.heap.size b Ab cb _ R_b_w3.out (by omega) (by omega) (fun m hm => by have := fewM_len (H_hb0.out m hm); omega) (fun m hm => fewM_ok (H_hb0.out m hm))).mono ?_
  intro e w4 h
  rw [HhY.out] at h
  obtain ⟨A4, c4, he, hr, hc4, hb⟩ := h
  have he' : e = .returned (.tuple #[.slice A4 Y.length c4, .int .i64 0]) := he
  subst he'
  have R_a_w4 : Hid (RdM w4 w.heap.size Aa a) := (R_a_w3.out).on hb
  have R_b_w4 : Hid (RdM w4 w.heap.size Ab b) := (R_b_w3.out).on hb
  have R_x_w4 : Hid (RdC w4 w.heap.size A3 X) := (R_x_w3.out).on hb
  have T_w4 : Hid (Tp w4 w.heap.size (0 + 49 + 49)) := (T_w3.out).on hb
  have G_w4 : Hid (w.grownBy w4 (some w.heap.size)) := g_below (G_w3.out) hb
  have S_w4 := G_w4.out.size
  have X_w4 := T_w4.out.lt
  have R_y_w4 : Hid (RdC w4 w.heap.size A4 Y) := hr
  clear hr hb he
  go_wp2_with fail
  refine (Merge_any w.heap.size X Y A3 A4 c3 c4 _ R_x_w4.out R_y_w4.out (by omega) (by omega) (by omega) OX.out OY.out).mono ?_
  intro e w5 h
  rw [HhZ.out] at h
  obtain ⟨A5, c5, he, hr, hc5, hb⟩ := h
  have he' : e = .returned (.tuple #[.slice A5 Z.length c5, .int .i64 0]) := he
  subst he'
  have R_a_w5 : Hid (RdM w5 w.heap.size Aa a) := (R_a_w4.out).on hb
  have R_b_w5 : Hid (RdM w5 w.heap.size Ab b) := (R_b_w4.out).on hb
  have R_x_w5 : Hid (RdC w5 w.heap.size A3 X) := (R_x_w4.out).on hb
  have R_y_w5 : Hid (RdC w5 w.heap.size A4 Y) := (R_y_w4.out).on hb
  have T_w5 : Hid (Tp w5 w.heap.size (0 + 49 + 49)) := (T_w4.out).on hb
  have G_w5 : Hid (w.grownBy w5 (some w.heap.size)) := g_below (G_w4.out) hb
  have S_w5 := G_w5.out.size
  have X_w5 := T_w5.out.lt
  have R_z_w5 : Hid (RdC w5 w.heap.size A5 Z) := hr
  clear hr hb he
  obtain ⟨rsa, a1, a2, a3⟩ := R_a_w5.out
  obtain ⟨rsb, b1, b2, b3⟩ := R_b_w5.out
  have Ra1 := Lib.hid a1
  have Rb1 := Lib.hid b1
  have Ha2 := Lib.hid a2
  have Hb2 := Lib.hid b2
  have Ha3 := Lib.hid a3
  have Hb3 := Lib.hid b3
  have la4 : rsa.length ≤ 4 := by omega
  have lb4 : rsb.length ≤ 4 := by omega
  clear a1 a2 a3 b1 b2 b3
  obtain ⟨i0, hi, hz0, hz1, hz2⟩ := info_parts info38
  go_wp2_with (at_builtin; refine halt_ ?_)
  unfold Hid
  refine wpList_append_opt rfl _ _ _ rfl w5.heap.size 38 i0 _ 2 32 Try.underlying22 hi hz0 hz1 hz2 rfl (by decide) (.slice none 0 0) 0 [] rfl (World.ownsRow_nil _ _ _ _) Aa a.length ca (rsa.flatMap encMR) rfl (by rw [flat_len encMR_len, Ha2.out]) (fun e => by rw [← Ha2.out]; exact (Ra1.out.opt encMR_len (by omega)).1 e) (Ra1.out.opt encMR_len (by omega)).2 (flatM_one rsa) (by unfold maxLen; omega) (by omega) (Nat.le_refl _) ?_
  intro v6 w6 hown6 hg6
  have hb6 : Below w5.heap.size w5 w6 := (Below.refl _ w5).grown hg6 (Nat.le_refl _) (fun k hk => by simp [Value.ownBlock] at hk)
  have Hb6 := Lib.hid hb6
  have Hown6 := Lib.hid hown6
  have hs6 := hb6.size
  clear hown6 hg6 hb6
  go_wp2_with (at_builtin; refine halt_ ?_)
  unfold Hid
  refine wpList_append_opt rfl _ _ _ rfl w5.heap.size 38 i0 _ 2 32 Try.underlying22 hi hz0 hz1 hz2 rfl (by decide) v6 (0 + a.length) _ rfl Hown6.out Ab b.length cb (rsb.flatMap encMR) rfl (by rw [flat_len encMR_len, Hb2.out]) (fun e => by rw [← Hb2.out]; exact (Rb1.out.opt encMR_len (by omega)).1 e) ((Rb1.out.on Hb6.out).opt encMR_len (by omega)).2 (flatM_one rsb) (by unfold maxLen; omega) (by omega) hs6 ?_
  intro v7 w7 hown7 hg7
  have hb : Below w5.heap.size w5 w7 := Hb6.out.grown hg7 hs6 (fun k hk => (Hown6.out.lt k hk).1)
  obtain ⟨A7, c7, rfl⟩ := own_slice hown7
  have hl7 : 0 + a.length + b.length = (a ++ b).length := by simp
  have hlk := links_app Ha2.out (fun j hj => (Ha3.out j hj).on hb) Hb2.out (fun j hj => (Hb3.out j hj).on hb)
  have R_ab : Hid (RdM w7 w.heap.size A7 (a ++ b)) := ⟨rsa ++ rsb, (Rd.of_own encMR_len (by omega) (by rw [List.flatMap_append]; simpa using hown7) (by omega)).2, hlk⟩
  have R_a_w7 : Hid (RdM w7 w.heap.size Aa a) := (R_a_w5.out).on hb
  have R_b_w7 : Hid (RdM w7 w.heap.size Ab b) := (R_b_w5.out).on hb
  have R_x_w7 : Hid (RdC w7 w.heap.size A3 X) := (R_x_w5.out).on hb
  have R_y_w7 : Hid (RdC w7 w.heap.size A4 Y) := (R_y_w5.out).on hb
  have R_z_w7 : Hid (RdC w7 w.heap.size A5 Z) := (R_z_w5.out).on hb
  have T_w7 : Hid (Tp w7 w.heap.size (0 + 49 + 49)) := (T_w5.out).on hb
  have G_w7 : Hid (w.grownBy w7 (some w.heap.size)) := g_below (G_w5.out) hb
  have S_w7 := G_w7.out.size
  have X_w7 := T_w7.out.lt
  have Hl7 := Lib.hid hl7
  clear hown7 hg7 hb hlk hl7
  have R_ab_w7 := R_ab
  have Cab : Calls Try.prog 13 #[.slice A7 (a.length + b.length) c7] w7 (TwoC w.heap.size (ofP (a ++ b)) w7) := by have := Of_any w.heap.size (a ++ b) A7 c7 w7 R_ab_w7.out (by omega) (by simp; omega) (fun m hm => by have := fewM_len (Hfab.out m hm); omega) (fun m hm => fewM_ok (Hfab.out m hm)); rwa [List.length_append] at this
  have HCab := Lib.hid Cab
  clear Cab
  go_wp2_with fail
  refine (HCab.out).mono ?_
  intro e w8 h
  rw [HhW.out] at h
  obtain ⟨A8, c8, he, hr, hc8, hb⟩ := h
  have he' : e = .returned (.tuple #[.slice A8 Z.length c8, .int .i64 0]) := he
  subst he'
  have R_a_w8 : Hid (RdM w8 w.heap.size Aa a) := (R_a_w7.out).on hb
  have R_b_w8 : Hid (RdM w8 w.heap.size Ab b) := (R_b_w7.out).on hb
  have R_x_w8 : Hid (RdC w8 w.heap.size A3 X) := (R_x_w7.out).on hb
  have R_y_w8 : Hid (RdC w8 w.heap.size A4 Y) := (R_y_w7.out).on hb
  have R_z_w8 : Hid (RdC w8 w.heap.size A5 Z) := (R_z_w7.out).on hb
  have R_ab_w8 : Hid (RdM w8 w.heap.size A7 (a ++ b)) := (R_ab_w7.out).on hb
  have T_w8 : Hid (Tp w8 w.heap.size (0 + 49 + 49)) := (T_w7.out).on hb
  have G_w8 : Hid (w.grownBy w8 (some w.heap.size)) := g_below (G_w7.out) hb
  have S_w8 := G_w8.out.size
  have X_w8 := T_w8.out.lt
  have R_u_w8 : Hid (RdC w8 w.heap.size A8 Z) := hr
  clear hr hb he
  go_wp2_with fail
  refine (Merge_any w.heap.size Y X A4 A3 c4 c3 _ R_y_w8.out R_x_w8.out (by omega) (by omega) (by omega) OY.out OX.out).mono ?_
  intro e w9 h
  rw [HhV.out] at h
  obtain ⟨A9, c9, he, hr, hc9, hb⟩ := h
  have he' : e = .returned (.tuple #[.slice A9 Z.length c9, .int .i64 0]) := he
  subst he'
  have R_a_w9 : Hid (RdM w9 w.heap.size Aa a) := (R_a_w8.out).on hb
  have R_b_w9 : Hid (RdM w9 w.heap.size Ab b) := (R_b_w8.out).on hb
  have R_x_w9 : Hid (RdC w9 w.heap.size A3 X) := (R_x_w8.out).on hb
  have R_y_w9 : Hid (RdC w9 w.heap.size A4 Y) := (R_y_w8.out).on hb
  have R_z_w9 : Hid (RdC w9 w.heap.size A5 Z) := (R_z_w8.out).on hb
  have R_ab_w9 : Hid (RdM w9 w.heap.size A7 (a ++ b)) := (R_ab_w8.out).on hb
  have R_u_w9 : Hid (RdC w9 w.heap.size A8 Z) := (R_u_w8.out).on hb
  have T_w9 : Hid (Tp w9 w.heap.size (0 + 49 + 49)) := (T_w8.out).on hb
  have G_w9 : Hid (w.grownBy w9 (some w.heap.size)) := g_below (G_w8.out) hb
  have S_w9 := G_w9.out.size
  have X_w9 := T_w9.out.lt
  have R_v_w9 : Hid (RdC w9 w.heap.size A9 Z) := hr
  clear hr hb he
  go_wp2_with fail
  refine (known_any w.heap.size _ (by omega)).mono ?_
  rintro e w10 ⟨rfl, hb⟩
  have R_a_w10 : Hid (RdM w10 w.heap.size Aa a) := (R_a_w9.out).on hb
  have R_b_w10 : Hid (RdM w10 w.heap.size Ab b) := (R_b_w9.out).on hb
  have R_x_w10 : Hid (RdC w10 w.heap.size A3 X) := (R_x_w9.out).on hb
  have R_y_w10 : Hid (RdC w10 w.heap.size A4 Y) := (R_y_w9.out).on hb
  have R_z_w10 : Hid (RdC w10 w.heap.size A5 Z) := (R_z_w9.out).on hb
  have R_ab_w10 : Hid (RdM w10 w.heap.size A7 (a ++ b)) := (R_ab_w9.out).on hb
  have R_u_w10 : Hid (RdC w10 w.heap.size A8 Z) := (R_u_w9.out).on hb
  have R_v_w10 : Hid (RdC w10 w.heap.size A9 Z) := (R_v_w9.out).on hb
  have T_w10 : Hid (Tp w10 w.heap.size (0 + 49 + 49)) := (T_w9.out).on hb
  have G_w10 : Hid (w.grownBy w10 (some w.heap.size)) := g_below (G_w9.out) hb
  have S_w10 := G_w10.out.size
  have X_w10 := T_w10.out.lt
  clear hb
  go_wp2_with fail
  refine (same_true w.heap.size w.heap.size Z A5 A8 c5 c8 _ R_z_w10.out R_u_w10.out (by omega)).mono ?_
  rintro e w11 ⟨rfl, hb⟩
  have R_a_w11 : Hid (RdM w11 w.heap.size Aa a) := (R_a_w10.out).on hb
  have R_b_w11 : Hid (RdM w11 w.heap.size Ab b) := (R_b_w10.out).on hb
  have R_x_w11 : Hid (RdC w11 w.heap.size A3 X) := (R_x_w10.out).on hb
  have R_y_w11 : Hid (RdC w11 w.heap.size A4 Y) := (R_y_w10.out).on hb
  have R_z_w11 : Hid (RdC w11 w.heap.size A5 Z) := (R_z_w10.out).on hb
  have R_ab_w11 : Hid (RdM w11 w.heap.size A7 (a ++ b)) := (R_ab_w10.out).on hb
  have R_u_w11 : Hid (RdC w11 w.heap.size A8 Z) := (R_u_w10.out).on hb
  have R_v_w11 : Hid (RdC w11 w.heap.size A9 Z) := (R_v_w10.out).on hb
  have T_w11 : Hid (Tp w11 w.heap.size (0 + 49 + 49)) := (T_w10.out).on hb
  have G_w11 : Hid (w.grownBy w11 (some w.heap.size)) := g_below (G_w10.out) hb
  have S_w11 := G_w11.out.size
  have X_w11 := T_w11.out.lt
  clear hb
  go_wp2_with fail
  refine (same_true w.heap.size w.heap.size Z A5 A9 c5 c9 _ R_z_w11.out R_v_w11.out (by omega)).mono ?_
  rintro e w12 ⟨rfl, hb⟩
  have R_a_w12 : Hid (RdM w12 w.heap.size Aa a) := (R_a_w11.out).on hb
  have R_b_w12 : Hid (RdM w12 w.heap.size Ab b) := (R_b_w11.out).on hb
  have R_x_w12 : Hid (RdC w12 w.heap.size A3 X) := (R_x_w11.out).on hb
  have R_y_w12 : Hid (RdC w12 w.heap.size A4 Y) := (R_y_w11.out).on hb
  have R_z_w12 : Hid (RdC w12 w.heap.size A5 Z) := (R_z_w11.out).on hb
  have R_ab_w12 : Hid (RdM w12 w.heap.size A7 (a ++ b)) := (R_ab_w11.out).on hb
  have R_u_w12 : Hid (RdC w12 w.heap.size A8 Z) := (R_u_w11.out).on hb
  have R_v_w12 : Hid (RdC w12 w.heap.size A9 Z) := (R_v_w11.out).on hb
  have T_w12 : Hid (Tp w12 w.heap.size (0 + 49 + 49)) := (T_w11.out).on hb
  have G_w12 : Hid (w.grownBy w12 (some w.heap.size)) := g_below (G_w11.out) hb
  have S_w12 := G_w12.out.size
  have X_w12 := T_w12.out.lt
  clear hb
  go_wp2_with fail
  go_ret
  exact ⟨rfl, law_end G_w12.out⟩
end Go.Proofs.Ytjglpmcekbjoaaa
