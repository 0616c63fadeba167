/- Walks of laws: RefcountOrder. -/
import Derived.Test.YtjglpmcekbjoaaaLB
import Derived.Test.YtjglpmcekbjoaaaPD
namespace Go.Proofs.Ytjglpmcekbjoaaa
open Go.RowKit Go.MapKept Go.ChangeMaps
attribute [local go_sem] wext_cell

/-- The manifest at an index, as it lies. -/
theorem RdM.at {w : World} {x : Nat} {A : Option Addr} {ms : List Man} (h : RdM w x A ms) {k : Nat} (hk : k < ms.length) :
    ∃ (b o : Nat) (rA : Option Addr) (rc : Nat), A = some ⟨b, o, none⟩ ∧ b < w.heap.size ∧ w.cell? ⟨b, o + k * 2, none⟩ = some (.int .i64 (ms.getD k man0).size) ∧ w.cell? ⟨b, o + k * 2 + 1, none⟩ = some (.slice rA (ms.getD k man0).ids.length rc) ∧ RdID w x rA (ms.getD k man0).ids ∧ (ms.getD k man0).ids.length ≤ rc := by
  obtain ⟨rs, h1, h2, h3⟩ := h
  obtain ⟨b, o, e, hb, _, hc⟩ := h1 (by omega)
  obtain ⟨l1, l2, l3, l4⟩ := h3 k hk
  have c0 := hc k (by omega) 0 _ rfl
  have c1 := hc k (by omega) 1 _ rfl
  rw [l1] at c0
  rw [l2] at c1
  exact ⟨b, o, (rs.getD k mr0).A, (rs.getD k mr0).cap, e, hb, c0, c1, l4, by rw [← l2]; exact l3⟩
theorem few_take {ms : List Man} (h : ∀ m ∈ ms, FewM false m) (k : Nat) : ∀ m ∈ ms.take k, FewM false m := fun m hm => h m (List.mem_of_mem_take hm)
theorem ids_take {ms : List Man} (h : ∀ m ∈ ms, FewM false m) (hl : ms.length ≤ 4) (k : Nat) : (idsOf (ms.take k)).length ≤ 20 := few_ids (few_take h k) (by rw [List.length_take]; omega)
theorem rev_get {ms : List Man} {k j : Nat} (hk : k < ms.length) (hj : j = ms.length - 1 - k) : ms.reverse.getD k man0 = ms.getD j man0 := by
  subst hj
  rw [List.getD_eq_getElem?_getD, List.getD_eq_getElem?_getD, List.getElem?_reverse hk]
theorem cell_at {A : Option Addr} {b b' o o' : Nat} (h : A = some ⟨b, o, none⟩) (h' : A = some ⟨b', o', none⟩) : b = b' ∧ o = o' := by
  rw [h] at h'
  injection h' with h'
  injection h' with h1 h2
  exact ⟨h1, h2⟩

set_option maxRecDepth 100000 in
set_option maxHeartbeats 8000000 in
theorem law6 (A : Option Addr) (l : List Int) (c : Nat) (w : World) (hr : RdT w w.heap.size A l) (hn : l.length ≤ 9223372036854775807) :
    Calls Try.prog 6 #[.slice A l.length c] w (Gives (.bool true) w) := by
  have T_w : Hid (Tp (w.alloc (.cells #[.slice A l.length c, .int .i64 0] 26)) w.heap.size 0) := tape0 hr hn
  have G_w : Hid (w.grownBy (w.alloc (.cells #[.slice A l.length c, .int .i64 0] 26)) (some w.heap.size)) := World.grownBy_alloc _ _ _
  clear hr hn
  go_enter Try.func6, Try.ntmps6
  go_wp2_with fail
  refine (lists_any false w.heap.size 0 _ (by omega) T_w.out).mono ?_
  rintro e w1 ⟨m, Am, cm, hm, hlm, rfl, hrm, hcm, _, ht, hg⟩
  have T_w1 : Hid (Tp w1 w.heap.size (0 + 49)) := ht
  have G_w1 : Hid (w.grownBy w1 (some w.heap.size)) := g_trans (G_w.out) hg
  have S_w1 := G_w1.out.size
  have X_w1 := T_w1.out.lt
  have R_m_w1 := Lib.hid hrm
  have H_hm := Lib.hid hm
  clear hrm hm ht hg
  have Hrv : Hid (∀ y ∈ m.reverse, FewM false y) := fun y hy => H_hm.out y (List.mem_reverse.1 hy)
  have Hlr : Hid (m.reverse.length = m.length) := List.length_reverse
  go_wp2_with fail
  go_loopw [5, 6, 7] (fun v5 v6 v7 wr => ∃ (k : Nat) (X Y : List CT) (A5 A6 : Option Addr) (c5 c6 : Nat), k ≤ m.length ∧ v7 = .int .i64 k ∧ v5 = .slice A5 X.length c5 ∧ v6 = .slice A6 Y.length c6 ∧ TellsX X (m.take k) ∧ TellsX Y (m.reverse.take k) ∧ RdC wr w.heap.size A5 X ∧ RdC wr w.heap.size A6 Y ∧ Below w1.heap.size w1 wr) (fun _ _ v7 _ => m.length - (intOf v7).toNat)
  case atStart => exact ⟨0, [], [], none, none, 0, 0, Nat.zero_le _, rfl, rfl, rfl, TellsX.nil, TellsX.nil, Rd.nil, Rd.nil, Below.refl _ _⟩
  case round =>
    obtain ⟨k, X, Y, A5, A6, c5, c6, hk, rfl, rfl, rfl, hX, hY, hrX, hrY, hb⟩ := hrel
    have hsz := hb.size
    have HX := Lib.hid hX
    have HY := Lib.hid hY
    have RX := Lib.hid hrX
    have RY := Lib.hid hrY
    have Hb := Lib.hid hb
    have lX := ((tblE_iff X).1 hX.1).1
    have lY := ((tblE_iff Y).1 hY.1).1
    have OX : Hid (∀ c ∈ X, okID c.1) := hX.ok (fun y hy => fewM_ok (few_take H_hm.out k y hy))
    have OY : Hid (∀ c ∈ Y, okID c.1) := hY.ok (fun y hy => fewM_ok (few_take Hrv.out k y hy))
    clear hX hY hrX hrY hb
    by_cases hlt : k < m.length
    · obtain ⟨j, Hj⟩ : ∃ j, Hid (j = m.length - 1 - k) := ⟨_, rfl⟩
      have hjl : j < m.length := by have := Hj.out; omega
      have ek : ((m.length : Int) - 1 - (k : Int)).toNat = j := by have := Hj.out; omega
      have ek0 : 0 ≤ (m.length : Int) - 1 - (k : Int) := by omega
      have ek1 : (m.length : Int) - 1 - (k : Int) < m.length := by omega
      have Hek := Lib.hid ek
      obtain ⟨b, o, rA, rc, eA, hbl, d0, d1, r1, q1⟩ := RdM.at R_m_w1.out hlt
      obtain ⟨b', o', sA, sc, eA', _, f0, f1, r2, q2⟩ := RdM.at R_m_w1.out hjl
      obtain ⟨rfl, rfl⟩ := cell_at eA eA'
      have fk := H_hm.out _ (getD_mem m man0 k hlt)
      have fj := H_hm.out _ (getD_mem m man0 j hjl)
      have HtX : Hid (m.take (k + 1) = m.take k ++ [m.getD k man0]) := take_snoc _ _ _ hlt
      have HtY : Hid (m.reverse.take (k + 1) = m.reverse.take k ++ [m.getD j man0]) := by
        unfold Hid
        rw [take_snoc _ man0 _ (by rw [Hlr.out]; exact hlt), rev_get hlt Hj.out]
      obtain ⟨T, hT, tT⟩ := HX.out.add (few_man fk) (by rw [← HtX.out]; have := ids_take H_hm.out hlm (k + 1); omega)
      obtain ⟨U, hU, tU⟩ := HY.out.add (few_man fj) (by rw [← HtY.out]; have := ids_take Hrv.out (by rw [Hlr.out]; exact hlm) (k + 1); omega)
      rw [← HtX.out] at tT
      rw [← HtY.out] at tU
      obtain ⟨mk, Hmk⟩ : ∃ mk, Hid (m.getD k man0 = mk) := ⟨_, rfl⟩
      obtain ⟨mj, Hmj⟩ : ∃ mj, Hid (m.getD j man0 = mj) := ⟨_, rfl⟩
      rw [Hmk.out] at d0 d1 r1 q1 fk hT
      rw [Hmj.out] at f0 f1 r2 q2 fj hU
      subst eA
      have D0 := Lib.hid d0
      have D1 := Lib.hid d1
      have F0 := Lib.hid f0
      have F1 := Lib.hid f1
      have R1 := Lib.hid r1
      have R2 := Lib.hid r2
      have Fk := Lib.hid fk
      have Fj := Lib.hid fj
      have HT := Lib.hid hT
      have HU := Lib.hid hU
      have TT := Lib.hid tT
      have TU := Lib.hid tU
      have lk := fewM_len fk
      have lj := fewM_len fj
      clear d0 d1 f0 f1 r1 r2 fk fj hT hU tT tU eA' ek
      have e0 := B_cell Hb.out hbl D0.out
      have e1 := B_cell Hb.out hbl D1.out
      go_wp2_with fail
      refine (Add_any w.heap.size X A5 c5 mk rA rc _ RX.out (R1.out.on Hb.out) q1 (by omega) (by omega) (by omega) (fewM_ok Fk.out) OX.out).mono ?_
      intro e w2 h
      rw [HT.out] at h
      obtain ⟨A7, c7, he, hr, hc, hb⟩ := h
      have he' : e = .returned (.tuple #[.slice A7 T.length c7, .int .i64 0]) := he
      subst he'
      have HB2 : Hid (Below w1.heap.size w1 w2) := Hb.out.trans (hb.mono hsz)
      have RT : Hid (RdC w2 w.heap.size A7 T) := hr
      have RY2 := Lib.hid (RY.out.on hb)
      have hs2 := HB2.out.size
      clear he hr hb e0 e1
      have e0 := B_cell HB2.out hbl F0.out
      have e1 := B_cell HB2.out hbl F1.out
      have ek := Hek.out
      go_wp2_with fail
      clear ek
      refine (Add_any w.heap.size Y A6 c6 mj sA sc _ RY2.out (R2.out.on HB2.out) q2 (by omega) (by omega) (by omega) (fewM_ok Fj.out) OY.out).mono ?_
      intro e w3 h
      rw [HU.out] at h
      obtain ⟨A8, c8, he, hr, hc, hb⟩ := h
      have he' : e = .returned (.tuple #[.slice A8 U.length c8, .int .i64 0]) := he
      subst he'
      have HB3 : Hid (Below w1.heap.size w1 w3) := HB2.out.trans (hb.mono hs2)
      have RU : Hid (RdC w3 w.heap.size A8 U) := hr
      have RT3 := Lib.hid (RT.out.on hb)
      clear he hr hb e0 e1
      go_wp2_with fail
      go_roundw
      case rel => exact ⟨k + 1, T, U, A7, A8, c7, c8, by omega, by go_num, rfl, rfl, TT.out, TU.out, RT3.out, RU.out, HB3.out⟩
      case measure => simp [intOf]; omega
    · obtain rfl : k = m.length := by omega
      obtain ⟨Z, hZ, tZ⟩ := TellsX.of (few_err H_hm.out) (by have := few_ids H_hm.out hlm; omega)
      have hXZ : X = Z := TellsX.eq HX.out tZ (by rw [List.take_length])
      have hYZ : Y = Z := TellsX.eq HY.out tZ (by rw [← Hlr.out, List.take_length]; exact List.reverse_perm m)
      subst hXZ hYZ
      have HZ := Lib.hid hZ
      clear hZ tZ
      have G_wr : Hid (w.grownBy wr (some w.heap.size)) := g_below G_w1.out Hb.out
      have hsg := G_wr.out.size
      go_wp2_with fail
      refine (Of_any w.heap.size m Am cm _ (R_m_w1.out.on Hb.out) (by omega) (by omega) (fun y hy => by have := fewM_len (H_hm.out y hy); omega) (fun y hy => fewM_ok (H_hm.out y hy))).mono ?_
      intro e w2 h
      rw [HZ.out] at h
      obtain ⟨A7, c7, he, hr, hc, hb⟩ := h
      have he' : e = .returned (.tuple #[.slice A7 Y.length c7, .int .i64 0]) := he
      subst he'
      have RZ : Hid (RdC w2 w.heap.size A7 Y) := hr
      have RX2 := Lib.hid (RX.out.on hb)
      have RY2 := Lib.hid (RY.out.on hb)
      have G2 : Hid (w.grownBy w2 (some w.heap.size)) := g_below G_wr.out hb
      have hs2 := hb.size
      clear he hr hb
      go_wp2_with fail
      refine (known_any w.heap.size _ (by omega)).mono ?_
      rintro e w3 ⟨rfl, hb⟩
      have RZ3 := Lib.hid (RZ.out.on hb)
      have RX3 := Lib.hid (RX2.out.on hb)
      have RY3 := Lib.hid (RY2.out.on hb)
      have G3 : Hid (w.grownBy w3 (some w.heap.size)) := g_below G2.out hb
      clear hb
      go_wp2_with fail
      refine (same_true w.heap.size w.heap.size Y A5 A6 c5 c6 _ RX3.out RY3.out (by omega)).mono ?_
      rintro e w4 ⟨rfl, hb⟩
      have RZ4 := Lib.hid (RZ3.out.on hb)
      have RX4 := Lib.hid (RX3.out.on hb)
      have G4 : Hid (w.grownBy w4 (some w.heap.size)) := g_below G3.out hb
      clear hb
      go_wp2_with fail
      refine (same_true w.heap.size w.heap.size Y A5 A7 c5 c7 _ RX4.out RZ4.out (by omega)).mono ?_
      rintro e w5 ⟨rfl, hb⟩
      have G5 : Hid (w.grownBy w5 (some w.heap.size)) := g_below G4.out hb
      clear hb
      go_wp2_with fail
      go_ret
      exact ⟨rfl, law_end G5.out⟩
end Go.Proofs.Ytjglpmcekbjoaaa
