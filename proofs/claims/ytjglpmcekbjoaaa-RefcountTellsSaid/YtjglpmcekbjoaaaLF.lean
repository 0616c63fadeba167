/- Walks of laws: RefcountLives. -/
import Derived.Test.YtjglpmcekbjoaaaLG
import Derived.Test.YtjglpmcekbjoaaaLB
import Derived.Test.YtjglpmcekbjoaaaPD
import Derived.Test.YtjglpmcekbjoaaaVF
namespace Go.Proofs.Ytjglpmcekbjoaaa
open Go.RowKit Go.MapKept Go.ChangeMaps
attribute [local go_sem] wext_cell

theorem drop_man {ms : List Man} {k : Nat} (h : k < ms.length) : ms.drop k = ms.getD k man0 :: ms.drop (k + 1) := drop_cons_getD ms man0 k h
theorem ids_snoc (K : List Man) {j : Nat} (h : j < K.length) : idsOf (K.take (j + 1)) = idsOf (K.take j) ++ (K.getD j man0).ids := by rw [take_snoc _ man0 _ h, ids_app, ids_one]
theorem Link.gr {w w' : World} {x : Nat} {r : MR} {m : Man} (h : Link w x r m) (hb : w.grownBy w' (some x)) : Link w' x r m := let ⟨a, b, c, d⟩ := h; ⟨a, b, c, d.gr hb⟩
theorem G_cell {w w' : World} {x b o : Nat} {v : Value} (h : w.grownBy w' (some x)) (hb : b < w.heap.size) (hx : b ≠ x) (hc : w.cell? ⟨b, o, none⟩ = some v) : w'.cell? ⟨b, o, none⟩ = some v := (g_cell h hb hx).trans hc
theorem RdM.atx {w : World} {x : Nat} {A : Option Addr} {ms : List Man} (h : RdM w x A ms) {k : Nat} (hk : k < ms.length) :
    ∃ (b o : Nat) (rA : Option Addr) (rc : Nat), A = some ⟨b, o, none⟩ ∧ b < w.heap.size ∧ b ≠ x ∧ w.cell? ⟨b, o + k * 2, none⟩ = some (.int .i64 (ms.getD k man0).size) ∧ w.cell? ⟨b, o + k * 2 + 1, none⟩ = some (.slice rA (ms.getD k man0).ids.length rc) ∧ RdID w x rA (ms.getD k man0).ids ∧ (ms.getD k man0).ids.length ≤ rc := by
  obtain ⟨rs, h1, h2, h3⟩ := h
  obtain ⟨b, o, e, hb, hbx, hc⟩ := h1 (by omega)
  obtain ⟨l1, l2, l3, l4⟩ := h3 k hk
  have c0 := hc k (by omega) 0 _ rfl
  have c1 := hc k (by omega) 1 _ rfl
  rw [l1] at c0
  rw [l2] at c1
  exact ⟨b, o, (rs.getD k mr0).A, (rs.getD k mr0).cap, e, hb, hbx, c0, c1, l4, by rw [← l2]; exact l3⟩
def KeptR (w3 : World) (x : Nat) (all K : List Man) (X : List CT) (qs : List MR) (k : Nat) (A5 A7 : Option Addr) (c7 : Nat) (wr : World) : Prop :=
  LivesX X all K (all.drop k) ∧ (∀ m ∈ K, FewM false m) ∧ qs.length = K.length ∧ qs.length ≤ k ∧ (∀ j, j < K.length → Link w3 x (qs.getD j mr0) (K.getD j man0)) ∧ wr.ownsRow w3.heap.size 38 2 (.slice A7 qs.length c7) qs.length (qs.flatMap encMR) ∧ RdC wr x A5 X ∧
    (0 < X.length → ∀ b o, A5 = some ⟨b, o, none⟩ → some b ≠ (Value.slice A7 qs.length c7).ownBlock) ∧ Tp wr x (49 + k) ∧ w3.grownBy wr (some x)

set_option maxRecDepth 100000 in
set_option maxHeartbeats 8000000 in
theorem law4 (A : Option Addr) (l : List Int) (c : Nat) (w : World) (hr : RdT w w.heap.size A l) (hn : l.length ≤ 9223372036854775807) :
    Calls Try.prog 4 #[.slice A l.length c] w (Gives (.bool true) w) := by
  have T_w : Hid (Tp (w.alloc (.cells #[.slice A l.length c, .int .i64 0] 26)) w.heap.size 0) := tape0 hr hn
  have G_w : Hid (w.grownBy (w.alloc (.cells #[.slice A l.length c, .int .i64 0] 26)) (some w.heap.size)) := World.grownBy_alloc _ _ _
  clear hr hn
  go_enter Try.func4, Try.ntmps4
  go_wp2_with fail
  refine (lists_any false w.heap.size 0 _ (by omega) T_w.out).mono ?_
  rintro e w1 ⟨all, Aa, ca, ha, hla, rfl, hra, hca, _, ht, hg⟩
  have T_w1 : Hid (Tp w1 w.heap.size (0 + 49)) := ht
  have G_w1 : Hid (w.grownBy w1 (some w.heap.size)) := g_trans (G_w.out) hg
  have S_w1 := G_w1.out.size
  have X_w1 := T_w1.out.lt
  have R_a_w1 := Lib.hid hra
  have H_ha := Lib.hid ha
  clear hra ha ht hg
  have Hok : Hid (∀ m ∈ all, ∀ i ∈ m.ids, okID i) := fun m hm => fewM_ok (H_ha.out m hm)
  obtain ⟨X0, hX0, tX0⟩ := TellsX.of (few_err H_ha.out) (by have := few_ids H_ha.out hla; omega)
  have HX0 := Lib.hid hX0
  have TX0 := Lib.hid tX0
  clear hX0 tX0
  go_wp2_with fail
  refine (Of_any w.heap.size all Aa ca _ R_a_w1.out (by omega) (by omega) (fun m hm => by have := fewM_len (H_ha.out m hm); omega) Hok.out).mono ?_
  intro e w2 h
  rw [HX0.out] at h
  obtain ⟨A2, c2, he, hr, hc2, hb⟩ := h
  have he' : e = .returned (.tuple #[.slice A2 X0.length c2, .int .i64 0]) := he
  subst he'
  have R_a_w2 : Hid (RdM w2 w.heap.size Aa all) := (R_a_w1.out).on hb
  have T_w2 : Hid (Tp w2 w.heap.size (0 + 49)) := (T_w1.out).on hb
  have G_w2 : Hid (w.grownBy w2 (some w.heap.size)) := g_below (G_w1.out) hb
  have S_w2 := G_w2.out.size
  have X_w2 := T_w2.out.lt
  have R_x_w2 : Hid (RdC w2 w.heap.size A2 X0) := hr
  clear hr hb he
  go_wp2_with fail
  refine (known_any w.heap.size _ (by omega)).mono ?_
  rintro e w3 ⟨rfl, hb⟩
  have R_a_w3 : Hid (RdM w3 w.heap.size Aa all) := (R_a_w2.out).on hb
  have R_x_w3 : Hid (RdC w3 w.heap.size A2 X0) := (R_x_w2.out).on hb
  have T_w3 : Hid (Tp w3 w.heap.size (0 + 49)) := (T_w2.out).on hb
  have G_w3 : Hid (w.grownBy w3 (some w.heap.size)) := g_below (G_w2.out) hb
  have S_w3 := G_w3.out.size
  have X_w3 := T_w3.out.lt
  clear hb
  obtain ⟨i0, hi, hz0, hz1, hz2⟩ := info_parts info38
  go_wp2_with fail
  go_loopw [5, 6, 7, 8] (fun v5 v6 v7 v8 wr => ∃ (k : Nat) (X : List CT) (K : List Man) (qs : List MR) (A5 A7 : Option Addr) (c5 c7 : Nat), k ≤ all.length ∧ v8 = .int .i64 k ∧ v6 = .int .i64 0 ∧ v5 = .slice A5 X.length c5 ∧ v7 = .slice A7 qs.length c7 ∧ KeptR w3 w.heap.size all K X qs k A5 A7 c7 wr) (fun _ _ _ v8 _ => all.length - (intOf v8).toNat)
  case atStart => exact ⟨0, X0, [], [], A2, none, c2, 0, Nat.zero_le _, rfl, rfl, rfl, rfl, LivesX.start TX0.out, by simp, rfl, Nat.zero_le _, fun j hj => absurd hj (by simp), World.ownsRow_nil _ _ _ _, R_x_w3.out, fun _ _ _ _ => by simp [Value.ownBlock], T_w3.out, g_refl _ _⟩
  case round =>
    obtain ⟨k, X, K, qs, A5, A7, c5, c7, hk, rfl, rfl, rfl, rfl, hX, hfK, hq, hqk, hlk, hown, hrX, hsep, htp, hg⟩ := hrel
    have HFK := Lib.hid hfK
    clear hfK
    have hsz := hg.size
    have HX := Lib.hid hX
    have HQ := Lib.hid hq
    have HLk := Lib.hid hlk
    have HO := Lib.hid hown
    have RX := Lib.hid hrX
    have HS := Lib.hid hsep
    have HT := Lib.hid htp
    have HG := Lib.hid hg
    have lX := ((tblE_iff X).1 hX.1).1
    clear hX hq hlk hown hrX hsep htp hg
    by_cases hlt : k < all.length
    · obtain ⟨rs, h1, h2, h3⟩ := R_a_w3.out
      obtain ⟨b, o, eA, hbl, hbx, hc⟩ := h1 (by omega)
      have l1 := h3 k hlt
      have fk := H_ha.out _ (getD_mem all man0 k hlt)
      obtain ⟨mk, Hmk⟩ : ∃ mk, Hid (all.getD k man0 = mk) := ⟨_, rfl⟩
      obtain ⟨⟨rz, rA, rl, rc⟩, HR⟩ : ∃ r, Hid (rs.getD k mr0 = r) := ⟨_, rfl⟩
      have HLnk : Hid (Link w3 w.heap.size ⟨rz, rA, rl, rc⟩ mk) := by rw [Hid, ← HR.out, ← Hmk.out]; exact l1
      obtain ⟨m1, m2, m3, m4⟩ := l1
      rw [Hmk.out] at m1 m2 m4 fk
      rw [HR.out] at m1 m2 m3 m4
      simp only at m1 m2 m3 m4
      subst m1 m2 eA
      have D0 : Hid (w3.cell? ⟨b, o + k * 2, none⟩ = some (.int .i64 mk.size)) := hc k (by omega) 0 _ (by rw [HR.out]; rfl)
      have D1 : Hid (w3.cell? ⟨b, o + k * 2 + 1, none⟩ = some (.slice rA mk.ids.length rc)) := hc k (by omega) 1 _ (by rw [HR.out]; rfl)
      have Fk := Lib.hid fk
      have M4 := Lib.hid m4
      have lk := fewM_len fk
      have Hdr : Hid (all.drop k = mk :: all.drop (k + 1)) := by rw [Hid, drop_man hlt, Hmk.out]
      clear h1 h2 h3 hc fk m4
      go_wp2_with fail
      refine (Next_any 2 w.heap.size (49 + k) _ (by omega) (by omega) HT.out).mono ?_
      rintro e w4 ⟨r, hr, rfl, ht, hg4⟩
      have T4 := Lib.hid ht
      have O4 := Lib.hid (own_x HO.out hg4 (by omega))
      have G4 : Hid (w3.grownBy w4 (some w.heap.size)) := g_trans HG.out hg4
      have RX4 := Lib.hid (RX.out.gr hg4)
      have s4 := hg4.size
      have e0 := G_cell G4.out hbl hbx D0.out
      have e1 := G_cell G4.out hbl hbx D1.out
      have hxl := T4.out.lt
      clear ht hg4
      by_cases hr0 : r = 0
      · have hb0 : (r == 0) = true := by rw [beq_iff_eq]; exact hr0
        clear hr hr0
        have hL := HX.out
        rw [Hdr.out] at hL
        have HL := Lib.hid hL.keep
        clear hL
        have hbl4 : b < w4.heap.size := by omega
        go_wp2_with (at_builtin; refine halt_ ?_)
        unfold Hid
        refine wpList_append_lies _ rfl _ _ _ rfl w3.heap.size 38 i0 _ 2 32 Try.underlying22 hi hz0 hz1 hz2 rfl (by decide) (.slice A7 qs.length c7) qs.length _ rfl (O4.out.alloc _) ⟨w4.heap.size, 0, none⟩ 1 1 [.int .i64 mk.size, .slice rA mk.ids.length rc] rfl rfl (two_new _ _ _ _ _ rfl) (encMR_one ⟨mk.size, rA, mk.ids.length, rc⟩) (by omega) (by unfold maxLen; omega) (by omega) (by simp; omega) (w4.heap.size + 1) (by simp) ?_
        intro g5 c8 w5 hown5 hgrow5 hat5 hlt5
        have K5 := Lib.hid hown5
        have G5 : Hid (w3.grownBy w5 (some w.heap.size)) := g_own (g_alloc G4.out _) hgrow5 (O4.out.alloc _) (Nat.le_refl _)
        have T5 : Hid (Tp w5 w.heap.size (49 + k + 1)) := (T4.out.alloc _).kept hgrow5 (fun q hq => by have := (O4.out.lt q hq).1; omega)
        have RX5 : Hid (RdC w5 w.heap.size A5 X) := by
          intro hp
          obtain ⟨b9, o9, e9, _⟩ := RX4.out hp
          exact ((RX4.out.alloc _).own hgrow5 (fun b' o' e' => HS.out hp b' o' e')) hp
        have S5 : Hid (0 < X.length → ∀ b' o', A5 = some ⟨b', o', none⟩ → some b' ≠ (Value.slice (some ⟨g5, 0, none⟩) (qs.length + 1) c8).ownBlock) := by
          intro hp b' o' e' hh
          have hbg : b' = g5 := by simpa [Value.ownBlock] using hh
          subst hbg
          rcases hat5 with h | h
          · exact HS.out hp b' o' e' h.symm
          · obtain ⟨b9, o9, e9, h9, _⟩ := RX4.out hp
            rw [e'] at e9
            injection e9 with e9
            injection e9 with e9
            omega
        clear hown5 hgrow5 hat5
        go_wp2_with fail
        go_roundw
        case rel =>
          refine ⟨k + 1, X, K ++ [mk], qs ++ [⟨mk.size, rA, mk.ids.length, rc⟩], A5, some ⟨g5, 0, none⟩, c5, c8, by omega, by go_num, rfl, rfl, by simp, HL.out, fun y hy => (List.mem_append.1 hy).elim (HFK.out y) (fun h => by rw [List.mem_singleton] at h; subst h; exact Fk.out), by simp [HQ.out], by simp; omega, ?_, ?_, RX5.out, ?_, T5.out.more (by omega), G5.out⟩
          · intro j hj
            by_cases hjm : j < K.length
            · rw [getD_snoc_lt _ _ _ _ hjm, getD_snoc_lt _ _ _ _ (by rw [HQ.out]; exact hjm)]
              exact HLk.out j hjm
            · have hje : j = K.length := by simp at hj; omega
              rw [getD_snoc_eq _ _ _ _ hje, getD_snoc_eq _ _ _ _ (by rw [HQ.out]; exact hje)]
              exact HLnk.out
          · rw [List.length_append, List.flatMap_append]
            exact K5.out
          · have e9 : (qs ++ [MR.mk mk.size rA mk.ids.length rc]).length = qs.length + 1 := by simp
            rw [e9]
            exact S5.out
        case measure => simp [intOf]; omega
      · have hb0 : (r == 0) = false := by rw [beq_eq_false_iff_ne]; exact hr0
        clear hr hr0
        have hL := HX.out
        rw [Hdr.out] at hL
        obtain ⟨T, hT, tT⟩ := hL.rel (few_man Fk.out)
        have HTT := Lib.hid hT
        have TT := Lib.hid tT
        clear hL hT tT
        have hbl4 : b < w4.heap.size := by omega
        go_wp2_with fail
        refine (Release_fr w.heap.size X A5 c5 mk rA rc _ RX4.out (M4.out.gr G4.out) m3 (by omega) (by omega) (by omega) (fewM_ok Fk.out) (HX.out.ok Hok.out)).mono ?_
        intro e w5 h
        rw [HTT.out] at h
        obtain ⟨A8, c8, he, hr8, hc8, hf8, hb⟩ := h
        have he' : e = .returned (.tuple #[.slice A8 T.length c8, .int .i64 0]) := he
        subst he'
        have RT : Hid (RdC w5 w.heap.size A8 T) := hr8
        have K5 := Lib.hid (own_on O4.out hb)
        have G5 : Hid (w3.grownBy w5 (some w.heap.size)) := g_below G4.out hb
        have T5 := Lib.hid (T4.out.on hb)
        have S5 : Hid (0 < T.length → ∀ b' o', A8 = some ⟨b', o', none⟩ → some b' ≠ (Value.slice A7 qs.length c7).ownBlock) := by
          intro hp b' o' e' hh
          have h1 := hf8 _ e'
          have h2 := (O4.out.lt b' hh.symm).2
          simp only at h1
          omega
        clear he hr8 hf8 hb
        go_wp2_with fail
        go_roundw
        case rel => exact ⟨k + 1, T, K, qs, A8, A7, c8, c7, by omega, by go_num, rfl, rfl, rfl, TT.out, HFK.out, HQ.out, by omega, HLk.out, K5.out, RT.out, S5.out, T5.out.more (by omega), G5.out⟩
        case measure => simp [intOf]; omega
    · obtain rfl : k = all.length := by omega
      have hX := HX.out
      rw [List.drop_length] at hX
      have HXe := Lib.hid hX
      have hq4 : qs.length ≤ 4 := by omega
      have hK4 : K.length ≤ 4 := by have := HQ.out; omega
      have RK : Hid (RdM wr w.heap.size A7 K) := ⟨qs, (Rd.of_own encMR_len (by omega) HO.out (by omega)).2, HQ.out, fun j hj => (HLk.out j hj).gr HG.out⟩
      have RAl : Hid (RdM wr w.heap.size Aa all) := R_a_w3.out.gr HG.out
      have hdl := dead_len X
      have HQl := Lib.hid HQ.out
      have G0 : Hid (w.grownBy wr (some w.heap.size)) := g_trans G_w3.out HG.out
      have hxl := HT.out.lt
      rename World => wa
      clear hX
      go_wp2_with fail
      refine (Dead_any w.heap.size X A5 c5 _ RX.out (by omega) (by omega)).mono ?_
      rintro e wb ⟨A9, c9, rfl, hr9, hb⟩
      have RD := Lib.hid hr9
      have RKb := Lib.hid (RK.out.on hb)
      have RAb := Lib.hid (RAl.out.on hb)
      have Gb : Hid (w.grownBy wb (some w.heap.size)) := g_below G0.out hb
      obtain ⟨D, HD⟩ : ∃ D, Hid (deadP X = D) := ⟨_, rfl⟩
      rw [HD.out] at RD hdl ⊢
      have sb := hb.size
      clear hr9 hb
      go_wp2_with fail
      go_loopw [10] (fun v10 wr => ∃ i : Nat, i ≤ all.length ∧ v10 = .int .i64 i ∧ Below wb.heap.size wb wr) (fun v10 _ => all.length - (intOf v10).toNat)
      case atStart => exact ⟨0, Nat.zero_le _, rfl, Below.refl _ _⟩
      case round =>
        obtain ⟨i, hil, rfl, hb⟩ := hrel
        have Hb := Lib.hid hb
        clear hb
        by_cases hlt2 : i < all.length
        · obtain ⟨b, o, rA, rc, rfl, hbl, _, d0, d1, r1, q1⟩ := RdM.atx RAb.out hlt2
          have fk := H_ha.out _ (getD_mem all man0 i hlt2)
          have lk := fewM_len fk
          have Hin : Hid (∀ y ∈ (all.getD i man0).ids, y ∈ idsOf all) := fun y hy => List.mem_flatMap.2 ⟨_, getD_mem all man0 i hlt2, hy⟩
          obtain ⟨mi, Hmi⟩ : ∃ mi, Hid (all.getD i man0 = mi) := ⟨_, rfl⟩
          rw [Hmi.out] at d0 d1 r1 q1 fk lk Hin
          have D1 := Lib.hid d1
          have R1 := Lib.hid r1
          clear d0 d1 r1 fk
          go_wp2_with fail
          go_loopw [11] (fun v11 wr => ∃ k : Nat, k ≤ mi.ids.length ∧ v11 = .int .i64 k ∧ Below wb.heap.size wb wr) (fun v11 _ => mi.ids.length - (intOf v11).toNat)
          case atStart => exact ⟨0, Nat.zero_le _, rfl, Hb.out⟩
          case round =>
            obtain ⟨k, hkl, rfl, hb⟩ := hrel
            have hsz := hb.size
            have Hb2 := Lib.hid hb
            clear hb
            have e1 := B_cell Hb2.out hbl D1.out
            by_cases hlt3 : k < mi.ids.length
            · obtain ⟨b1, o1, rfl, hb1, _, hc1⟩ := R1.out (by omega)
              obtain ⟨s, z, HJ⟩ : ∃ s z, Hid (mi.ids.getD k (0, 0) = (s, z)) := ⟨_, _, rfl⟩
              have f0 : wr.cell? ⟨b1, o1 + k * 2, none⟩ = some (.int .u64 s) := B_cell Hb2.out hb1 (hc1 k hlt3 0 _ (by rw [HJ.out]; rfl))
              have f1 : wr.cell? ⟨b1, o1 + k * 2 + 1, none⟩ = some (.int .i64 z) := B_cell Hb2.out hb1 (hc1 k hlt3 1 _ (by rw [HJ.out]; rfl))
              have Hmem : Hid ((s, z) ∈ idsOf all) := Hin.out _ (by rw [← HJ.out]; exact getD_mem _ _ _ hlt3)
              have hdead := HXe.out.dead Hmem.out
              rw [HD.out] at hdead
              have Hdead := Lib.hid hdead
              clear hc1 hdead
              rename World => wc
              go_wp2_with fail
              go_loopw [13, 14] (fun v13 v14 wr => ∃ j : Nat, j ≤ K.length ∧ v14 = .int .i64 j ∧ v13 = .bool (decide ((s, z) ∈ idsOf (K.take j))) ∧ IsB wr wc.heap.size 43 #[.int .u64 s, .int .i64 z] ∧ Below wb.heap.size wb wr) (fun _ v14 _ => K.length - (intOf v14).toNat)
              case atStart => exact ⟨0, Nat.zero_le _, rfl, rfl, IsB.new _ _ _, Hb2.out.alloc hsz _⟩
              case round =>
                obtain ⟨j, hjl, rfl, rfl, hI, hb⟩ := hrel
                have hsz4 := hb.size
                have g0 : wr.cell? ⟨wc.heap.size, 0, none⟩ = some (.int .u64 s) := by rw [hI.cell]; rfl
                have g1 : wr.cell? ⟨wc.heap.size, 1, none⟩ = some (.int .i64 z) := by rw [hI.cell]; rfl
                have hIl := hI.lt
                have HI := Lib.hid hI
                have Hb4 := Lib.hid hb
                obtain ⟨lv, HLv⟩ : ∃ lv, Hid (decide ((s, z) ∈ idsOf (K.take j)) = lv) := ⟨_, rfl⟩
                rw [HLv.out]
                clear hI hb
                have hqK : qs.length = K.length := HQl.out
                have HqK := Lib.hid hqK
                clear hqK
                by_cases hlt4 : j < K.length
                · have hltq : j < qs.length := by have := HqK.out; omega
                  obtain ⟨b4, o4, sA, sc, rfl, hb4l, _, _, p1, r4, q4⟩ := RdM.atx RKb.out hlt4
                  have HN : Hid (decide ((s, z) ∈ idsOf (K.take (j + 1))) = (lv || decide ((s, z) ∈ (K.getD j man0).ids))) := by
                    rw [Hid, ids_snoc K hlt4, ← HLv.out, Bool.eq_iff_iff]
                    simp
                  obtain ⟨mj, Hmj⟩ : ∃ mj, Hid (K.getD j man0 = mj) := ⟨_, rfl⟩
                  rw [Hmj.out] at p1 r4 q4 HN
                  have p1' := B_cell Hb4.out hb4l p1
                  have hb4w : b4 < wr.heap.size := by omega
                  have R4 := Lib.hid (r4.on Hb4.out)
                  have hljf : mj.ids.length ≤ 5 := by
                    have := fewM_len (HFK.out _ (getD_mem K man0 j hlt4))
                    rwa [Hmj.out] at this
                  clear p1 r4
                  cases lv with
                  | true =>
                    go_wp2_with fail
                    refine wp_region_ext (by kernel_rfl) (by kernel_rfl) ?_
                    repeat (go_big_quiet_step (fail))
                    refine wpQuiet_nil ?_
                    intro w6 hb6
                    have B6 : Hid (Below wb.heap.size wb w6) := Hb4.out.trans (hb6.mono hsz4)
                    have I6 := Lib.hid (HI.out.on hb6)
                    clear hb6
                    go_wp2_with fail
                    go_roundw
                    case rel => exact ⟨j + 1, by omega, by go_num, by rw [HN.out]; rfl, I6.out, B6.out⟩
                    case measure => simp [intOf]; omega
                  | false =>
                    have HV : Hid (∀ W, RdID W w.heap.size sA mj.ids → Calls Try.prog 20 #[.slice sA mj.ids.length sc, .agg #[.int .u64 s, .int .i64 z]] W (Gives (.bool (decide ((s, z) ∈ mj.ids))) W)) := fun W hW => Has_any w.heap.size mj.ids sA sc s z W hW (by omega)
                    obtain ⟨hv, Hhv⟩ : ∃ hv, Hid (decide ((s, z) ∈ mj.ids) = hv) := ⟨_, rfl⟩
                    rw [Hhv.out] at HV HN
                    go_wp2_with fail
                    refine wp_region_ext (by kernel_rfl) (by kernel_rfl) ?_
                    repeat (go_big_quiet_step ((go_at_call 20; exact ext_call (HV.out _ (R4.out.on (wext_below _))))))
                    refine wpQuiet_nil ?_
                    intro w6 hb6
                    have B6 : Hid (Below wb.heap.size wb w6) := Hb4.out.trans (hb6.mono hsz4)
                    have I6 := Lib.hid (HI.out.on hb6)
                    clear hb6
                    go_wp2_with fail
                    go_roundw
                    case rel => exact ⟨j + 1, by omega, by go_num, by rw [HN.out]; rfl, I6.out, B6.out⟩
                    case measure => simp [intOf]; omega
                · obtain rfl : j = K.length := by omega
                  rw [List.take_length] at HLv
                  have hd := Hdead.out
                  rw [HLv.out] at hd
                  have HV := Has_any w.heap.size D A9 c9 s z wr (RD.out.on Hb4.out) (by omega)
                  rw [hd] at HV
                  have HV' := Lib.hid HV
                  have hltq : decide (K.length < qs.length) = false := by have := HqK.out; simp; omega
                  have hq9 : (qs.length : Nat) = K.length := HqK.out
                  clear HV hd
                  cases lv with
                  | true =>
                    rw [← hq9]
                    clear hq9 hltq
                    go_wp2_with fail
                    refine HV'.out.mono ?_
                    rintro e w6 ⟨rfl, hb6⟩
                    have B6 : Hid (Below wb.heap.size wb w6) := Hb4.out.trans (hb6.mono hsz4)
                    clear hb6
                    go_wp2_with fail
                    go_roundw
                    case rel => exact ⟨k + 1, by omega, by go_num, B6.out⟩
                    case measure => simp [intOf]; omega
                  | false =>
                    rw [← hq9]
                    clear hq9 hltq
                    go_wp2_with fail
                    refine HV'.out.mono ?_
                    rintro e w6 ⟨rfl, hb6⟩
                    have B6 : Hid (Below wb.heap.size wb w6) := Hb4.out.trans (hb6.mono hsz4)
                    clear hb6
                    go_wp2_with fail
                    go_roundw
                    case rel => exact ⟨k + 1, by omega, by go_num, B6.out⟩
                    case measure => simp [intOf]; omega
            · obtain rfl : k = mi.ids.length := by omega
              go_wp2_with fail
              go_roundw
              case rel => exact ⟨i + 1, by omega, by go_num, Hb2.out⟩
              case measure => simp [intOf]; omega
        · obtain rfl : i = all.length := by omega
          go_wp2_with fail
          go_ret
          exact ⟨rfl, law_end (g_below Gb.out Hb.out)⟩
end Go.Proofs.Ytjglpmcekbjoaaa
