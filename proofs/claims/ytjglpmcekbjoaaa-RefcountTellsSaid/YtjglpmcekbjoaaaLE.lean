/- Walks of laws: RefcountTells. -/
import Derived.Test.YtjglpmcekbjoaaaLH
namespace Go.Proofs.Ytjglpmcekbjoaaa
open Go.RowKit Go.MapKept Go.ChangeMaps
attribute [local go_sem] wext_cell

def TellR (B x : Nat) (w1 : World) (r : Int) (X : List CT) (ms : List Man) (qs : List MR) (A4 A5 : Option Addr) (c5 : Nat) (wr : World) : Prop :=
  TellsN X ms ∧ (∀ m ∈ ms, FewM false m) ∧ (X.length : Int) ≤ 5 * (11 - r) ∧ (ms.length : Int) ≤ 11 - r ∧ LiveR B x ms qs A5 c5 wr ∧ RdC wr x A4 X ∧ SepX X A4 (.slice A5 qs.length c5) ∧ (∃ N : Nat, (N : Int) ≤ 1 + 16 * (11 - r) ∧ Tp wr x N) ∧ w1.grownBy wr (some x)
theorem few_len11 {ms : List Man} (h : ∀ m ∈ ms, FewM false m) : (idsOf ms).length ≤ 5 * ms.length := idsOf_few (fun m hm => fewM_len (h m hm))

set_option maxRecDepth 100000 in
set_option maxHeartbeats 8000000 in
theorem law11 (A : Option Addr) (l : List Int) (c : Nat) (w : World) (hr : RdT w w.heap.size A l) (hn : l.length ≤ 9223372036854775807) :
    Calls Try.prog 11 #[.slice A l.length c] w (Gives (.bool true) w) := by
  have T_w : Hid (Tp (w.alloc (.cells #[.slice A l.length c, .int .i64 0] 26)) w.heap.size 0) := tape0 hr hn
  have G_w : Hid (w.grownBy (w.alloc (.cells #[.slice A l.length c, .int .i64 0] 26)) (some w.heap.size)) := World.grownBy_alloc _ _ _
  clear hr hn
  go_enter Try.func11, Try.ntmps11
  obtain ⟨i0, hi, hz0, hz1, hz2⟩ := info_parts info38
  go_wp2_with fail
  refine (Next_any 12 w.heap.size 0 _ (by omega) (by omega) T_w.out).mono ?_
  rintro e w1 ⟨r0, hr0, rfl, ht, hg⟩
  have T_w1 := Lib.hid ht
  have G_w1 : Hid (w.grownBy w1 (some w.heap.size)) := g_trans G_w.out hg
  have X_w1 := ht.lt
  obtain ⟨q1, q2, _⟩ := hr0
  have q3 := q2 (by omega)
  clear ht hg q2
  go_wp2_with fail
  go_loopw [4, 5, 6] (fun v4 v5 v6 wr => ∃ (r : Int) (X : List CT) (ms : List Man) (qs : List MR) (A4 A5 : Option Addr) (c4 c5 : Nat), v6 = .int .i64 r ∧ 0 ≤ r ∧ r ≤ 11 ∧ v4 = .slice A4 X.length c4 ∧ v5 = .slice A5 qs.length c5 ∧ TellR w1.heap.size w.heap.size w1 r X ms qs A4 A5 c5 wr) (fun _ _ v6 _ => (intOf v6).toNat)
  case atStart => exact ⟨r0, [], [], [], none, none, 0, 0, rfl, q1, by omega, rfl, rfl, TellsN.nil, by simp, by simp; omega, by simp; omega, ⟨rfl, World.ownsRow_nil _ _ _ _, fun j hj => absurd hj (by simp)⟩, Rd.nil, fun hp => absurd hp (by simp), ⟨1, by omega, T_w1.out⟩, g_refl _ _⟩
  case round =>
    obtain ⟨r, X, ms, qs, A4, A5, c4, c5, rfl, hr0, hr11, rfl, rfl, hTn, hF, hlX, hlm, hL, hrX, hsep, ⟨N, hN, htp⟩, hg⟩ := hrel
    have HTn := Lib.hid hTn
    have HF := Lib.hid hF
    have LR := Lib.hid hL
    have RX := Lib.hid hrX
    have HS := Lib.hid hsep
    have TP := Lib.hid htp
    have GG := Lib.hid hg
    have hsz := hg.size
    have hqm : qs.length ≤ 11 := by have := hL.1; omega
    have xlr := htp.lt
    clear hTn hF hL hrX hsep htp hg
    by_cases hlt : 0 < r
    · by_cases hq : 0 < qs.length
      · have hdq : decide (0 < qs.length) = true := by simp; omega
        go_wp2_with fail
        refine (Next_any 3 w.heap.size N _ (by omega) (by omega) TP.out).mono ?_
        rintro e w2 ⟨r3, hr3, rfl, ht, hg⟩
        have TP2 := Lib.hid ht
        have LR2 := Lib.hid (LR.out.gr hg (by omega))
        have RX2 := Lib.hid (RX.out.gr hg)
        have GG2 : Hid (w1.grownBy w2 (some w.heap.size)) := g_trans GG.out hg
        have s2 := hg.size
        clear ht hg
        by_cases hr30 : r3 = 0
        · have hb0 : (r3 == 0) = true := by rw [beq_iff_eq]; exact hr30
          clear hr3 hr30
          obtain ⟨g, cap, hv, hgb, hgl⟩ := LR2.out.2.1.form (by omega)
          injection hv with hv1 hv2 hv3
          subst hv1 hv3
          go_wp2_with fail
          refine (Next_any qs.length w.heap.size (N + 1) _ (by omega) (by omega) TP2.out).mono ?_
          rintro e w3 ⟨rk, hrk, rfl, ht, hg⟩
          have hrk' : 0 ≤ rk ∧ rk < qs.length := by
            obtain ⟨a, b, d⟩ := hrk
            by_cases h1 : 1 < (qs.length : Int)
            · exact ⟨a, b h1⟩
            · rw [d (by omega)]; omega
          obtain ⟨k, rfl⟩ : ∃ k : Nat, rk = k := ⟨rk.toNat, by omega⟩
          have hk : k < qs.length := by omega
          have TP3 := Lib.hid ht
          have LR3 := Lib.hid (LR2.out.gr hg (by omega))
          have RX3 := Lib.hid (RX2.out.gr hg)
          have GG3 : Hid (w1.grownBy w3 (some w.heap.size)) := g_trans GG2.out hg
          have s3 := hg.size
          have xl3 := TP3.out.lt
          have sw3 := GG3.out.size
          have hkm : k < ms.length := by have := LR3.out.1; omega
          obtain ⟨b, o, rA, rc, eA, hbl, _, d0, d1, r1, q1⟩ := RdM.atx (LR3.out.rdm (by omega)) hkm
          injection eA with eA
          injection eA with e1 e2
          subst e1 e2
          have fk := HF.out _ (getD_mem ms man0 k hkm)
          have hcut := cut_eq ms man0 hkm
          have hTn := HTn.out
          rw [hcut] at hTn
          obtain ⟨T, hT, tT, lT⟩ := hTn.rel (few_man fk)
          obtain ⟨mk, Hmk⟩ : ∃ mk, Hid (ms.getD k man0 = mk) := ⟨_, rfl⟩
          rw [Hmk.out] at d0 d1 r1 q1 fk hT
          rw [Nat.zero_add] at d0 d1
          have HT := Lib.hid hT
          have TT := Lib.hid tT
          have R1 := Lib.hid r1
          have Fk := Lib.hid fk
          have lk := fewM_len fk
          have LT := Lib.hid lT
          clear ht hg hrk hrk' hv2 hcut hTn hT tT r1 fk lT
          go_wp2_with fail
          refine (Release_fr w.heap.size X A4 c4 mk rA rc _ RX3.out R1.out q1 (by omega) (by omega) (by omega) (fewM_ok Fk.out) HTn.out.2.2).mono ?_
          intro e w4 h
          rw [HT.out] at h
          obtain ⟨A8, c8, he, hr8, hc8, hf8, hb⟩ := h
          have he' : e = .returned (.tuple #[.slice A8 T.length c8, .int .i64 0]) := he
          subst he'
          have RT : Hid (RdC w4 w.heap.size A8 T) := hr8
          have LR4 := Lib.hid (LR3.out.on hb)
          have GG4 : Hid (w1.grownBy w4 (some w.heap.size)) := g_below GG3.out hb
          have TP4 := Lib.hid (TP3.out.on hb)
          have s4 := hb.size
          have hcap5 := own_cap LR4.out.2.1
          have O4 := Lib.hid LR4.out.2.1
          clear he hr8 hf8 hb d0 d1
          have hlq : qs.length ≤ 11 := by have := LR4.out.1; omega
          have c00 : ∃ v0, w4.cell? ⟨g, 0, none⟩ = some v0 := by
            have := O4.out.cellAt 0 (by omega)
            have hl : 0 < (qs.flatMap encMR).length := by rw [flat_len encMR_len]; omega
            rw [List.getElem?_eq_getElem hl] at this
            exact ⟨_, this⟩
          obtain ⟨v0, c0⟩ := c00
          have hl1 : ((qs.take k).flatMap encMR).length = k * 2 := by rw [flat_len encMR_len, List.length_take]; omega
          have hl2 : ((qs.drop (k + 1)).flatMap encMR).length = (qs.length - (k + 1)) * 2 := by rw [flat_len encMR_len, List.length_drop]
          have n1 : ∀ (W : World), W.ownsRow w1.heap.size 38 2 (.slice (some ⟨g, 0, none⟩) qs.length c5) qs.length (qs.flatMap encMR) → ∀ j u, ((qs.take k).flatMap encMR)[j]? = some u → W.cell? ((⟨g, 0, none⟩ : Addr).add j) = some u := by
            intro W hW j u hu
            have hj := (List.getElem?_eq_some_iff.1 hu).1
            rw [hl1] at hj
            rw [flat_take encMR_len, List.getElem?_take_of_lt hj] at hu
            exact hW.cells rfl j u hu
          have n2 : ∀ (W : World), W.ownsRow w1.heap.size 38 2 (.slice (some ⟨g, 0, none⟩) qs.length c5) qs.length (qs.flatMap encMR) → ∀ j u, ((qs.drop (k + 1)).flatMap encMR)[j]? = some u → W.cell? ((⟨g, (k + 1) * 2, none⟩ : Addr).add j) = some u := by
            intro W hW j u hu
            rw [flat_drop encMR_len, List.getElem?_drop] at hu
            have := hW.cells rfl _ u hu
            have ha : ∀ (p q : Nat), (⟨g, p, none⟩ : Addr).add q = ⟨g, p + q, none⟩ := fun p q => by unfold Addr.add; split <;> simp_all
            rw [ha] at this ⊢
            rw [Nat.zero_add] at this
            exact this
          have N1 := Lib.hid n1
          have N2 := Lib.hid n2
          have L1 := Lib.hid hl1
          have L2 := Lib.hid hl2
          clear n1 n2 hl1 hl2
          have fin : ∀ (w7 : World) (v7 : Value), w7.ownsRow w4.heap.size 38 2 v7 (0 + k + (qs.length - (k + 1))) ([] ++ (qs.take k).flatMap encMR ++ (qs.drop (k + 1)).flatMap encMR) → Below w4.heap.size w4 w7 →
              ∃ A c, v7 = .slice A (qs.take k ++ qs.drop (k + 1)).length c ∧ TellR w1.heap.size w.heap.size w1 (r - 1) T (ms.take k ++ ms.drop (k + 1)) (qs.take k ++ qs.drop (k + 1)) A8 A c w7 := by
            intro w7 v7 ho hb7
            have hlen : (qs.take k ++ qs.drop (k + 1)).length = qs.length - 1 := by rw [List.length_append, List.length_take, List.length_drop]; omega
            have hlm : (ms.take k ++ ms.drop (k + 1)).length = ms.length - 1 := by rw [List.length_append, List.length_take, List.length_drop]; omega
            have e9 : 0 + k + (qs.length - (k + 1)) = (qs.take k ++ qs.drop (k + 1)).length := by rw [hlen]; omega
            rw [e9, List.nil_append, ← List.flatMap_append] at ho
            have hq := LR4.out.1
            obtain ⟨A, c, rfl, hL⟩ := LR4.out.anew (ms' := ms.take k ++ ms.drop (k + 1)) (qs' := qs.take k ++ qs.drop (k + 1)) (by rw [hlen, hlm, hq]) (fun j hj => by
              rw [hlm] at hj
              refine ⟨if j < k then j else j + 1, by split <;> omega, cut_get qs mr0 hk (by omega), cut_get ms man0 hkm hj⟩) ho hb7 (by omega)
            refine ⟨A, c, rfl, TT.out, fun y hy => ?_, by have := LT.out; omega, by rw [hlm]; omega, hL, RT.out.on hb7, ?_, ⟨N + 2, by omega, TP4.out.on hb7⟩, g_below GG4.out hb7⟩
            · rcases List.mem_append.1 hy with h | h
              · exact HF.out y (List.mem_of_mem_take h)
              · exact HF.out y (List.mem_of_mem_drop h)
            · intro hp b o e hh
              have h1 := (ho.lt b hh.symm).1
              obtain ⟨b9, o9, e9', h8, _⟩ := RT.out hp
              rw [e] at e9'
              injection e9' with e9'
              injection e9' with e9'
              omega
          have Fin := Lib.hid fin
          clear fin
          have hsum : IntKind.i64.wrap ((k : Int) + 1) = (k : Int) + 1 := IntWalk.i64_in _ (by omega)
          have hk0 : 0 ≤ (k : Int) + 1 := by omega
          have hkt : ((k : Int) + 1).toNat = k + 1 := by omega
          have hk1 : (k : Int) + 1 ≤ c5 := by omega
          have hk2 : (k : Int) + 1 ≤ qs.length := by omega
          have hk3 : (k : Int) ≤ c5 := by omega
          have HB0 : Hid (Below w4.heap.size w4 w4.drew) := (Below.refl _ w4).drew
          go_wp2_with fail
          rcases Nat.lt_or_ge (k + 1) c5 with hcl | hcg
          rotate_left
          · have hdz : qs.length - (k + 1) = 0 := by omega
            have Hcp : Hid (c5 = k + 1) := by unfold Hid; omega
            have Hdz := Lib.hid hdz
            clear hdz
            go_region_held3 (fun w' => w'.cell? ⟨g, 0, none⟩ = some v0)
              (first | go_keep | (exact HK.out))
              (first
                | (refine step_append_own_ (by rfl) (.const (.slice none 0 0)) (.tmp 46) 22 (by rfl) w4.heap.size 38 i0 _ 2 32 Try.underlying22 hi hz0 hz1 hz2 rfl (by omega) (.slice none 0 0) 0 [] (by rfl) (World.ownsRow_nil _ _ _ _) ⟨g, 0, none⟩ k c5 ((qs.take k).flatMap encMR) (by rfl) L1.out (N1.out w4 O4.out) (flatM_one' _) (by unfold maxLen; omega) (by omega) (by first | exact Nat.le_refl _ | simp) ?_; intro v6 w6 ho6 hg6; have hg6' : w4.grownBy w6 (Value.slice none 0 0).ownBlock := ⟨hg6.os, hg6.tape, hg6.output, hg6.size, hg6.block⟩; have Hb6 : Hid (Below w4.heap.size w4 w6) := (Below.refl _ w4).grown hg6' (Nat.le_refl _) (fun q hq => by simp [Value.ownBlock] at hq); have HO6 := Lib.hid ho6; have HK : Hid (w6.cell? ⟨g, 0, none⟩ = some v0) := (Hb6.out.cell (p := ⟨g, 0, none⟩) (show g < w4.heap.size by omega)).trans c0; have s6 := Hb6.out.size; clear ho6 hg6 hg6')
                | (refine step_append_own_ (by rfl) (.tmp 47) (.tmp 51) 22 (by rfl) w4.heap.size 38 i0 _ 2 32 Try.underlying22 hi hz0 hz1 hz2 rfl (by omega) v6 (0 + k) _ (by rfl) HO6.out ⟨g, 0, none⟩ (qs.length - (k + 1)) 0 ((qs.drop (k + 1)).flatMap encMR) (by first | rfl | (show Value.slice (if c5 = k + 1 then some ⟨g, 0, none⟩ else some ⟨g, (k + 1) * 2, none⟩) (qs.length - (k + 1)) 0 = _; rw [if_pos Hcp.out])) L2.out (by intro j u hu; have hj := (List.getElem?_eq_some_iff.1 hu).1; rw [L2.out] at hj; omega) (flatM_one' _) (by unfold maxLen; omega) (by omega) s6 ?_; intro v7 w7 ho7 hg7; have Hb7 : Hid (Below w4.heap.size w4 w7) := Hb6.out.grown hg7 s6 (fun q hq => (HO6.out.lt q hq).1); have HK7 := HK; have HK : Hid (w7.cell? ⟨g, 0, none⟩ = some v0) := (Hb7.out.cell (p := ⟨g, 0, none⟩) (show g < w4.heap.size by omega)).trans c0; have HO7 := Lib.hid ho7; clear ho7 hg7))
            all_goals (
              obtain ⟨A9, c9, hv7, hR⟩ := Fin.out _ _ HO7.out Hb7.out
              subst hv7
              have HRR := Lib.hid hR
              clear hR hsum
              go_wp2_with fail
              go_roundw
              case rel => exact ⟨r - 1, T, _, _, A8, A9, c8, c9, rfl, by omega, by omega, rfl, rfl, HRR.out⟩
              case measure => simp [intOf]; omega)
          · have hcl' : (k : Int) + 1 < c5 := by omega
            have hcq : (qs.length : Int) ≤ c5 := by omega
            go_region_held3 (fun w' => w'.cell? ⟨g, 0, none⟩ = some v0)
              (first | go_keep | (exact HK.out))
              (first
                | (refine step_append_own_ (by rfl) (.const (.slice none 0 0)) (.tmp 46) 22 (by rfl) w4.heap.size 38 i0 _ 2 32 Try.underlying22 hi hz0 hz1 hz2 rfl (by omega) (.slice none 0 0) 0 [] (by rfl) (World.ownsRow_nil _ _ _ _) ⟨g, 0, none⟩ k c5 ((qs.take k).flatMap encMR) (by rfl) L1.out (N1.out w4 O4.out) (flatM_one' _) (by unfold maxLen; omega) (by omega) (by first | exact Nat.le_refl _ | simp) ?_; intro v6 w6 ho6 hg6; have hg6' : w4.grownBy w6 (Value.slice none 0 0).ownBlock := ⟨hg6.os, hg6.tape, hg6.output, hg6.size, hg6.block⟩; have Hb6 : Hid (Below w4.heap.size w4 w6) := (Below.refl _ w4).grown hg6' (Nat.le_refl _) (fun q hq => by simp [Value.ownBlock] at hq); have HO6 := Lib.hid ho6; have HK : Hid (w6.cell? ⟨g, 0, none⟩ = some v0) := (Hb6.out.cell (p := ⟨g, 0, none⟩) (show g < w4.heap.size by omega)).trans c0; have s6 := Hb6.out.size; clear ho6 hg6 hg6')
                | (refine step_append_own_ (by rfl) (.tmp 47) (.tmp 51) 22 (by rfl) w4.heap.size 38 i0 _ 2 32 Try.underlying22 hi hz0 hz1 hz2 rfl (by omega) v6 (0 + k) _ (by rfl) HO6.out ⟨g, (k + 1) * 2, none⟩ (qs.length - (k + 1)) (c5 - (k + 1)) ((qs.drop (k + 1)).flatMap encMR) (by show Value.slice (if c5 = k + 1 then some ⟨g, 0, none⟩ else some ⟨g, (k + 1) * 2, none⟩) (qs.length - (k + 1)) (c5 - (k + 1)) = _; rw [if_neg (by omega)]) L2.out (N2.out _ (own_on (w := w4) O4.out Hb6.out)) (flatM_one' _) (by unfold maxLen; omega) (by omega) s6 ?_; intro v7 w7 ho7 hg7; have Hb7 : Hid (Below w4.heap.size w4 w7) := Hb6.out.grown hg7 s6 (fun q hq => (HO6.out.lt q hq).1); have HK7 := HK; have HK : Hid (w7.cell? ⟨g, 0, none⟩ = some v0) := (Hb7.out.cell (p := ⟨g, 0, none⟩) (show g < w4.heap.size by omega)).trans c0; have HO7 := Lib.hid ho7; clear ho7 hg7))
            all_goals (
              obtain ⟨A9, c9, hv7, hR⟩ := Fin.out _ _ HO7.out Hb7.out
              subst hv7
              have HRR := Lib.hid hR
              clear hR hsum
              go_wp2_with fail
              go_roundw
              case rel => exact ⟨r - 1, T, _, _, A8, A9, c8, c9, rfl, by omega, by omega, rfl, rfl, HRR.out⟩
              case measure => simp [intOf]; omega)
        · have hb0 : (r3 == 0) = false := by rw [beq_eq_false_iff_ne]; exact hr30
          clear hr3 hr30
          go_wp2_with fail
          refine (list_any false w.heap.size (N + 1) _ (by omega) TP2.out).mono ?_
          rintro e wl ⟨m, Am, cm, hm, rfl, hrm, hcm, hfr, ht, hg⟩
          have Tl := Lib.hid ht
          have Ll := Lib.hid (LR2.out.gr hg (by omega))
          have RXl := Lib.hid (RX2.out.gr hg)
          have Gl : Hid (w1.grownBy wl (some w.heap.size)) := g_trans GG2.out hg
          have Rm := Lib.hid hrm
          have Hfr := Lib.hid hfr
          have Hm := Lib.hid hm
          have hml := fewM_len hm
          have sl := hg.size
          have sw := GG2.out.size
          have xl := Tl.out.lt
          have fl := few_len11 HF.out
          obtain ⟨T, hT, tT, lT⟩ := HTn.out.add (few_man hm) (fewM_ok hm) (by omega) (by omega)
          have HT := Lib.hid hT
          have TT := Lib.hid tT
          clear ht hg hrm hfr hm hT tT
          go_wp2_with fail
          refine (Add_fr w.heap.size X A4 c4 m Am cm _ (RXl.out.alloc _) (Rm.out.alloc _) hcm (by simp; omega) (by omega) (by omega) (fewM_ok Hm.out) HTn.out.2.2).mono ?_
          intro e wa h
          rw [HT.out] at h
          obtain ⟨A8, c8, he, hr8, hc8, hf8, hb⟩ := h
          have he' : e = .returned (.tuple #[.slice A8 T.length c8, .int .i64 0]) := he
          subst he'
          have RT : Hid (RdC wa w.heap.size A8 T) := hr8
          have F8 : Hid (∀ ad, A8 = some ad → wl.heap.size + 1 ≤ ad.block) := fun ad had => by have := hf8 ad had; simpa using this
          have La := Lib.hid ((Ll.out.on (bel1 _ _)).on hb)
          have Ga : Hid (w1.grownBy wa (some w.heap.size)) := g_below (g_alloc Gl.out _) hb
          have Ta := Lib.hid ((Tl.out.alloc _).on hb)
          have Ra := Lib.hid ((Rm.out.alloc _).on hb)
          have Ba : Hid (IsB wa wl.heap.size 38 #[.int .i64 m.size, .slice Am m.ids.length cm]) := (IsB.new wl _ _).on hb
          have sa : wl.heap.size + 1 ≤ wa.heap.size := by simpa using hb.size
          clear he hr8 hf8 hb
          have b0 : wa.cell? ⟨wl.heap.size, 0, none⟩ = some (.int .i64 m.size) := by rw [Ba.out.cell]; rfl
          have b1 : wa.cell? ⟨wl.heap.size, 1, none⟩ = some (.slice Am m.ids.length cm) := by rw [Ba.out.cell]; rfl
          go_wp2_with (at_builtin; refine halt_ ?_)
          unfold Hid
          refine wpList_append_lies _ rfl _ _ _ rfl w1.heap.size 38 i0 _ 2 32 Try.underlying22 hi hz0 hz1 hz2 rfl (by decide) (.slice A5 qs.length c5) qs.length _ rfl (La.out.2.1.alloc _) ⟨wa.heap.size, 0, none⟩ 1 1 [.int .i64 m.size, .slice Am m.ids.length cm] rfl rfl (two_new _ _ _ _ _ rfl) (encMR_one ⟨m.size, Am, m.ids.length, cm⟩) (by omega) (by unfold maxLen; omega) (by omega) (by simp; omega) (wa.heap.size + 1) (by simp) ?_
          intro g5 c9 w5 hown5 hgrow5 hat5 hlt5
          have hol : ∀ q, (Value.slice A5 qs.length c5).ownBlock = some q → q < w2.heap.size := fun q hq => (LR2.out.2.1.lt q hq).2
          have L5 : Hid (LiveR w1.heap.size w.heap.size (ms ++ [m]) (qs ++ [⟨m.size, Am, m.ids.length, cm⟩]) (some ⟨g5, 0, none⟩) c9 w5) :=
            (La.out.on (bel1 _ _)).push (r := ⟨m.size, Am, m.ids.length, cm⟩) (m := m) ⟨rfl, rfl, hcm, Ra.out.alloc _⟩ (fun b o e => ⟨by have h9 : b < wl.heap.size := (Hfr.out _ e).2; simp; omega, fun e' => by have h9 : w2.heap.size ≤ b := (Hfr.out _ e).1; have := hol b e'.symm; omega⟩) (H := wa.heap.size + 1) hown5 hgrow5 hat5 (by simp)
          have RT5 : Hid (RdC w5 w.heap.size A8 T) := (RT.out.alloc _).own hgrow5 (fun b o e e' => by have h9 := F8.out _ e; have := hol b e'.symm; simp only at h9; omega)
          have S5 : Hid (SepX T A8 (.slice (some ⟨g5, 0, none⟩) (qs ++ [MR.mk m.size Am m.ids.length cm]).length c9)) := by
            intro hp b o e hh
            have hbg : b = g5 := by simpa [Value.ownBlock] using hh
            subst hbg
            have h9 := F8.out _ e
            simp only at h9
            rcases hat5 with h | h
            · have := hol b h; omega
            · obtain ⟨b9, o9, e9, h8, _⟩ := RT.out hp
              rw [e] at e9
              injection e9 with e9
              injection e9 with e9
              omega
          have T5 : Hid (Tp w5 w.heap.size ((N + 1) + 12)) := (Ta.out.alloc _).kept hgrow5 (fun q hq => by have := (La.out.2.1.lt q hq).1; omega)
          have G5 : Hid (w1.grownBy w5 (some w.heap.size)) := g_own (g_alloc Ga.out _) hgrow5 (La.out.2.1.alloc _) (Nat.le_refl _)
          have F5 : Hid (∀ y ∈ ms ++ [m], FewM false y) := fun y hy => (List.mem_append.1 hy).elim (HF.out y) (fun h => by rw [List.mem_singleton] at h; subst h; exact Hm.out)
          clear hown5 hgrow5 hat5 hol
          go_wp2_with fail
          go_roundw
          case rel => exact ⟨r - 1, T, ms ++ [m], qs ++ [⟨m.size, Am, m.ids.length, cm⟩], A8, some ⟨g5, 0, none⟩, c8, c9, rfl, by omega, by omega, rfl, by simp, TT.out, F5.out, by omega, by simp; omega, L5.out, RT5.out, S5.out, ⟨_, by omega, T5.out⟩, G5.out⟩
          case measure => simp [intOf]; omega
      · have hdq : decide (0 < qs.length) = false := decide_eq_false hq
        go_wp2_with fail
        refine (list_any false w.heap.size N _ (by omega) TP.out).mono ?_
        rintro e wl ⟨m, Am, cm, hm, rfl, hrm, hcm, hfr, ht, hg⟩
        have Tl := Lib.hid ht
        have Ll := Lib.hid (LR.out.gr hg (by omega))
        have RXl := Lib.hid (RX.out.gr hg)
        have Gl : Hid (w1.grownBy wl (some w.heap.size)) := g_trans GG.out hg
        have Rm := Lib.hid hrm
        have Hfr := Lib.hid hfr
        have Hm := Lib.hid hm
        have hml := fewM_len hm
        have sl := hg.size
        have sw := GG.out.size
        have xl := Tl.out.lt
        have fl := few_len11 HF.out
        obtain ⟨T, hT, tT, lT⟩ := HTn.out.add (few_man hm) (fewM_ok hm) (by omega) (by omega)
        have HT := Lib.hid hT
        have TT := Lib.hid tT
        clear ht hg hrm hfr hm hT tT
        go_wp2_with fail
        refine (Add_fr w.heap.size X A4 c4 m Am cm _ (RXl.out.alloc _) (Rm.out.alloc _) hcm (by simp; omega) (by omega) (by omega) (fewM_ok Hm.out) HTn.out.2.2).mono ?_
        intro e wa h
        rw [HT.out] at h
        obtain ⟨A8, c8, he, hr8, hc8, hf8, hb⟩ := h
        have he' : e = .returned (.tuple #[.slice A8 T.length c8, .int .i64 0]) := he
        subst he'
        have RT : Hid (RdC wa w.heap.size A8 T) := hr8
        have F8 : Hid (∀ ad, A8 = some ad → wl.heap.size + 1 ≤ ad.block) := fun ad had => by have := hf8 ad had; simpa using this
        have La := Lib.hid ((Ll.out.on (bel1 _ _)).on hb)
        have Ga : Hid (w1.grownBy wa (some w.heap.size)) := g_below (g_alloc Gl.out _) hb
        have Ta := Lib.hid ((Tl.out.alloc _).on hb)
        have Ra := Lib.hid ((Rm.out.alloc _).on hb)
        have Ba : Hid (IsB wa wl.heap.size 38 #[.int .i64 m.size, .slice Am m.ids.length cm]) := (IsB.new wl _ _).on hb
        have sa : wl.heap.size + 1 ≤ wa.heap.size := by simpa using hb.size
        clear he hr8 hf8 hb
        have b0 : wa.cell? ⟨wl.heap.size, 0, none⟩ = some (.int .i64 m.size) := by rw [Ba.out.cell]; rfl
        have b1 : wa.cell? ⟨wl.heap.size, 1, none⟩ = some (.slice Am m.ids.length cm) := by rw [Ba.out.cell]; rfl
        go_wp2_with (at_builtin; refine halt_ ?_)
        unfold Hid
        refine wpList_append_lies _ rfl _ _ _ rfl w1.heap.size 38 i0 _ 2 32 Try.underlying22 hi hz0 hz1 hz2 rfl (by decide) (.slice A5 qs.length c5) qs.length _ rfl (La.out.2.1.alloc _) ⟨wa.heap.size, 0, none⟩ 1 1 [.int .i64 m.size, .slice Am m.ids.length cm] rfl rfl (two_new _ _ _ _ _ rfl) (encMR_one ⟨m.size, Am, m.ids.length, cm⟩) (by omega) (by unfold maxLen; omega) (by omega) (by simp; omega) (wa.heap.size + 1) (by simp) ?_
        intro g5 c9 w5 hown5 hgrow5 hat5 hlt5
        have hol : ∀ q, (Value.slice A5 qs.length c5).ownBlock = some q → q < wr.heap.size := fun q hq => (LR.out.2.1.lt q hq).2
        have L5 : Hid (LiveR w1.heap.size w.heap.size (ms ++ [m]) (qs ++ [⟨m.size, Am, m.ids.length, cm⟩]) (some ⟨g5, 0, none⟩) c9 w5) :=
          (La.out.on (bel1 _ _)).push (r := ⟨m.size, Am, m.ids.length, cm⟩) (m := m) ⟨rfl, rfl, hcm, Ra.out.alloc _⟩ (fun b o e => ⟨by have h9 : b < wl.heap.size := (Hfr.out _ e).2; simp; omega, fun e' => by have h9 : wr.heap.size ≤ b := (Hfr.out _ e).1; have := hol b e'.symm; omega⟩) (H := wa.heap.size + 1) hown5 hgrow5 hat5 (by simp)
        have RT5 : Hid (RdC w5 w.heap.size A8 T) := (RT.out.alloc _).own hgrow5 (fun b o e e' => by have h9 := F8.out _ e; have := hol b e'.symm; simp only at h9; omega)
        have S5 : Hid (SepX T A8 (.slice (some ⟨g5, 0, none⟩) (qs ++ [MR.mk m.size Am m.ids.length cm]).length c9)) := by
          intro hp b o e hh
          have hbg : b = g5 := by simpa [Value.ownBlock] using hh
          subst hbg
          have h9 := F8.out _ e
          simp only at h9
          rcases hat5 with h | h
          · have := hol b h; omega
          · obtain ⟨b9, o9, e9, h8, _⟩ := RT.out hp
            rw [e] at e9
            injection e9 with e9
            injection e9 with e9
            omega
        have T5 : Hid (Tp w5 w.heap.size (N + 12)) := (Ta.out.alloc _).kept hgrow5 (fun q hq => by have := (La.out.2.1.lt q hq).1; omega)
        have G5 : Hid (w1.grownBy w5 (some w.heap.size)) := g_own (g_alloc Ga.out _) hgrow5 (La.out.2.1.alloc _) (Nat.le_refl _)
        have F5 : Hid (∀ y ∈ ms ++ [m], FewM false y) := fun y hy => (List.mem_append.1 hy).elim (HF.out y) (fun h => by rw [List.mem_singleton] at h; subst h; exact Hm.out)
        clear hown5 hgrow5 hat5 hol
        go_wp2_with fail
        go_roundw
        case rel => exact ⟨r - 1, T, ms ++ [m], qs ++ [⟨m.size, Am, m.ids.length, cm⟩], A8, some ⟨g5, 0, none⟩, c8, c9, rfl, by omega, by omega, rfl, by simp, TT.out, F5.out, by omega, by simp; omega, L5.out, RT5.out, S5.out, ⟨_, by omega, T5.out⟩, G5.out⟩
        case measure => simp [intOf]; omega
    · obtain rfl : r = 0 := by omega
      have fl := few_len11 HF.out
      obtain ⟨Y, hY, tY⟩ := TellsX.of (few_err HF.out) (by omega)
      have hV := ver_ok HTn.out.1 (few_err HF.out) HTn.out.2.1
      have hS : sweepP X = Y := sweep_ok HTn.out.1 (tbl_asc tY.1) tY.2.2 HTn.out.2.1
      have lY := ((tblE_iff Y).1 tY.1).1
      have HY := Lib.hid hY
      have HV := Lib.hid hV
      have HSw := Lib.hid hS
      have RL : Hid (RdM wr w.heap.size A5 ms) := LR.out.rdm (by omega)
      have hq : qs.length = ms.length := LR.out.1
      have Hq := Lib.hid hq
      have G0 : Hid (w.grownBy wr (some w.heap.size)) := g_trans G_w1.out GG.out
      have Hok : Hid (∀ m ∈ ms, ∀ i ∈ m.ids, okID i) := fun m hm => fewM_ok (HF.out m hm)
      have Hln : Hid (∀ m ∈ ms, m.ids.length ≤ 9223372036854775807) := fun m hm => by have := fewM_len (HF.out m hm); omega
      rw [hq]
      clear hY tY hV hS hq
      go_wp2_with fail
      refine (Of_any w.heap.size ms A5 c5 _ RL.out (by omega) (by omega) Hln.out Hok.out).mono ?_
      intro e w2 h
      rw [HY.out] at h
      obtain ⟨A7, c7, he, hr, hc, hb⟩ := h
      have he' : e = .returned (.tuple #[.slice A7 Y.length c7, .int .i64 0]) := he
      subst he'
      have RY : Hid (RdC w2 w.heap.size A7 Y) := hr
      have RX2 := Lib.hid (RX.out.on hb)
      have RL2 := Lib.hid (RL.out.on hb)
      have G2 : Hid (w.grownBy w2 (some w.heap.size)) := g_below G0.out hb
      have s2 := hb.size
      clear he hr hb
      go_wp2_with fail
      refine (Verify_any w.heap.size X A4 c4 ms A5 c5 _ RX2.out RL2.out (by omega) (by omega) (by omega) Hln.out Hok.out HTn.out.2.2).mono ?_
      intro e w3 h
      rw [HV.out] at h
      obtain ⟨A8, c8, he, hr, hb⟩ := h
      have he' : e = .returned (.tuple #[.slice A8 0 c8, .int .i64 0]) := he
      subst he'
      have RY3 := Lib.hid (RY.out.on hb)
      have RX3 := Lib.hid (RX2.out.on hb)
      have G3 : Hid (w.grownBy w3 (some w.heap.size)) := g_below G2.out hb
      have s3 := hb.size
      clear he hr hb
      go_wp2_with fail
      refine (known_any w.heap.size _ (by omega)).mono ?_
      rintro e w4 ⟨rfl, hb⟩
      have RY4 := Lib.hid (RY3.out.on hb)
      have RX4 := Lib.hid (RX3.out.on hb)
      have G4 : Hid (w.grownBy w4 (some w.heap.size)) := g_below G3.out hb
      have s4 := hb.size
      clear hb
      go_wp2_with fail
      refine (Sweep_any w.heap.size X A4 c4 _ RX4.out (by omega) (by omega)).mono ?_
      intro e w5 h
      rw [HSw.out] at h
      obtain ⟨A9, c9, rfl, hr, hc, hb⟩ := h
      have RS := Lib.hid hr
      have RY5 := Lib.hid (RY4.out.on hb)
      have G5 : Hid (w.grownBy w5 (some w.heap.size)) := g_below G4.out hb
      clear hr hb
      go_wp2_with fail
      refine (same_true w.heap.size w.heap.size Y A9 A7 c9 c7 _ RS.out RY5.out (by omega)).mono ?_
      rintro e w6 ⟨rfl, hb⟩
      have G6 : Hid (w.grownBy w6 (some w.heap.size)) := g_below G5.out hb
      clear hb
      go_wp2_with fail
      go_ret
      exact ⟨rfl, law_end G6.out⟩
end Go.Proofs.Ytjglpmcekbjoaaa
