/- Contracts of the walk, part 35. -/
import Derived.Deep.Cut
import Derived.Deep.CutBlock
import Derived.Deep.CutRange
import Derived.Test.YtmiknfneeipkeaaGreatQ34
namespace Go.Proofs.YtmiknfneeipkeaaGreat
open Go.RowKit Go.MapKept Go.ChangeMaps Go.Shelf Go.Sort
attribute [local go_sem] wext_cell
set_option maxRecDepth 100000 in
set_option maxHeartbeats 16000000 in
/-- ArchiveStores (3). -/
theorem law3_any {w : World} {l : List Ob} (h : SW w.heap.size w l w) {A : Option Addr} {L : List Int} (hin : inOb A L ∈ l) (cap : Nat) {C : Option Addr} {R : List CH} (hraw : cxOb C R ∈ l) (rc : Nat) (hrn : R.length ≤ 1048576) (hro : ∀ e ∈ R, okID e.1) (hrb : ∀ e ∈ R, e.2.bs.length ≤ 1048576) :
    Calls Tryz.prog 3 #[.slice A L.length cap, .slice C R.length rc] w (fun e w' => e = .returned (.bool true) ∧ Below w.heap.size w w') := by
  have HIN := Lib.hid hin
  have HRAW := Lib.hid hraw
  have HRO := Lib.hid hro
  have HRB := Lib.hid hrb
  have S1 := Lib.hid (h.newTape HIN.out cap (H := w.heap.size) rfl)
  clear h hin hraw hro hrb
  have HC := Lib.hid (contents_any S1.out (by omega))
  go_enter Tryz.func3, Tryz.ntmps3
  go_wp2_with (go_at_call 8; (with_reducible refine HC.out.mono ?_); refine halt_ ?_)
  rintro e w1 ⟨Ps, p1, PA, CA, pc, cc, n1, rfl, hG, _, hn1, s1⟩
  have HG := Lib.hid hG
  have HF := Lib.hid (few_mans hG)
  have HCF := Lib.hid (chs_few hG)
  have HFS : Hid (FewS (mansT Ps)) := ⟨by rw [mansT_len]; have := hG.1; omega, fun m hm => ⟨(HF.out m hm).2.1, (HF.out m hm).2.2.2⟩⟩
  have S2 := SW.bufsBs (S := chsT Ps) (SW.front (pre := [_, _, _, _]) s1 [3, 0, 1, 2] (n := 4) rfl (by decide)) (fun e he => (HCF.out.2 e he).2.2)
  rw [← mansT_len Ps] at S2 ⊢
  have hps : (mansT Ps).length ≤ 3 := by rw [mansT_len]; exact hG.1
  have S3 : Hid (SW w.heap.size w (rowOb 33 2 (.slice PA (mansT Ps).length pc) (mansT Ps).length (p1.flatMap encMR) :: msOb p1 (mansT Ps) :: rowOb 42 3 (.slice CA (chsT Ps).length cc) (chsT Ps).length ((chsT Ps).flatMap encCH) :: bsOb (chsT Ps) :: tpOb w.heap.size A cap L n1 :: l) w1) := SW.front (pre := [_, _, _, _]) S2 [1, 3, 2, 0] (n := 4) rfl (by decide)
  obtain ⟨ms, HMS⟩ : ∃ x, Hid (mansT Ps = x) := ⟨_, rfl⟩
  rw [HMS.out] at S3 HFS HF hps ⊢
  clear S1 HC s1 hG S2 HMS
  go_upto_if 26 with fail
  go_cut [6, 8, 9, 10] from 26 (fun s6 s8 s9 s10 w' => ∃ (rs : List MR) (ms : List Man) (MA : Option Addr) (mc n' : Nat), s6 = .slice MA ms.length mc ∧ Hid (FewS ms) ∧ n' ≤ 200 ∧ SW w.heap.size w (rowOb 33 2 (.slice MA ms.length mc) ms.length (rs.flatMap encMR) :: msOb rs ms :: rowOb 42 3 (.slice CA (chsT Ps).length cc) (chsT Ps).length ((chsT Ps).flatMap encCH) :: bsOb (chsT Ps) :: tpOb w.heap.size A cap L n' :: l) w')
  case first =>
    by_cases hm0 : ms.length = 0
    · have hd : decide ((0 : Int) < (ms.length : Int)) = false := decide_eq_false (by omega)
      have hd2 : decide (0 < ms.length) = false := decide_eq_false (by omega)
      go_wp2_with fail
      go_meet
      exact ⟨p1, ms, PA, pc, n1, rfl, HFS.out, by omega, S3.out⟩
    · have hd : decide (0 < ms.length) = true := decide_eq_true (by omega)
      have HN1 := Lib.hid (Next_x S3.out 4 rfl (ms.length : Int) (by omega) (by omega))
      go_wp2_with (go_at_call 9; (with_reducible refine HN1.out.mono ?_); refine halt_ ?_)
      rintro e w2 ⟨rfl, s4⟩
      obtain ⟨k, hk, hkl⟩ : ∃ k : Nat, Hid (tnext L n1 (ms.length : Int) = (k : Int)) ∧ k < ms.length := by
        have h1 := tnext_in L n1 (ms.length : Int)
        have h2 := tnext_lt L n1 (k := (ms.length : Int)) (by omega)
        exact ⟨(tnext L n1 (ms.length : Int)).toNat, by rw [Hid]; omega, by omega⟩
      rw [hk.out]
      have HN2 := Lib.hid (Next_x s4 4 rfl 8 (by omega) (by omega))
      clear s4 HN1 S3 hk
      go_wp2_with (go_at_call 9; (with_reducible refine HN2.out.mono ?_); refine halt_ ?_)
      rintro e w3 ⟨rfl, s5⟩
      have S5 : Hid (SW w.heap.size w (rowOb 33 2 (.slice PA ms.length pc) ms.length (p1.flatMap encMR) :: msOb p1 ms :: rowOb 42 3 (.slice CA (chsT Ps).length cc) (chsT Ps).length ((chsT Ps).flatMap encCH) :: bsOb (chsT Ps) :: tpOb w.heap.size A cap L (n1 + 2) :: l) w3) := s5
      clear s5 HN2
      obtain ⟨hv0, hv1⟩ := tnext_in L (n1 + 1) 8
      have hv1 := hv1 (by omega)
      generalize tnext L (n1 + 1) 8 = v at hv0 hv1 ⊢
      obtain ⟨⟨z, rA, rn, rc2⟩, HR⟩ : ∃ r, Hid (p1.getD k mr0 = r) := ⟨_, rfl⟩
      obtain ⟨m, HMK⟩ : ∃ m, Hid (ms.getD k man0 = m) := ⟨_, rfl⟩
      have hmem : m ∈ ms := by rw [← HMK.out]; exact getD_mem _ _ _ hkl
      have HFM := Lib.hid (HF.out m hmem)
      have hms := HFM.out.2.2.1
      have hM := (S5.out.1.holds (msOb p1 ms) (.tail _ (.head _)))
      have hlk := hM.2 k hkl
      rw [HR.out, HMK.out] at hlk
      obtain ⟨l1, l2, l3, l4⟩ := hlk
      simp only at l1 l2 l3 l4
      subst l1 l2
      have HRP := Lib.hid l4
      have HPL : Hid (p1.length = ms.length) := hM.1
      obtain ⟨gM, cM, e7⟩ := own_some (S5.out.get 0 rfl) (by omega)
      injection e7 with e7 e8 e9
      clear e8 e9
      subst e7
      have hrow : w3.ownsRow 0 33 2 (.slice (some ⟨gM, 0, none⟩) ms.length pc) ms.length (p1.flatMap encMR) := S5.out.get 0 rfl
      have cellB : ∀ a v, a < 2 → (encMR (⟨m.size, rA, m.ids.length, rc2⟩ : MR))[a]? = some v → w3.cell? ⟨gM, k * 2 + a, none⟩ = some v := fun a v ha hv => by
        rw [hrow.cellAt (k * 2 + a) (by omega), flat_at encMR_len mr0 _ k a (by rw [HPL.out]; omega) ha, HR.out]
        exact hv
      have p0 : w3.cell? ⟨gM, k * 2, none⟩ = some (.int .i64 m.size) := cellB 0 _ (by omega) rfl
      have p2 : w3.cell? ⟨gM, k * 2 + 1, none⟩ = some (.slice rA m.ids.length rc2) := cellB 1 _ (by omega) rfl
      clear hM l3 l4 cellB hmem
      obtain ⟨i1, gi, gz0, gz1, gz2⟩ := info_parts info33'
      by_cases v0 : v = 0
      · subst v0
        have S6 := Lib.hid (S5.out.newCell 33 #[.int .i64 m.size, .slice rA m.ids.length rc2])
        go_wp2_with (at_builtin; (refine wpList_rowS (t := 27) (e := 33) (size := 2) (bytes := 32) (i := i1) S6.out 1 rfl (by rfl) (.tmp 35) (.tmp 40) (by rfl) Tryz.underlying27 gi gz0 gz1 gz2 rfl (by omega) (by rfl) ⟨w3.heap.size, 0, none⟩ 1 [.int .i64 m.size, .slice rA m.ids.length rc2] (by rfl) rfl (two_new _ _ _ _ _ (by simp)) (encMR_one (⟨m.size, rA, m.ids.length, rc2⟩ : MR)) (by unfold maxLen; omega) (by omega) ?_); refine halt_ ?_)
        intro v8 w8 s8
        obtain ⟨g8, c8, rfl⟩ := own_some (s8.get 1 rfl) (by omega)
        have S7 : Hid (SW w.heap.size w (rowOb 33 2 (.slice (some ⟨g8, 0, none⟩) (ms ++ [m]).length c8) (ms ++ [m]).length ((p1 ++ [(⟨m.size, rA, m.ids.length, rc2⟩ : MR)]).flatMap encMR) :: msOb (p1 ++ [(⟨m.size, rA, m.ids.length, rc2⟩ : MR)]) (ms ++ [m]) :: rowOb 42 3 (.slice CA (chsT Ps).length cc) (chsT Ps).length ((chsT Ps).flatMap encCH) :: bsOb (chsT Ps) :: tpOb w.heap.size A cap L (n1 + 2) :: l) w8) := by
          have h1 := SW.msDup (SW.front (pre := [_, _]) s8.tail [1, 0] (n := 2) rfl (by decide)) hkl
          rw [HR.out, HMK.out] at h1
          have h2 := SW.front (pre := [_, _]) h1 [1, 0] (n := 2) rfl (by decide)
          rw [Hid, List.length_append, List.flatMap_append]
          exact h2
        have HFS2 : Hid (FewS (ms ++ [m])) := by
          refine ⟨by rw [List.length_append, List.length_singleton]; omega, fun m' hm' => ?_⟩
          rcases List.mem_append.1 hm' with h | h
          · exact HFS.out.2 m' h
          · rw [List.mem_singleton.1 h]
            exact ⟨HFM.out.2.1, HFM.out.2.2.2⟩
        have HLN : Hid (ms.length + 1 = (ms ++ [m]).length) := by rw [Hid, List.length_append]; rfl
        clear s8 S5 S6 p0 p2 hrow
        rw [HLN.out]
        go_wp2_with fail
        go_meet
        exact ⟨p1 ++ [(⟨m.size, rA, m.ids.length, rc2⟩ : MR)], ms ++ [m], some ⟨g8, 0, none⟩, c8, n1 + 2, rfl, HFS2, by omega, S7.out⟩
      · by_cases v1 : v = 1
        · subst v1
          have f0 : w3.frozen? ⟨gM, k * 2, none⟩ = false := by
            rcases hrow.2 with ⟨hv, _⟩ | ⟨g2, cap2, cur2, hv, _, hg2, _⟩
            · cases hv
            · injection hv with e1 e2 e3
              injection e1 with e1
              injection e1 with e1
              subst e1
              exact IsB.frozen (show IsB w3 gM 33 cur2 from hg2) _
          have hb10 : ((1 : Int) == 0) = false := by decide
          have hws : IntKind.i64.wrap (m.size + 1) = m.size + 1 := IntWalk.i64_in _ (by omega)
          have S7 : Hid (SW w.heap.size w (rowOb 33 2 (.slice (some ⟨gM, 0, none⟩) (ms.set k (⟨m.size + 1, m.ids⟩ : Man)).length pc) (ms.set k (⟨m.size + 1, m.ids⟩ : Man)).length ((p1.set k (⟨m.size + 1, rA, m.ids.length, rc2⟩ : MR)).flatMap encMR) :: msOb (p1.set k (⟨m.size + 1, rA, m.ids.length, rc2⟩ : MR)) (ms.set k (⟨m.size + 1, m.ids⟩ : Man)) :: rowOb 42 3 (.slice CA (chsT Ps).length cc) (chsT Ps).length ((chsT Ps).flatMap encCH) :: bsOb (chsT Ps) :: tpOb w.heap.size A cap L (n1 + 2) :: l) (w3.setCell ⟨gM, k * 2, none⟩ (.int .i64 (m.size + 1)))) := by
            have h0 := ownsRow_set hrow (k * 2) (.int .i64 (m.size + 1))
            have h1 := S5.out.row 0 rfl (w' := w3.setCell ⟨gM, k * 2, none⟩ (.int .i64 (m.size + 1))) h0 (g_set (p := ⟨gM, k * 2, none⟩) (g_refl _ _) (.inl rfl) _) (.inl rfl)
            have h2 := SW.msSet (SW.front (pre := [_, _]) h1 [1, 0] (n := 2) rfl (by decide)) hkl HR.out HMK.out (m.size + 1)
            have h3 := SW.front (pre := [_, _]) h2 [1, 0] (n := 2) rfl (by decide)
            rw [flat_set2 encMR_len (by omega) mr0 (⟨m.size + 1, rA, m.ids.length, rc2⟩ : MR) _ p1 k (by rw [HPL.out]; exact hkl) (by rw [HR.out]; rfl)] at h3
            rw [Hid, List.length_set]
            exact h3
          have HFS2 : Hid (FewS (ms.set k (⟨m.size + 1, m.ids⟩ : Man))) := by
            refine ⟨by rw [List.length_set]; omega, fun m' hm' => ?_⟩
            rcases List.mem_or_eq_of_mem_set hm' with h | h
            · exact HFS.out.2 m' h
            · rw [h]
              exact ⟨HFM.out.2.1, HFM.out.2.2.2⟩
          have HLN : Hid (ms.length = (ms.set k (⟨m.size + 1, m.ids⟩ : Man)).length) := by rw [Hid, List.length_set]
          clear S5 hrow
          go_wp2_with fail
          go_meet
          exact ⟨p1.set k (⟨m.size + 1, rA, m.ids.length, rc2⟩ : MR), ms.set k (⟨m.size + 1, m.ids⟩ : Man), some ⟨gM, 0, none⟩, pc, n1 + 2, by rw [← HLN.out], HFS2, by omega, S7.out⟩
        · by_cases v2 : v = 2
          · subst v2
            obtain ⟨k1, k2, HKM⟩ : ∃ a b, Hid (keyM m = (a, b)) := ⟨_, _, rfl⟩
            have hkf : 0 ≤ k1 ∧ k1 < 2305843009213693952 ∧ k2 = m.size := by
              have h1 := manE_zero HFM.out.1
              obtain ⟨w1, w2, w3⟩ := wholeP_ok _ m.ids rfl h1.1 (by rw [← h1.2.1]; exact h1.2.2)
              have e1 : wholeP m.ids = (k1, k2) := HKM.out
              rw [e1] at w1 w2 w3
              have h3 := validB_bd w1
              simp only at h3 w2 w3
              exact ⟨w3, by omega, by rw [w2, h1.2.1]⟩
            have HWH := Lib.hid (rWhole_ok _ m rA rc2 w3 HRP.out (by have := HFM.out.2.1; omega) (fun i hi => (HFM.out.2.2.2 i hi).1) HFM.out.1)
            rw [HKM.out] at HWH
            have HKB := Lib.hid hkf
            have hk2 : 0 ≤ k2 ∧ k2 ≤ 9 := by rw [hkf.2.2]; exact hms
            obtain ⟨hk3, hk4⟩ := hk2
            clear hkf hrow
            go_wp2_with (go_at_call 10; (with_reducible refine HWH.out.mono ?_); refine halt_ ?_)
            rintro e w4 ⟨rfl, hb4⟩
            have S6 := Lib.hid ((S5.out.on hb4).newCell 36 #[.int .u64 k1, .int .i64 k2])
            clear hb4 S5 HWH p0 p2
            go_upto_region 12 with fail
            obtain ⟨w5, HW⟩ : ∃ W, Hid (w4.alloc (.cells #[.int .u64 k1, .int .i64 k2] 36) = W) := ⟨_, rfl⟩
            obtain ⟨gI, HGI⟩ : ∃ x, Hid (w4.heap.size = x) := ⟨_, rfl⟩
            rw [HW.out, HGI.out] at S6 ⊢
            clear HW HGI
            have c0 := (S6.out.cell 0 rfl).cell 0
            have c1 := (S6.out.cell 0 rfl).cell 1
            by_cases hz : 0 < k2
            · have S7 := Lib.hid ((S6.out.newCell 36 #[.int .u64 k1, .int .i64 k2]).newCellAt 33 #[.int .i64 k2, .slice (some ⟨w5.heap.size, 0, none⟩) 1 1] (H := w5.heap.size + 1) (by simp))
              go_wp2_with (at_builtin; (refine wpList_rowS (t := 27) (e := 33) (size := 2) (bytes := 32) (i := i1) S7.out 3 rfl (by rfl) (.tmp 69) (.tmp 75) (by rfl) Tryz.underlying27 gi gz0 gz1 gz2 rfl (by omega) (by rfl) ⟨w5.heap.size + 1, 0, none⟩ 1 [.int .i64 k2, .slice (some ⟨w5.heap.size, 0, none⟩) 1 1] (by rfl) rfl (two_new _ _ _ _ _ (by simp)) (encMR_one (⟨k2, some ⟨w5.heap.size, 0, none⟩, 1, 1⟩ : MR)) (by unfold maxLen; omega) (by omega) ?_); refine halt_ ?_)
              intro v8 w8 s8
              obtain ⟨g8, c8, rfl⟩ := own_some (s8.get 3 rfl) (by omega)
              obtain ⟨gN, HGN⟩ : ∃ x, Hid (w5.heap.size = x) := ⟨_, rfl⟩
              rw [HGN.out] at s8
              have S8 : Hid (SW w.heap.size w (rowOb 33 2 (.slice (some ⟨g8, 0, none⟩) (ms ++ [(⟨k2, [(k1, k2)]⟩ : Man)]).length c8) (ms ++ [(⟨k2, [(k1, k2)]⟩ : Man)]).length ((p1 ++ [(⟨k2, some ⟨gN, 0, none⟩, 1, 1⟩ : MR)]).flatMap encMR) :: msOb (p1 ++ [(⟨k2, some ⟨gN, 0, none⟩, 1, 1⟩ : MR)]) (ms ++ [(⟨k2, [(k1, k2)]⟩ : Man)]) :: rowOb 42 3 (.slice CA (chsT Ps).length cc) (chsT Ps).length ((chsT Ps).flatMap encCH) :: bsOb (chsT Ps) :: tpOb w.heap.size A cap L (n1 + 2) :: l) w8) := by
                have h1 := SW.sub s8 (.cons _ (.cons_cons _ (.cons _ (List.Sublist.refl _))))
                have h2 := SW.cellRi (i := (k1, k2)) h1
                have h3 := SW.fuseM (SW.front (pre := [_, _, _]) h2 [0, 2, 1] (n := 3) rfl (by decide)) k2 1 (Nat.le_refl _)
                have h4 := SW.front (pre := [_, _]) h3 [1, 0] (n := 2) rfl (by decide)
                rw [Hid, List.length_append, List.flatMap_append]
                exact h4
              have HFS2 : Hid (FewS (ms ++ [(⟨k2, [(k1, k2)]⟩ : Man)])) := by
                refine ⟨by rw [List.length_append, List.length_singleton]; omega, fun m' hm' => ?_⟩
                rcases List.mem_append.1 hm' with h | h
                · exact HFS.out.2 m' h
                · rw [List.mem_singleton.1 h]
                  refine ⟨by simp, fun i hi => ?_⟩
                  rw [List.mem_singleton.1 hi]
                  have h9 := HKB.out
                  exact ⟨⟨by simp [Lit.wf, IntKind.min, IntKind.max, IntKind.signed, IntKind.bits]; omega, by simp [Lit.wf, IntKind.min, IntKind.max, IntKind.signed, IntKind.bits]; omega⟩, hk4⟩
              have HLN : Hid (ms.length + 1 = (ms ++ [(⟨k2, [(k1, k2)]⟩ : Man)]).length) := by rw [Hid, List.length_append]; rfl
              clear s8 S6 S7 c0 c1
              rw [HLN.out]
              go_wp2_with fail
              go_meet
              exact ⟨p1 ++ [(⟨k2, some ⟨gN, 0, none⟩, 1, 1⟩ : MR)], ms ++ [(⟨k2, [(k1, k2)]⟩ : Man)], some ⟨g8, 0, none⟩, c8, n1 + 2, rfl, HFS2, by omega, S8.out⟩
            · have hd3 : decide (0 < k2) = false := by simp; omega
              have S7 := Lib.hid S6.out.tail
              clear S6
              go_wp2_with fail
              go_meet
              exact ⟨p1, ms, some ⟨gM, 0, none⟩, pc, n1 + 2, rfl, HFS.out, by omega, S7.out⟩
          · have hb0 : (v == 0) = false := by rw [beq_eq_false_iff_ne]; exact v0
            have hb1 : (v == 1) = false := by rw [beq_eq_false_iff_ne]; exact v1
            have hb2 : (v == 2) = false := by rw [beq_eq_false_iff_ne]; exact v2
            go_wp2_with fail
            go_meet
            exact ⟨p1, ms, some ⟨gM, 0, none⟩, pc, n1 + 2, rfl, HFS.out, by omega, S5.out⟩
  case rest =>
    clear S3 HFS HF hps
    obtain ⟨rs, ns, MA, mc, n2, rfl, HFS, hn2, hs⟩ := hcut
    have S3 := Lib.hid hs
    clear hs
    obtain ⟨T0, HT0⟩ : ∃ x, Hid (chsT Ps = x) := ⟨_, rfl⟩
    have HCF2 : Hid (T0.length ≤ 9 ∧ ∀ e ∈ T0, okID e.1 ∧ e.2.bs.length ≤ 5) := by rw [← HT0.out]; exact ⟨HCF.out.1, fun e he => ⟨(HCF.out.2 e he).1, (HCF.out.2 e he).2.1⟩⟩
    rw [HT0.out] at S3 ⊢
    clear HT0 HCF HG
    have HCF := HCF2
    clear HCF2
    have hT9 : T0.length ≤ 9 := HCF.out.1
    go_upto_if 79 with fail
    go_cut [7, 11] from 79 (fun s7 s11 w' => ∃ (S : List CH) (CB : Option Addr) (cb : Nat), s7 = .slice CB S.length cb ∧ Hid (S.length ≤ 10 ∧ ∀ e ∈ S, okID e.1 ∧ e.2.bs.length ≤ 5) ∧ SW w.heap.size w (rowOb 42 3 (.slice CB S.length cb) S.length (S.flatMap encCH) :: bsOb S :: rowOb 33 2 (.slice MA ns.length mc) ns.length (rs.flatMap encMR) :: msOb rs ns :: l) w')
    case first =>
      by_cases hc0 : T0.length = 0
      · have hd : decide (0 < T0.length) = false := decide_eq_false (by omega)
        have HOKS : Hid (T0.length ≤ 10 ∧ ∀ e ∈ T0, okID e.1 ∧ e.2.bs.length ≤ 5) := ⟨by omega, HCF.out.2⟩
        have S4 : Hid (SW w.heap.size w (rowOb 42 3 (.slice CA T0.length cc) T0.length (T0.flatMap encCH) :: bsOb T0 :: rowOb 33 2 (.slice MA ns.length mc) ns.length (rs.flatMap encMR) :: msOb rs ns :: l) _) := SW.front (pre := [_, _, _, _]) (SW.sub S3.out (.cons_cons _ (.cons_cons _ (.cons_cons _ (.cons_cons _ (.cons _ (List.Sublist.refl _))))))) [2, 3, 0, 1] (n := 4) rfl (by decide)
        clear S3
        go_wp2_with fail
        go_meet
        exact ⟨T0, CA, cc, rfl, HOKS, S4.out⟩
      · have hd : decide (0 < T0.length) = true := decide_eq_true (by omega)
        have HN1 := Lib.hid (Next_x S3.out 4 rfl (T0.length : Int) (by omega) (by omega))
        go_wp2_with (go_at_call 9; (with_reducible refine HN1.out.mono ?_); refine halt_ ?_)
        rintro e w2 ⟨rfl, s4⟩
        obtain ⟨k, hk, hkl⟩ : ∃ k : Nat, Hid (tnext L n2 (T0.length : Int) = (k : Int)) ∧ k < T0.length := by
          have h1 := tnext_in L n2 (T0.length : Int)
          have h2 := tnext_lt L n2 (k := (T0.length : Int)) (by omega)
          exact ⟨(tnext L n2 (T0.length : Int)).toNat, by rw [Hid]; omega, by omega⟩
        rw [hk.out]
        have HN2 := Lib.hid (Next_x s4 4 rfl 6 (by omega) (by omega))
        clear s4 HN1 S3 hk
        go_wp2_with (go_at_call 9; (with_reducible refine HN2.out.mono ?_); refine halt_ ?_)
        rintro e w3 ⟨rfl, s5⟩
        have S5 : Hid (SW w.heap.size w (rowOb 33 2 (.slice MA ns.length mc) ns.length (rs.flatMap encMR) :: msOb rs ns :: rowOb 42 3 (.slice CA T0.length cc) T0.length (T0.flatMap encCH) :: bsOb T0 :: tpOb w.heap.size A cap L (n2 + 2) :: l) w3) := s5
        clear s5 HN2
        obtain ⟨hv0, hv1⟩ := tnext_in L (n2 + 1) 6
        have hv1 := hv1 (by omega)
        generalize tnext L (n2 + 1) 6 = v at hv0 hv1 ⊢
        obtain ⟨⟨⟨i1, i2⟩, ebs⟩, hte⟩ : ∃ e, T0.getD k ch0 = e := ⟨_, rfl⟩
        have HOI : Hid (okID (i1, i2)) := (HCF.out.2 ((i1, i2), ebs) (by rw [← hte]; exact getD_mem _ _ _ hkl)).1
        obtain ⟨gC, cC, e7⟩ := own_some (S5.out.get 2 rfl) (by omega)
        injection e7 with e7 e8 e9
        clear e8 e9
        subst e7
        have hrow : w3.ownsRow 0 42 3 (.slice (some ⟨gC, 0, none⟩) T0.length cc) T0.length (T0.flatMap encCH) := S5.out.get 2 rfl
        have cellB : ∀ a v, a < 3 → (encCH ((i1, i2), ebs))[a]? = some v → w3.cell? ⟨gC, k * 3 + a, none⟩ = some v := fun a v ha hv => by
          rw [hrow.cellAt (k * 3 + a) (by omega), flat_at encCH_len ch0 _ k a hkl ha, hte]
          exact hv
        have c0 : w3.cell? ⟨gC, k * 3, none⟩ = some (.int .u64 i1) := cellB 0 _ (by omega) rfl
        have c1 : w3.cell? ⟨gC, k * 3 + 1, none⟩ = some (.int .i64 i2) := cellB 1 _ (by omega) rfl
        clear cellB hte
        obtain ⟨ii, gi, gz0, gz1, gz2⟩ := info_parts info42
        by_cases v0 : v = 0
        · subst v0
          have hcc : T0.length ≤ cc := by
            rcases hrow.2 with ⟨hv, h0⟩ | ⟨g, cap, cur, hv, _, _, hnc, _⟩
            · cases hv
            · injection hv with e1 e2 e3
              omega
          have hwr : IntKind.i64.wrap ((k : Int) + 1) = (k : Int) + 1 := IntWalk.i64_in _ (by omega)
          have hp0 : (0 : Int) ≤ (k : Int) + 1 := by omega
          have htn : ((k : Int) + 1).toNat = k + 1 := by omega
          have hkc : k ≤ cc := by omega
          have HTL : Hid (((T0.take k).flatMap encCH).length = k * 3) := by rw [Hid, flat_len encCH_len, List.length_take]; congr 1; omega
          have HTD : Hid (((T0.drop (k + 1)).flatMap encCH).length = (T0.length - (k + 1)) * 3) := by rw [Hid, flat_len encCH_len, List.length_drop]
          have HST : Hid (∀ W : World, W.ownsRow 0 42 3 (.slice (some ⟨gC, 0, none⟩) T0.length cc) T0.length (T0.flatMap encCH) → ∀ (a : Nat) (u : Value), ((T0.take k).flatMap encCH)[a]? = some u → W.cell? ((⟨gC, 0, none⟩ : Addr).add a) = some u) := fun W h => by
            have := row_part encCH_len h 0 k (by omega)
            rw [List.drop_zero, Nat.zero_mul] at this
            exact this
          have HSD : Hid (∀ W : World, W.ownsRow 0 42 3 (.slice (some ⟨gC, 0, none⟩) T0.length cc) T0.length (T0.flatMap encCH) → ∀ (a : Nat) (u : Value), ((T0.drop (k + 1)).flatMap encCH)[a]? = some u → W.cell? ((⟨gC, (k + 1) * 3, none⟩ : Addr).add a) = some u) := fun W h => by
            have := row_part encCH_len h (k + 1) (T0.length - (k + 1)) (by omega)
            rw [List.take_of_length_le (by rw [List.length_drop]; exact Nat.le_refl _)] at this
            exact this
          clear hrow c0 c1
          by_cases hcq : cc = k + 1
          · have HTK : Hid (T0.length = k + 1) := by rw [Hid]; omega
            have hct : (cc = k + 1) = True := eq_true hcq
            have hk1 : k + 1 ≤ T0.length := by omega
            have hk2 : k + 1 ≤ cc := by omega
            have hpf : (k : Int) + 1 ≤ (T0.length : Int) := by omega
            clear hcq HSD
            go_upto_region 18 with fail
            go_region_law ((try simp only [Act.put, List.getElem_toArray, List.getElem_cons_succ, List.getElem_cons_zero, List.setIfInBounds_toArray, List.set]); first
              | (refine step_rowA (t := 23) (e := 42) (size := 3) (bytes := 40) (i := ii) (S5.out.drew.newRow 42 3) 0 rfl (by rfl) (.const (.slice none 0 0)) (.tmp 90) (by rfl) Tryz.underlying23 gi gz0 gz1 gz2 rfl (by omega) (by rfl) (some ⟨gC, 0, none⟩) k cc ((T0.take k).flatMap encCH) (by rfl) HTL.out (fun _ => ⟨_, rfl, HST.out _ (S5.out.drew.get 2 rfl)⟩) (row_all encCH_one _) (by unfold maxLen; omega) (by omega) ?_; intro v2 w4 s4; have S6 : Hid (SW w.heap.size w (rowOb 42 3 v2 (0 + k) ([] ++ (T0.take k).flatMap encCH) :: rowOb 33 2 (.slice MA ns.length mc) ns.length (rs.flatMap encMR) :: msOb rs ns :: rowOb 42 3 (.slice (some ⟨gC, 0, none⟩) T0.length cc) T0.length (T0.flatMap encCH) :: bsOb T0 :: tpOb w.heap.size A cap L (n2 + 2) :: l) w4) := s4; clear s4)
              | (refine step_rowA (t := 23) (e := 42) (size := 3) (bytes := 40) (i := ii) S6.out 0 rfl (by rfl) (.tmp 91) (.tmp 95) (by rfl) Tryz.underlying23 gi gz0 gz1 gz2 rfl (by omega) (by rfl) (some ⟨gC, 0, none⟩) (T0.length - (k + 1)) (cc - (k + 1)) ((T0.drop (k + 1)).flatMap encCH) (by rfl) HTD.out (fun h => absurd h (by have := HTK.out; omega)) (row_all encCH_one _) (by unfold maxLen; omega) (by omega) ?_; intro v3 w5 s5; have S7 := Lib.hid s5; clear s5))
            all_goals (
              obtain ⟨T1, HT1⟩ : ∃ y, Hid (T0.take k ++ T0.drop (k + 1) = y) := ⟨_, rfl⟩
              have HLEN : Hid (0 + k + (T0.length - (k + 1)) = T1.length) := by rw [Hid, ← HT1.out, List.length_append, List.length_take, List.length_drop]; omega
              have HENC : Hid ([] ++ (T0.take k).flatMap encCH ++ ((T0.drop (k + 1)).flatMap encCH) = T1.flatMap encCH) := by rw [Hid, ← HT1.out]; simp [List.flatMap_append]
              obtain ⟨A4, c4, rfl⟩ := own_slice (S7.out.get 0 rfl)
              rw [HLEN.out, HENC.out] at S7
              have hsub : ∀ e ∈ T1, e ∈ T0 := fun e he => by
                rw [← HT1.out] at he
                rcases List.mem_append.1 he with h | h
                · exact List.mem_of_mem_take h
                · exact List.mem_of_mem_drop h
              have S8 : Hid (SW w.heap.size w (rowOb 42 3 (.slice A4 T1.length c4) T1.length (T1.flatMap encCH) :: bsOb T1 :: rowOb 33 2 (.slice MA ns.length mc) ns.length (rs.flatMap encMR) :: msOb rs ns :: l) w5) := by
                have h1 := SW.sub S7.out (.cons_cons _ (.cons_cons _ (.cons_cons _ (.cons _ (.cons_cons _ (.cons _ (List.Sublist.refl _)))))))
                have h2 := SW.bsSub (S' := T1) (SW.front (pre := [_, _, _, _]) h1 [3, 0, 1, 2] (n := 4) rfl (by decide)) hsub
                exact SW.front (pre := [_, _]) h2 [1, 0] (n := 2) rfl (by decide)
              have HOKS : Hid (T1.length ≤ 10 ∧ ∀ e ∈ T1, okID e.1 ∧ e.2.bs.length ≤ 5) := ⟨by rw [← HLEN.out]; omega, fun e he => HCF.out.2 e (hsub e he)⟩
              clear S7 hsub
              rw [HLEN.out]
              go_wp2_with fail
              go_meet
              exact ⟨T1, A4, c4, rfl, HOKS, S8.out⟩)
          · have hcn : ¬ cc = k + 1 := hcq
            have hk1 : k + 1 ≤ T0.length := by omega
            have hk2 : k + 1 ≤ cc := by omega
            have hpf : (k : Int) + 1 ≤ (T0.length : Int) := by omega
            go_upto_region 18 with fail
            go_region_law ((try simp only [Act.put, List.getElem_toArray, List.getElem_cons_succ, List.getElem_cons_zero, List.setIfInBounds_toArray, List.set]); first
              | (refine step_rowA (t := 23) (e := 42) (size := 3) (bytes := 40) (i := ii) (S5.out.drew.newRow 42 3) 0 rfl (by rfl) (.const (.slice none 0 0)) (.tmp 90) (by rfl) Tryz.underlying23 gi gz0 gz1 gz2 rfl (by omega) (by rfl) (some ⟨gC, 0, none⟩) k cc ((T0.take k).flatMap encCH) (by rfl) HTL.out (fun _ => ⟨_, rfl, HST.out _ (S5.out.drew.get 2 rfl)⟩) (row_all encCH_one _) (by unfold maxLen; omega) (by omega) ?_; intro v2 w4 s4; have S6 : Hid (SW w.heap.size w (rowOb 42 3 v2 (0 + k) ([] ++ (T0.take k).flatMap encCH) :: rowOb 33 2 (.slice MA ns.length mc) ns.length (rs.flatMap encMR) :: msOb rs ns :: rowOb 42 3 (.slice (some ⟨gC, 0, none⟩) T0.length cc) T0.length (T0.flatMap encCH) :: bsOb T0 :: tpOb w.heap.size A cap L (n2 + 2) :: l) w4) := s4; clear s4)
              | (refine step_rowA (t := 23) (e := 42) (size := 3) (bytes := 40) (i := ii) S6.out 0 rfl (by rfl) (.tmp 91) (.tmp 95) (by rfl) Tryz.underlying23 gi gz0 gz1 gz2 rfl (by omega) (by rfl) (some ⟨gC, (k + 1) * 3, none⟩) (T0.length - (k + 1)) (cc - (k + 1)) ((T0.drop (k + 1)).flatMap encCH) (by rfl) HTD.out (fun _ => ⟨_, rfl, HSD.out _ (S6.out.get 3 rfl)⟩) (row_all encCH_one _) (by unfold maxLen; omega) (by omega) ?_; intro v3 w5 s5; have S7 := Lib.hid s5; clear s5))
            all_goals (
              obtain ⟨T1, HT1⟩ : ∃ y, Hid (T0.take k ++ T0.drop (k + 1) = y) := ⟨_, rfl⟩
              have HLEN : Hid (0 + k + (T0.length - (k + 1)) = T1.length) := by rw [Hid, ← HT1.out, List.length_append, List.length_take, List.length_drop]; omega
              have HENC : Hid ([] ++ (T0.take k).flatMap encCH ++ ((T0.drop (k + 1)).flatMap encCH) = T1.flatMap encCH) := by rw [Hid, ← HT1.out]; simp [List.flatMap_append]
              obtain ⟨A4, c4, rfl⟩ := own_slice (S7.out.get 0 rfl)
              rw [HLEN.out, HENC.out] at S7
              have hsub : ∀ e ∈ T1, e ∈ T0 := fun e he => by
                rw [← HT1.out] at he
                rcases List.mem_append.1 he with h | h
                · exact List.mem_of_mem_take h
                · exact List.mem_of_mem_drop h
              have S8 : Hid (SW w.heap.size w (rowOb 42 3 (.slice A4 T1.length c4) T1.length (T1.flatMap encCH) :: bsOb T1 :: rowOb 33 2 (.slice MA ns.length mc) ns.length (rs.flatMap encMR) :: msOb rs ns :: l) w5) := by
                have h1 := SW.sub S7.out (.cons_cons _ (.cons_cons _ (.cons_cons _ (.cons _ (.cons_cons _ (.cons _ (List.Sublist.refl _)))))))
                have h2 := SW.bsSub (S' := T1) (SW.front (pre := [_, _, _, _]) h1 [3, 0, 1, 2] (n := 4) rfl (by decide)) hsub
                exact SW.front (pre := [_, _]) h2 [1, 0] (n := 2) rfl (by decide)
              have HOKS : Hid (T1.length ≤ 10 ∧ ∀ e ∈ T1, okID e.1 ∧ e.2.bs.length ≤ 5) := ⟨by rw [← HLEN.out]; omega, fun e he => HCF.out.2 e (hsub e he)⟩
              clear S7 hsub
              rw [HLEN.out]
              go_wp2_with fail
              go_meet
              exact ⟨T1, A4, c4, rfl, HOKS, S8.out⟩)
        · by_cases v1 : v = 1
          · subst v1
            have hb10 : ((1 : Int) == 0) = false := by decide
            have hcv := Lib.run_convert_bytes_const (P := Tryz.prog) w3 40 5 #[.int .u8 119, .int .u8 114, .int .u8 111, .int .u8 110, .int .u8 103] 5 5 Tryz.underlying40 Tryz.underlying5
            have S6 := Lib.hid (S5.out.newX #[.int .u8 119, .int .u8 114, .int .u8 111, .int .u8 110, .int .u8 103] (5, 6) [119, 114, 111, 110, 103] 5 rfl (by decide) rfl)
            have S7 : Hid (SW w.heap.size w (rowOb 42 3 (.slice (some ⟨w3.heap.size + 1, 0, none⟩) 1 1) 1 [.int .u64 i1, .int .i64 i2, .slice (some ⟨w3.heap.size, 0, none⟩) 5 5] :: bxOb ⟨some ⟨w3.heap.size, 0, none⟩, 5, 5⟩ [119, 114, 111, 110, 103] :: rowOb 33 2 (.slice MA ns.length mc) ns.length (rs.flatMap encMR) :: msOb rs ns :: rowOb 42 3 (.slice (some ⟨gC, 0, none⟩) T0.length cc) T0.length (T0.flatMap encCH) :: bsOb T0 :: tpOb w.heap.size A cap L (n2 + 2) :: l) ((w3.alloc (.cells #[.int .u8 119, .int .u8 114, .int .u8 111, .int .u8 110, .int .u8 103] 5 (5, 6))).alloc (.cells #[.int .u64 i1, .int .i64 i2, .slice (some ⟨w3.heap.size, 0, none⟩) 5 5] 42))) := by
              have h1 := S6.out.newRowOf 42 3 1 #[.int .u64 i1, .int .i64 i2, .slice (some ⟨w3.heap.size, 0, none⟩) 5 5] rfl (by unfold maxLen; omega)
              rw [World.size_alloc] at h1
              exact h1
            have HSA : Hid (0 < T0.length → ∃ ad, (some ⟨gC, 0, none⟩ : Option Addr) = some ad ∧ ∀ (j : Nat) (u : Value), (T0.flatMap encCH)[j]? = some u → ((w3.alloc (.cells #[.int .u8 119, .int .u8 114, .int .u8 111, .int .u8 110, .int .u8 103] 5 (5, 6))).alloc (.cells #[.int .u64 i1, .int .i64 i2, .slice (some ⟨w3.heap.size, 0, none⟩) 5 5] 42)).cell? (ad.add j) = some u) := fun _ => ⟨_, rfl, (show World.ownsRow _ 0 42 3 (.slice (some ⟨gC, 0, none⟩) T0.length cc) T0.length (T0.flatMap encCH) from S7.out.get 4 rfl).cells (g := gC) rfl⟩
            clear hrow
            go_upto_region 20 with fail
            go_wp2_with (at_builtin; (refine wpList_rowMO (t := 23) (e := 42) (size := 3) (bytes := 40) (i := ii) S7.out 0 rfl (by rfl) (.tmp 107) (.tmp 108) (by rfl) Tryz.underlying23 gi gz0 gz1 gz2 rfl (by omega) (by rfl) (some ⟨gC, 0, none⟩) T0.length cc (T0.flatMap encCH) (by rfl) (flat_len encCH_len T0) HSA.out (row_all encCH_one _) (by unfold maxLen; omega) (by omega) ?_); refine halt_ ?_)
            intro v8 w8 s8
            obtain ⟨A8, c8, rfl⟩ := own_slice (s8.get 0 rfl : w8.ownsRow 0 42 3 v8 _ _)
            obtain ⟨gW, HGW⟩ : ∃ x, Hid (w3.heap.size = x) := ⟨_, rfl⟩
            obtain ⟨T1, HT1⟩ : ∃ y, Hid ((((i1, i2), ⟨⟨some ⟨gW, 0, none⟩, 5, 5⟩, [119, 114, 111, 110, 103]⟩) : CH) :: T0 = y) := ⟨_, rfl⟩
            rw [HGW.out] at s8
            have HLEN : Hid (1 + T0.length = T1.length) := by rw [Hid, ← HT1.out, List.length_cons]; omega
            have S8 : Hid (SW w.heap.size w (rowOb 42 3 (.slice A8 T1.length c8) T1.length (T1.flatMap encCH) :: bsOb T1 :: rowOb 33 2 (.slice MA ns.length mc) ns.length (rs.flatMap encMR) :: msOb rs ns :: l) w8) := by
              have h1 := SW.sub s8 (.cons_cons _ (.cons_cons _ (.cons_cons _ (.cons_cons _ (.cons _ (.cons_cons _ (.cons _ (List.Sublist.refl _))))))))
              have h2 := SW.bsCons (SW.front (pre := [_, _, _, _, _]) h1 [1, 4, 0, 2, 3] (n := 5) rfl (by decide)) (i1, i2) ⟨rfl, Nat.le_refl _⟩
              have h3 := SW.front (pre := [_, _]) h2 [1, 0] (n := 2) rfl (by decide)
              rw [HLEN.out] at h3
              rw [Hid, ← HT1.out] 
              rw [← HT1.out] at h3
              exact h3
            have HOKS : Hid (T1.length ≤ 10 ∧ ∀ e ∈ T1, okID e.1 ∧ e.2.bs.length ≤ 5) := by
              refine ⟨by rw [← HLEN.out]; omega, fun e he => ?_⟩
              rw [← HT1.out] at he
              rcases List.mem_cons.1 he with rfl | h
              · exact ⟨HOI.out, by simp⟩
              · exact HCF.out.2 e h
            clear s8 S5 S6 S7 HSA
            rw [HLEN.out]
            go_wp2_with fail
            go_meet
            exact ⟨T1, A8, c8, rfl, HOKS, S8.out⟩
          · have hb0 : (v == 0) = false := by rw [beq_eq_false_iff_ne]; exact v0
            have hb1 : (v == 1) = false := by rw [beq_eq_false_iff_ne]; exact v1
            have HOKS : Hid (T0.length ≤ 10 ∧ ∀ e ∈ T0, okID e.1 ∧ e.2.bs.length ≤ 5) := ⟨by omega, HCF.out.2⟩
            have S6 : Hid (SW w.heap.size w (rowOb 42 3 (.slice (some ⟨gC, 0, none⟩) T0.length cc) T0.length (T0.flatMap encCH) :: bsOb T0 :: rowOb 33 2 (.slice MA ns.length mc) ns.length (rs.flatMap encMR) :: msOb rs ns :: l) _) := SW.front (pre := [_, _, _, _]) (SW.sub S5.out (.cons_cons _ (.cons_cons _ (.cons_cons _ (.cons_cons _ (.cons _ (List.Sublist.refl _))))))) [2, 3, 0, 1] (n := 4) rfl (by decide)
            clear S5 hrow
            go_wp2_with fail
            go_meet
            exact ⟨T0, some ⟨gC, 0, none⟩, cc, rfl, HOKS, S6.out⟩
    case rest =>
      obtain ⟨S, CB, cb, rfl, HSF, hs⟩ := hcut
      have S4 := Lib.hid hs
      clear hs S3 HCF
      obtain ⟨ii, gi, gz0, gz1, gz2⟩ := info_parts info42
      have hs10 : S.length ≤ 10 := HSF.out.1
      have HRW : Hid (∀ W : World, (cxOb C R).holds W → 0 < R.length → ∃ ad, C = some ad ∧ ∀ (j : Nat) (u : Value), (R.flatMap encCH)[j]? = some u → W.cell? (ad.add j) = some u) := fun W hW hp => by
        obtain ⟨g, o, e, _, _, hc⟩ := hW.1 hp
        refine ⟨⟨g, o, none⟩, e, fun j u hu => ?_⟩
        have hj := (List.getElem?_eq_some_iff.1 hu).1
        rw [flat_len encCH_len] at hj
        have e1 := flat_at encCH_len ch0 R (j / 3) (j % 3) (by omega) (by omega)
        rw [show j / 3 * 3 + j % 3 = j by omega, hu] at e1
        have h2 := hc (j / 3) (by omega) (j % 3) u e1.symm
        rw [lit_add, show o + j = o + j / 3 * 3 + j % 3 by omega]
        exact h2
      obtain ⟨U, HU⟩ : ∃ x, Hid (S ++ R = x) := ⟨_, rfl⟩
      have HUL : Hid (S.length + R.length = U.length) := by rw [Hid, ← HU.out, List.length_append]
      have HUE : Hid (S.flatMap encCH ++ R.flatMap encCH = U.flatMap encCH) := by rw [Hid, ← HU.out, List.flatMap_append]
      have HUO : Hid (∀ e ∈ U, okID e.1) := fun e he => by
        rw [← HU.out] at he
        rcases List.mem_append.1 he with h | h
        · exact (HSF.out.2 e h).1
        · exact HRO.out e h
      have HUB : Hid (∀ e ∈ U, e.2.bs.length ≤ 1099511627776) := fun e he => by
        rw [← HU.out] at he
        rcases List.mem_append.1 he with h | h
        · have := (HSF.out.2 e h).2
          omega
        · have := HRB.out e h
          omega
      have HCX : Hid (∀ (W : World) (D : Option Addr) (c : Nat), SW w.heap.size w (rowOb 42 3 (.slice CB S.length cb) S.length (S.flatMap encCH) :: bsOb S :: rowOb 33 2 (.slice MA ns.length mc) ns.length (rs.flatMap encMR) :: msOb rs ns :: l) W → W.ownsRow 0 42 3 (.slice D U.length c) U.length (U.flatMap encCH) → (cxOb D U).holds W) := fun W D c hS hr => cx_row hr rfl (fun e he => by
        rw [← HU.out] at he
        rcases List.mem_append.1 he with h | h
        · exact (hS.1.holds (bsOb S) (.tail _ (.head _))) e h
        · exact (hS.1.holds (cxOb C R) (.tail _ (.tail _ (.tail _ (.tail _ HRAW.out))))).2 e h)
      have HIX : Hid (∀ W : World, SW w.heap.size w (rowOb 42 3 (.slice CB S.length cb) S.length (S.flatMap encCH) :: bsOb S :: rowOb 33 2 (.slice MA ns.length mc) ns.length (rs.flatMap encMR) :: msOb rs ns :: l) W → (imOb MA rs ns).holds W) := fun W hS => im_row (hS.1.holds (rowOb 33 2 (.slice MA ns.length mc) ns.length (rs.flatMap encMR)) (.tail _ (.tail _ (.head _)))) (hS.1.holds (msOb rs ns) (.tail _ (.tail _ (.tail _ (.head _)))))
      have HN20 : Hid (ns.length < 20) := by have := HFS.out.1; rw [Hid]; omega
      have HNI : Hid (∀ m ∈ ns, m.ids.length ≤ 9223372036854775807) := fun m hm => by have := (HFS.out.2 m hm).1; omega
      have HNO : Hid (∀ m ∈ ns, ∀ i ∈ m.ids, okID i) := fun m hm i hi => ((HFS.out.2 m hm).2 i hi).1
      have HUN : Hid (U.length ≤ 9223372036854775807) := by rw [Hid, ← HUL.out]; omega
      have HPK := Lib.hid (few_pack HFS.out U)
      go_wp2_with (at_builtin; (refine wpList_append_keep (t := 23) (e := 42) (size := 3) (bytes := 40) (i := ii) S4.out 0 rfl (by rfl) (.tmp 112) (.tmp 113) (by rfl) Tryz.underlying23 gi gz0 gz1 gz2 rfl (by omega) (by rfl) C R.length rc (R.flatMap encCH) (by rfl) (flat_len encCH_len R) (HRW.out _ (S4.out.1.holds (cxOb C R) (.tail _ (.tail _ (.tail _ (.tail _ HRAW.out)))))) (row_all encCH_one _) (by unfold maxLen; omega) (by omega) ?_); refine halt_ ?_)
      intro v5 w5 s5 h5
      rw [HUL.out, HUE.out] at h5
      obtain ⟨A5, c5, rfl⟩ := own_slice h5
      have S5 := Lib.hid s5
      have HST := Lib.hid (Store_b (HIX.out _ s5) (HCX.out _ _ _ s5 h5) HN20.out HNI.out HNO.out HUO.out HUN.out HPK.out mc c5)
      clear s5 h5 S4
      go_wp2_with (go_at_call 11; (with_reducible refine HST.out.mono ?_); refine halt_ ?_)
      intro e1 w6 hst
      obtain ⟨d1, bs1, f1, rfl, hb6, hc1⟩ := stoB_sum hst
      have S6 := Lib.hid (SW.newBuT S5.out hb6.bl hb6.rb hb6.nw)
      have HC1 := Lib.hid hc1
      clear hst hb6 hc1 HST S5
      go_wp2_with (at_builtin; (refine wpList_append_keep (t := 23) (e := 42) (size := 3) (bytes := 40) (i := ii) S6.out 1 rfl (by rfl) (.tmp 120) (.tmp 121) (by rfl) Tryz.underlying23 gi gz0 gz1 gz2 rfl (by omega) (by rfl) C R.length rc (R.flatMap encCH) (by rfl) (flat_len encCH_len R) (HRW.out _ (S6.out.1.holds (cxOb C R) (.tail _ (.tail _ (.tail _ (.tail _ (.tail _ HRAW.out))))))) (row_all encCH_one _) (by unfold maxLen; omega) (by omega) ?_); refine halt_ ?_)
      intro v7 w7 s7 h7
      rw [HUL.out, HUE.out] at h7
      obtain ⟨A7, c7, rfl⟩ := own_slice h7
      have S7 := Lib.hid s7
      have HST2 := Lib.hid (rStore_b (HIX.out _ s7.tail) (HCX.out _ _ _ s7.tail h7) HN20.out HNI.out HNO.out HUB.out HUN.out HPK.out mc c7)
      clear s7 h7 S6
      go_wp2_with (go_at_call 12; (with_reducible refine HST2.out.mono ?_); refine halt_ ?_)
      intro e2 w8 hst
      obtain ⟨d2, bs2, f2, rfl, hb8, hc2⟩ := stoB_sum hst
      obtain ⟨hf, hbs⟩ := stoR_uniq HC1.out hc2
      subst hf
      subst hbs
      have S8 := Lib.hid (SW.newBuT S7.out hb8.bl hb8.rb hb8.nw)
      clear hst hb8 hc2 HST2 S7
      have HKN := Lib.hid (known_any w8)
      go_wp2_with (go_at_call 13; (with_reducible refine HKN.out.mono ?_); refine halt_ ?_)
      rintro e w9 ⟨rfl, hb9⟩
      have S9 := Lib.hid (S8.out.on hb9)
      clear hb9 HKN S8
      have R2 : RB w9 d2 bs2 := S9.out.get 0 (o := bufOb d2 bs2) rfl
      have R1 : RB w9 d1 bs2 := S9.out.get 1 (o := bufOb d1 bs2) rfl
      have hcs2 := conv_str R2.src d2.len d2.cap R2.1
      have hcs1 := conv_str R1.src d1.len d1.cap R1.1
      clear R1 R2
      go_wp2_with fail
      go_ret
      exact ⟨rfl, S9.out.2⟩
end Go.Proofs.YtmiknfneeipkeaaGreat
