/- Contracts of the walk, part 24. -/
import Derived.Lib.SlBytesRowKit
import Derived.Test.YtmiknfneeipkeaaGreatR23
import Derived.Test.YtmiknfneeipkeaaGreatR20
import Derived.Test.YtmiknfneeipkeaaGreatR16
import Derived.Test.YtmiknfneeipkeaaGreatR17
namespace Go.Proofs.YtmiknfneeipkeaaGreat
open Go.RowKit Go.MapKept Go.ChangeMaps Go.Shelf Go.Sort
attribute [local go_sem] wext_cell
def frameP (e : CH) : List UInt8 := [1] ++ putU e.2.bs.length ++ putU (fpSum e.2.bs) ++ e.2.bs
def packF (T : List CH) : List UInt8 := [83, 89, 80, 75] ++ T.flatMap frameP
def packB (T : List CH) : List UInt8 := packF T ++ [0] ++ putU T.length
def packP (T : List CH) : List UInt8 := packB T ++ putU (fpSum (packB T))
theorem packF_snoc (T : List CH) (e : CH) : packF (T ++ [e]) = packF T ++ frameP e := by simp [packF, List.append_assoc]
theorem packF_le (T : List CH) (k : Nat) : (packF (T.take k)).length ≤ (packF T).length := by
  have : packF T = packF (T.take k) ++ (T.drop k).flatMap frameP := by
    have e : T.flatMap frameP = (T.take k).flatMap frameP ++ (T.drop k).flatMap frameP := by
      rw [← List.flatMap_append, List.take_append_drop]
    rw [packF, e, packF, List.append_assoc]
  rw [this, List.length_append]
  omega
theorem okCH_eq {i1 i2 : Int} {e : BS} (h : okCH ((i1, i2), e) = true) : i1 = ((fpSum e.bs : Nat) : Int) ∧ i2 = ((e.bs.length : Nat) : Int) ∧ 1 ≤ e.bs.length ∧ e.bs.length ≤ 8192 := by
  have h := of_decide_eq_true h
  simp only at h
  have h1 : ((fpSum e.bs : Nat) : Int) = i1 := congrArg Prod.fst h.2.2
  have h2 : ((e.bs.length : Nat) : Int) = i2 := congrArg Prod.snd h.2.2
  exact ⟨h1.symm, h2.symm, by omega, by omega⟩
section
variable {b : Nat} {w0 w w' : World} {l : List Ob}
set_option maxRecDepth 100000 in
set_option maxHeartbeats 8000000 in
theorem encode_any (h : SW b w0 l w) {C : Option Addr} {T : List CH} (hc : cxOb C T ∈ l) (hok : ∀ e ∈ T, okCH e = true) (ha : T.Pairwise (fun a b => ltID a.1 b.1 = true)) (hl : (packP T).length ≤ 1048576) (hTn : T.length ≤ 1048576) (c : Nat) :
    Calls Tryz.prog 42 #[.slice C T.length c] w (fun e w' => ∃ d, e = .returned (.tuple #[vB d, .int .i64 0]) ∧ SW b w0 (bufOb d (packP T) :: l) w') := by
  have HC := Lib.hid hc
  have HOK := Lib.hid hok
  have HA := Lib.hid ha
  have HL := Lib.hid hl
  have S0 := Lib.hid (h.newX #[.int .u8 83, .int .u8 89, .int .u8 80, .int .u8 75] (4, 5) [83, 89, 80, 75] 4 rfl (by decide) rfl)
  have hFl : (packF T).length + 1 + (putU T.length).length + (putU (fpSum (packB T))).length ≤ 1048576 := by
    have := hl
    simp only [packP, packB, List.length_append, List.length_singleton] at this
    simp only [packB]
    omega
  have HFL := Lib.hid hFl
  have hFT : (packF T).length ≤ 1048576 := by omega
  clear h hc hok ha hl hFl
  have hcv := Lib.run_convert_bytes_const (P := Tryz.prog) w 40 5 #[.int .u8 83, .int .u8 89, .int .u8 80, .int .u8 75] 4 4 Tryz.underlying40 Tryz.underlying5
  go_enter Tryz.func42, Tryz.ntmps42
  go_upto_region 2 with fail
  clear hcv
  obtain ⟨w1, HW⟩ : ∃ W, Hid (w.alloc (.cells #[.int .u8 83, .int .u8 89, .int .u8 80, .int .u8 75] 5 (4, 5)) = W) := ⟨_, rfl⟩
  rw [HW.out] at S0 ⊢
  clear HW
  go_wp2_with fail
  go_loopw [4, 11] (fun s4 s11 wr => ∃ (k : Nat) (d : BD), k ≤ T.length ∧ s11 = .int .i64 (k : Int) ∧ s4 = .slice d.A d.len d.cap ∧ d.len = (packF (T.take k)).length ∧ SW b w0 (bxOb d (packF (T.take k)) :: l) wr) (fun _ s11 _ => T.length - (intOf s11).toNat)
  case atStart => exact ⟨0, ⟨some ⟨w.heap.size, 0, none⟩, 4, 4⟩, Nat.zero_le _, rfl, rfl, rfl, S0.out⟩
  case round =>
    obtain ⟨k, d, hk, rfl, rfl, hdl, hs⟩ := hrel
    have S1 := Lib.hid hs
    have hdm : d.len ≤ 1048576 := by have := packF_le T k; omega
    have HDL := Lib.hid hdl
    have hfl := packF_le T k
    clear hs S0 hdl
    by_cases hlt : k < T.length
    · obtain ⟨⟨⟨i1, i2⟩, e⟩, hte⟩ : ∃ e, T.getD k ch0 = e := ⟨_, rfl⟩
      have hmem : ((i1, i2), e) ∈ T := by rw [← hte]; exact getD_mem _ _ _ hlt
      have hoke := HOK.out _ hmem
      obtain ⟨rfl, rfl, hl1, hl2⟩ := okCH_eq hoke
      have HTK : Hid (packF (T.take (k + 1)) = packF (T.take k) ++ frameP (((fpSum e.bs : Nat), (e.bs.length : Nat)), e)) := by rw [Hid, take_snoc _ ch0 _ hlt, hte, packF_snoc]
      obtain ⟨gT, o, rfl, hgT, c0, c1, c2, hbs⟩ := cx_at (S1.out.1.holds _ (.tail _ HC.out)) hlt hte
      have HBS := Lib.hid hbs
      have S2 := Lib.hid (S1.out.newCell 42 #[.int .u64 ((fpSum e.bs : Nat) : Int), .int .i64 ((e.bs.length : Nat) : Int), .slice e.d.A e.bs.length e.d.cap])
      have HRI := Lib.hid (right_any ((fpSum e.bs : Nat) : Int) ((e.bs.length : Nat) : Int) e _ ⟨hbs.1.on (bel1q wr (.cells #[.int .u64 ((fpSum e.bs : Nat) : Int), .int .i64 ((e.bs.length : Nat) : Int), .slice e.d.A e.bs.length e.d.cap] 42)), hbs.2⟩ (by omega))
      rw [hoke] at HRI
      clear hbs hoke hmem
      go_wp2_with (go_at_call 89; (with_reducible refine HRI.out.mono ?_); refine halt_ ?_)
      rintro e9 w2 ⟨rfl, hb2⟩
      have S3 := Lib.hid (S2.out.on hb2)
      have b0 := (S3.out.cell 0 rfl).cell 0
      have b1 := (S3.out.cell 0 rfl).cell 1
      have hlX := (S3.out.cell 0 rfl).lt
      have HTE := Lib.hid hte
      clear hb2 S2 S1 c0 c1 c2 HRI hgT hte
      by_cases hk0 : k = 0
      · have hkd : decide (0 < k) = false := by simp [hk0]
        clear hk0
        go_wp2_with fail
        refine wp_region_ext (by kernel_rfl) (by kernel_rfl) ?_
        repeat (go_big_quiet_step (fail))
        refine wpQuiet_nil ?_
        intro w4 hb4
        have S4 := Lib.hid (S3.out.on hb4)
        clear hb4 S3 b0 b1 hlX
        have hlen9 : ¬ 1048576 < d.len := by omega
        have S5 : Hid (SW b w0 (bxOb d (packF (T.take k)) :: cellOb wr.heap.size 42 #[.int .u64 ((fpSum e.bs : Nat) : Int), .int .i64 ((e.bs.length : Nat) : Int), .slice e.d.A e.bs.length e.d.cap] :: l) w4) := SW.front (pre := [_, _]) S4.out [1, 0] (n := 2) rfl (by decide)
        have HP := Lib.hid (sb_one w4 1 1 (by decide))
        clear S4
        go_wp2_with (at_builtin; refine halt_q ?_)
        refine wpList_bufX (S5.out.alloc _) rfl _ _ rfl rfl (some ⟨w4.heap.size, 0, none⟩) 1 1 [1] rfl rfl (by decide) HP.out (by have := HDL.out; omega) ?_
        intro d5 w5 s5
        have S6 := Lib.hid s5
        have hfr : (packF (T.take k)).length + (1 + (putU e.bs.length).length + (putU (fpSum e.bs)).length + e.bs.length) ≤ 1048576 := by
          have h1 := packF_le T (k + 1)
          rw [HTK.out] at h1
          simp only [frameP, List.length_append, List.length_singleton] at h1
          omega
        have f1 := (S6.out.cell 1 rfl).cell 1
        have HP1 := Lib.hid (PutUint_nil e.bs.length w5 (by omega))
        clear s5 S5 HP
        unfold vB
        go_wp2_with (go_at_call 43; (with_reducible refine HP1.out.mono ?_); refine halt_ ?_)
        rintro e6 w6 ⟨d6, rfl, hr6, _, hb6⟩
        have S7 := Lib.hid (S6.out.on hb6)
        have R6 := Lib.hid hr6
        clear S6 HP1 hr6 hb6 f1
        unfold vB
        go_wp2_with (at_builtin; refine halt_q ?_)
        refine wpList_bufS S7.out rfl _ _ rfl rfl d6.A d6.len d6.cap (putU e.bs.length) rfl R6.out.1 R6.out.src (by rw [← R6.out.1]; simp only [List.length_append, List.length_singleton]; omega) ?_
        intro d7 w7 s7
        have S8 := Lib.hid s7
        have f0 := (S8.out.cell 1 rfl).cell 0
        have HP2 := Lib.hid (PutUint_nil (fpSum e.bs) w7 (by have := fpSum_lt e.bs; unfold pP at this; omega))
        clear S7 s7 R6
        unfold vB
        go_wp2_with (go_at_call 43; (with_reducible refine HP2.out.mono ?_); refine halt_ ?_)
        rintro e8 w8 ⟨d8, rfl, hr8, _, hb8⟩
        have S9 := Lib.hid (S8.out.on hb8)
        have R8 := Lib.hid hr8
        clear S8 HP2 hr8 hb8 f0
        unfold vB
        go_wp2_with (at_builtin; refine halt_q ?_)
        refine wpList_bufS S9.out rfl _ _ rfl rfl d8.A d8.len d8.cap (putU (fpSum e.bs)) rfl R8.out.1 R8.out.src (by rw [← R8.out.1]; simp only [List.length_append, List.length_singleton]; omega) ?_
        intro d9 w9 s9
        have SA := Lib.hid s9
        have f2 := (SA.out.cell 1 rfl).cell 2
        have hm9 : ((((fpSum e.bs : Nat) : Int), ((e.bs.length : Nat) : Int)), e) ∈ T := by rw [← HTE.out]; exact getD_mem _ _ _ hlt
        have HSB := Lib.hid (((SA.out.1.holds _ (.tail _ (.tail _ HC.out))).2 _ hm9).1.sb)
        clear S9 s9 R8
        unfold vB
        go_wp2_with (at_builtin; refine halt_q ?_)
        refine wpList_bufS SA.out rfl _ _ rfl rfl e.d.A e.bs.length e.d.cap e.bs rfl rfl HSB.out (by simp only [List.length_append, List.length_singleton]; omega) ?_
        intro d10 w10 s10
        have SB : Hid (SW b w0 (bufOb d10 (packF (T.take (k + 1))) :: l) w10) := by
          have h1 := SW.sub s10 (l' := bufOb d10 _ :: l) (.cons_cons _ (.cons _ (List.Sublist.refl _)))
          rw [Hid, HTK.out, frameP, ← List.append_assoc, ← List.append_assoc, ← List.append_assoc]
          exact h1
        have HD10 : Hid (d10.len = (packF (T.take (k + 1))).length) := ((SB.out.get 0 (o := bufOb d10 (packF (T.take (k + 1)))) rfl : RB w10 d10 (packF (T.take (k + 1)))).1).symm
        clear SA s10 HSB f2
        unfold vB
        go_wp2_with fail
        go_roundw
        case rel => exact ⟨k + 1, d10, by omega, by go_num, rfl, HD10.out, SB.out.bufX⟩
        case measure => simp [intOf]; omega
      · have hkd : decide (0 < k) = true := by simp; omega
        have hk1 : 0 < k := by omega
        have ek : ((k : Int) - 1).toNat = k - 1 := by omega
        obtain ⟨⟨⟨p1, p2⟩, pe⟩, hpe⟩ : ∃ e, T.getD (k - 1) ch0 = e := ⟨_, rfl⟩
        obtain ⟨g2, o2, e7, hgT2, a0, a1, _, _⟩ := cx_at (S3.out.1.holds _ (.tail _ (.tail _ HC.out))) (show k - 1 < T.length by omega) hpe
        injection e7 with e7
        injection e7 with e7 e8 _
        subst e7 e8
        have hlo : ltID (p1, p2) (((fpSum e.bs : Nat) : Int), ((e.bs.length : Nat) : Int)) = true := by
          have := List.pairwise_iff_getElem.1 HA.out (k - 1) k (by omega) hlt (by omega)
          have e1 : T[k - 1] = ((p1, p2), pe) := by rw [← hpe, List.getD_eq_getElem?_getD, List.getElem?_eq_getElem (by omega)]; rfl
          have e2 : T[k] = ((((fpSum e.bs : Nat) : Int), ((e.bs.length : Nat) : Int)), e) := by rw [← HTE.out, List.getD_eq_getElem?_getD, List.getElem?_eq_getElem hlt]; rfl
          rw [e1, e2] at this
          exact this
        have hcm := cmpID_lt hlo
        have hcb := cmpID_bd (p1, p2) (((fpSum e.bs : Nat) : Int), ((e.bs.length : Nat) : Int))
        have HCM := Lib.hid (fun W => pcmp_any p1 p2 ((fpSum e.bs : Nat) : Int) ((e.bs.length : Nat) : Int) W)
        generalize cmpID (p1, p2) (((fpSum e.bs : Nat) : Int), ((e.bs.length : Nat) : Int)) = cm at hcm hcb HCM
        clear hlo hk0 hpe
        go_wp2_with fail
        refine wp_region_ext (by kernel_rfl) (by kernel_rfl) ?_
        repeat (go_big_quiet_step ((go_at_call 90; exact ext_call (HCM.out _))))
        refine wpQuiet_nil ?_
        intro w4 hb4
        have S4 := Lib.hid (S3.out.on hb4)
        clear hb4 S3 b0 b1 hlX a0 a1 HCM hgT2
        have hlen9 : ¬ 1048576 < d.len := by omega
        have S5 : Hid (SW b w0 (bxOb d (packF (T.take k)) :: cellOb wr.heap.size 42 #[.int .u64 ((fpSum e.bs : Nat) : Int), .int .i64 ((e.bs.length : Nat) : Int), .slice e.d.A e.bs.length e.d.cap] :: l) w4) := SW.front (pre := [_, _]) S4.out [1, 0] (n := 2) rfl (by decide)
        have HP := Lib.hid (sb_one w4 1 1 (by decide))
        clear S4
        go_wp2_with (at_builtin; refine halt_q ?_)
        refine wpList_bufX (S5.out.alloc _) rfl _ _ rfl rfl (some ⟨w4.heap.size, 0, none⟩) 1 1 [1] rfl rfl (by decide) HP.out (by have := HDL.out; omega) ?_
        intro d5 w5 s5
        have S6 := Lib.hid s5
        have hfr : (packF (T.take k)).length + (1 + (putU e.bs.length).length + (putU (fpSum e.bs)).length + e.bs.length) ≤ 1048576 := by
          have h1 := packF_le T (k + 1)
          rw [HTK.out] at h1
          simp only [frameP, List.length_append, List.length_singleton] at h1
          omega
        have f1 := (S6.out.cell 1 rfl).cell 1
        have HP1 := Lib.hid (PutUint_nil e.bs.length w5 (by omega))
        clear s5 S5 HP
        unfold vB
        go_wp2_with (go_at_call 43; (with_reducible refine HP1.out.mono ?_); refine halt_ ?_)
        rintro e6 w6 ⟨d6, rfl, hr6, _, hb6⟩
        have S7 := Lib.hid (S6.out.on hb6)
        have R6 := Lib.hid hr6
        clear S6 HP1 hr6 hb6 f1
        unfold vB
        go_wp2_with (at_builtin; refine halt_q ?_)
        refine wpList_bufS S7.out rfl _ _ rfl rfl d6.A d6.len d6.cap (putU e.bs.length) rfl R6.out.1 R6.out.src (by rw [← R6.out.1]; simp only [List.length_append, List.length_singleton]; omega) ?_
        intro d7 w7 s7
        have S8 := Lib.hid s7
        have f0 := (S8.out.cell 1 rfl).cell 0
        have HP2 := Lib.hid (PutUint_nil (fpSum e.bs) w7 (by have := fpSum_lt e.bs; unfold pP at this; omega))
        clear S7 s7 R6
        unfold vB
        go_wp2_with (go_at_call 43; (with_reducible refine HP2.out.mono ?_); refine halt_ ?_)
        rintro e8 w8 ⟨d8, rfl, hr8, _, hb8⟩
        have S9 := Lib.hid (S8.out.on hb8)
        have R8 := Lib.hid hr8
        clear S8 HP2 hr8 hb8 f0
        unfold vB
        go_wp2_with (at_builtin; refine halt_q ?_)
        refine wpList_bufS S9.out rfl _ _ rfl rfl d8.A d8.len d8.cap (putU (fpSum e.bs)) rfl R8.out.1 R8.out.src (by rw [← R8.out.1]; simp only [List.length_append, List.length_singleton]; omega) ?_
        intro d9 w9 s9
        have SA := Lib.hid s9
        have f2 := (SA.out.cell 1 rfl).cell 2
        have hm9 : ((((fpSum e.bs : Nat) : Int), ((e.bs.length : Nat) : Int)), e) ∈ T := by rw [← HTE.out]; exact getD_mem _ _ _ hlt
        have HSB := Lib.hid (((SA.out.1.holds _ (.tail _ (.tail _ HC.out))).2 _ hm9).1.sb)
        clear S9 s9 R8
        unfold vB
        go_wp2_with (at_builtin; refine halt_q ?_)
        refine wpList_bufS SA.out rfl _ _ rfl rfl e.d.A e.bs.length e.d.cap e.bs rfl rfl HSB.out (by simp only [List.length_append, List.length_singleton]; omega) ?_
        intro d10 w10 s10
        have SB : Hid (SW b w0 (bufOb d10 (packF (T.take (k + 1))) :: l) w10) := by
          have h1 := SW.sub s10 (l' := bufOb d10 _ :: l) (.cons_cons _ (.cons _ (List.Sublist.refl _)))
          rw [Hid, HTK.out, frameP, ← List.append_assoc, ← List.append_assoc, ← List.append_assoc]
          exact h1
        have HD10 : Hid (d10.len = (packF (T.take (k + 1))).length) := ((SB.out.get 0 (o := bufOb d10 (packF (T.take (k + 1)))) rfl : RB w10 d10 (packF (T.take (k + 1)))).1).symm
        clear SA s10 HSB f2
        unfold vB
        go_wp2_with fail
        go_roundw
        case rel => exact ⟨k + 1, d10, by omega, by go_num, rfl, HD10.out, SB.out.bufX⟩
        case measure => simp [intOf]; omega
    · obtain rfl : k = T.length := by omega
      rw [List.take_length] at S1 HDL
      have hdl := HDL.out
      have HP := Lib.hid (sb_one wr 0 0 (by decide))
      have HFL2 := HFL.out
      go_wp2_with (at_builtin; refine halt_q ?_)
      refine wpList_bufX (S1.out.alloc _) rfl _ _ rfl rfl (some ⟨wr.heap.size, 0, none⟩) 1 1 [0] rfl rfl (by decide) HP.out (by omega) ?_
      intro d5 w5 s5
      have S6 := Lib.hid s5
      have HP1 := Lib.hid (PutUint_nil T.length w5 (by omega))
      clear s5 S1 HP hdl HDL
      unfold vB
      go_wp2_with (go_at_call 43; (with_reducible refine HP1.out.mono ?_); refine halt_ ?_)
      rintro e6 w6 ⟨d6, rfl, hr6, _, hb6⟩
      have S7 := Lib.hid (S6.out.on hb6)
      have R6 := Lib.hid hr6
      clear S6 HP1 hr6 hb6
      unfold vB
      go_wp2_with (at_builtin; refine halt_q ?_)
      refine wpList_bufS S7.out rfl _ _ rfl rfl d6.A d6.len d6.cap (putU T.length) rfl R6.out.1 R6.out.src (by rw [← R6.out.1]; simp only [List.length_append, List.length_singleton]; omega) ?_
      intro d7 w7 s7
      have S8 : Hid (SW b w0 (bufOb d7 (packB T) :: l) w7) := s7
      have HBL : Hid ((packB T).length ≤ 1048576) := by
        rw [Hid, packB]
        simp only [List.length_append, List.length_singleton]
        omega
      have R7 : Hid (RB w7 d7 (packB T)) := S8.out.get 0 (o := bufOb d7 (packB T)) rfl
      have HS : Hid (Calls Tryz.prog 77 #[.slice d7.A d7.len d7.cap] w7 (fun e w' => e = .returned (.int .u64 ((fpSum (packB T) : Nat) : Int)) ∧ w7 = w')) := by
        rw [Hid, ← R7.out.1]
        exact Sum_any d7.A d7.cap (packB T) w7 R7.out.rs (by have := HBL.out; omega)
      clear S7 s7 R6
      unfold vB
      go_wp2_with (go_at_call 77; (with_reducible refine HS.out.mono ?_); refine halt_ ?_)
      rintro e8 w8 ⟨rfl, rfl⟩
      have HP2 := Lib.hid (PutUint_nil (fpSum (packB T)) w7 (by have := fpSum_lt (packB T); unfold pP at this; omega))
      go_wp2_with (go_at_call 43; (with_reducible refine HP2.out.mono ?_); refine halt_ ?_)
      rintro e8 w8 ⟨d8, rfl, hr8, _, hb8⟩
      have S9 := Lib.hid (S8.out.on hb8)
      have R8 := Lib.hid hr8
      clear S8 HP2 hr8 hb8 HS R7
      unfold vB
      go_wp2_with (at_builtin; refine halt_q ?_)
      refine wpList_bufS S9.out rfl _ _ rfl rfl d8.A d8.len d8.cap (putU (fpSum (packB T))) rfl R8.out.1 R8.out.src (by rw [← R8.out.1]; have := HBL.out; omega) ?_
      intro d9 w9 s9
      have SA : Hid (SW b w0 (bufOb d9 (packP T) :: l) w9) := s9
      have hd9 : d9.len ≤ 1048576 := by
        have h1 : RB w9 d9 (packP T) := SA.out.get 0 (o := bufOb d9 (packP T)) rfl
        rw [← h1.1]
        exact HL.out
      clear S9 s9 R8
      unfold vB
      go_wp2_with fail
      go_ret2
      exact ⟨d9, rfl, SA.out⟩
end
end Go.Proofs.YtmiknfneeipkeaaGreat
namespace Go.Proofs.YtmiknfneeipkeaaGreat
open Go.RowKit Go.MapKept Go.ChangeMaps Go.Shelf Go.Sort
theorem SW.newRowOf {b : Nat} {w0 w : World} {l : List Ob} (h : SW b w0 l w) (e : TypeId) (k n : Nat) (xs : Array Value) (hx : xs.size = n * k) (hn : n ≤ maxLen) : SW b w0 (rowOb e k (.slice (some ⟨w.heap.size, 0, none⟩) n n) n xs.toList :: l) (w.alloc (.cells xs e)) := by
  have hown : (w.alloc (.cells xs e)).ownsRow 0 e k (.slice (some ⟨w.heap.size, 0, none⟩) n n) n xs.toList := by
    refine ⟨by simpa using hx, .inr ⟨w.heap.size, n, xs, rfl, Nat.zero_le _, IsB.new w e xs, Nat.le_refl _, hn, hx, ?_⟩⟩
    rw [List.take_of_length_le (by simp [hx])]
  have := h.1.add (o' := rowOb e k (.slice (some ⟨w.heap.size, 0, none⟩) n n) n xs.toList) (bel1q w (.cells xs e)) hown (fun i hi => by
    have e1 : w.heap.size = i := by
      have hi : (Value.slice (some ⟨w.heap.size, 0, none⟩) n n).ownBlock = some i := hi
      injection hi
    simp [← e1]) (fun i hi => hi.elim) (fun i hi => hi.elim)
  exact ⟨this.1, h.2.trans this.2⟩
def numsM (m : Man) : List Int := [m.size, (m.ids.length : Int)] ++ m.ids.flatMap (fun i => [i.2, i.1])
def manB (m : Man) : List UInt8 := (numsM m).flatMap (fun n => putU n.toNat)
def encN (n : Int) : List Value := [.int .u64 n]
theorem encN_len (n : Int) : (encN n).length = 1 := rfl
theorem info34 : (Tryz.prog.info? 34).map (fun i => (i.zero, i.size, i.bytes)) = some (some (.int .u64 0), 1, 8) := by kernel_rfl
end Go.Proofs.YtmiknfneeipkeaaGreat
namespace Go.Proofs.YtmiknfneeipkeaaGreat
open Go.RowKit Go.MapKept Go.ChangeMaps Go.Shelf Go.Sort
attribute [local go_sem] wext_cell
theorem numsM_take (m : Man) (k : Nat) (hk : k < m.ids.length) : (m.ids.take (k + 1)).flatMap (fun i => [i.2, i.1]) = (m.ids.take k).flatMap (fun i => [i.2, i.1]) ++ [(m.ids.getD k id0).2, (m.ids.getD k id0).1] := by
  rw [take_id hk]
  simp
theorem nums_len (l : List ID) : (l.flatMap (fun i => [i.2, i.1])).length = 2 * l.length := by
  induction l with
  | nil => rfl
  | cons a l ih =>
    rw [List.flatMap_cons, List.length_append, ih, List.length_cons]
    simp
    omega
theorem numsM_bd {m : Man} (he : manE m = 0) (hok : ∀ i ∈ m.ids, okID i) : ∀ n ∈ numsM m, 0 ≤ n ∧ n < 2305843009213693952 := by
  have hv := manE_zero he
  have h1 := sum_take_bd (l := m.ids) (k := m.ids.length) (by rw [List.take_length]; exact hv.1)
  rw [List.take_length] at h1
  have hml := manE_len he
  intro n hn
  rcases List.mem_append.1 hn with h | h
  · simp only [List.mem_cons, List.not_mem_nil, or_false] at h
    rcases h with rfl | rfl
    · omega
    · omega
  · obtain ⟨i, hi, h⟩ := List.mem_flatMap.1 h
    have hc := List.all_eq_true.1 hv.1 _ hi
    have h2 := chunkB_sound hc
    have h3 := validB_bd (chunkB_valid hc)
    have h4 := okID_pos (hok i hi)
    simp only [List.mem_cons, List.not_mem_nil, or_false] at h
    rcases h with rfl | rfl <;> omega
theorem putU_ten {v : Nat} (h : v < 18446744073709551616) : (putU v).length ≤ 10 := putU_len (k := 9) (Nat.lt_of_lt_of_le h (by decide))
theorem nums_bytes (l : List Int) (h : ∀ n ∈ l, 0 ≤ n ∧ n < 2305843009213693952) : (l.flatMap (fun n => putU n.toNat)).length ≤ 10 * l.length := by
  induction l with
  | nil => simp
  | cons a l ih =>
    have h1 := ih (fun n hn => h n (List.mem_cons_of_mem _ hn))
    have h2 := putU_ten (v := a.toNat) (by have := h a (.head _); omega)
    rw [List.flatMap_cons, List.length_append, List.length_cons]
    omega
set_option maxRecDepth 100000 in
set_option maxHeartbeats 8000000 in
theorem manEnc_any (x : Nat) (m : Man) (A : Option Addr) (c : Nat) (w : World) (hr : RdID w x A m.ids) (he : manE m = 0) (hok : ∀ i ∈ m.ids, okID i) :
    Calls Tryz.prog 44 #[.agg #[.int .i64 m.size, .slice A m.ids.length c]] w (fun e w' => ∃ d, e = .returned (.tuple #[vB d, .int .i64 0]) ∧ Buf w w' d (manB m)) := by
  have Hr := Lib.hid hr
  have Hok := Lib.hid hok
  have HE := Lib.hid he
  have hml := manE_len he
  have hv := manE_zero he
  have hs0 : 0 ≤ m.size ∧ m.size ≤ 1048576 := by
    have h1 := sum_take_bd (l := m.ids) (k := m.ids.length) (by rw [List.take_length]; exact hv.1)
    rw [List.take_length] at h1
    exact ⟨by rw [hv.2.1]; exact h1.1, hv.2.2⟩
  have S0 := Lib.hid ((SW.refl (Sep.nil w (Nat.le_refl _))).newCell 33 #[.int .i64 m.size, .slice A m.ids.length c])
  have HC := Lib.hid (manCheck_any x m A c _ (Hr.out.on S0.out.2) (by omega))
  rw [he] at HC
  obtain ⟨i1, gi, gz0, gz1, gz2⟩ := info_parts info34
  clear hr hok he hv
  go_enter Tryz.func44, Tryz.ntmps44
  go_wp2_with (go_at_call 74; (with_reducible refine HC.out.mono ?_); refine halt_ ?_)
  rintro e w1 ⟨rfl, hb1⟩
  have S1 := Lib.hid (S0.out.on hb1)
  have e0 := (S1.out.cell 0 rfl).cell 0
  have e1 := (S1.out.cell 0 rfl).cell 1
  clear hb1 S0 HC
  go_upto_region 5 with fail
  have S2 : Hid (SW w.heap.size w (rowOb 34 1 (.slice (some ⟨w1.heap.size, 0, none⟩) 2 2) 2 (([m.size, (m.ids.length : Int)] ++ (m.ids.take 0).flatMap (fun i => [i.2, i.1])).flatMap encN) :: cellOb w.heap.size 33 #[.int .i64 m.size, .slice A m.ids.length c] :: []) (w1.alloc (.cells #[.int .u64 m.size, .int .u64 (m.ids.length : Int)] 34))) := S1.out.newRowOf 34 1 2 #[.int .u64 m.size, .int .u64 (m.ids.length : Int)] rfl (by unfold maxLen; omega)
  obtain ⟨w2, HW⟩ : ∃ W, Hid (w1.alloc (.cells #[.int .u64 m.size, .int .u64 (m.ids.length : Int)] 34) = W) := ⟨_, rfl⟩
  rw [HW.out] at S2 ⊢
  clear HW e0 e1 S1
  have e1 := (S2.out.cell 1 rfl).cell 1
  go_wp2_with fail
  go_loopw [5, 27] (fun s5 s27 wr => ∃ (k : Nat) (B : Option Addr) (bc : Nat), k ≤ m.ids.length ∧ s27 = .int .i64 (k : Int) ∧ s5 = .slice B (2 + 2 * k) bc ∧ SW w.heap.size w (rowOb 34 1 (.slice B (2 + 2 * k) bc) (2 + 2 * k) (([m.size, (m.ids.length : Int)] ++ (m.ids.take k).flatMap (fun i => [i.2, i.1])).flatMap encN) :: cellOb w.heap.size 33 #[.int .i64 m.size, .slice A m.ids.length c] :: []) wr) (fun _ s27 _ => m.ids.length - (intOf s27).toNat)
  case atStart => exact ⟨0, some ⟨w1.heap.size, 0, none⟩, 2, Nat.zero_le _, rfl, rfl, S2.out⟩
  case round =>
    obtain ⟨k, B, bc, hk, rfl, rfl, hs⟩ := hrel
    have S3 := Lib.hid hs
    clear hs S2 e1
    by_cases hlt : k < m.ids.length
    · obtain ⟨j1, j2, HI⟩ : ∃ i1 i2, Hid (m.ids.getD k id0 = (i1, i2)) := ⟨_, _, rfl⟩
      have hmem := getD_mem m.ids id0 k hlt
      rw [HI.out] at hmem
      have hch := chunkB_sound (List.all_eq_true.1 (manE_zero HE.out).1 _ hmem)
      simp only at hch
      have HT := Lib.hid (numsM_take m k hlt)
      rw [HI.out] at HT
      obtain ⟨gb, o, rfl, hB, hne, hc⟩ := Hr.out (by omega)
      have d0 : wr.cell? ⟨gb, o + k * 2, none⟩ = some (.int .u64 j1) := by rw [S3.out.2.cell (p := ⟨gb, o + k * 2, none⟩) hB]; exact hc k hlt 0 _ (by rw [show m.ids.getD k (0, 0) = (j1, j2) from HI.out]; rfl)
      have d1 : wr.cell? ⟨gb, o + k * 2 + 1, none⟩ = some (.int .i64 j2) := by rw [S3.out.2.cell (p := ⟨gb, o + k * 2 + 1, none⟩) hB]; exact hc k hlt 1 _ (by rw [show m.ids.getD k (0, 0) = (j1, j2) from HI.out]; rfl)
      clear hc hmem
      have S4 := Lib.hid ((S3.out.newCell 36 #[.int .u64 j1, .int .i64 j2]).alloc (.cells #[.int .u64 j2, .int .u64 j1] 34))
      go_wp2_with (at_builtin; (refine wpList_rowMO (t := 151) (e := 34) (size := 1) (bytes := 8) (i := i1) S4.out 1 rfl (by rfl) (.tmp 31) (.tmp 37) (by rfl) Tryz.underlying151 gi gz0 gz1 gz2 rfl (by omega) (by rfl) (some ⟨wr.heap.size + 1, 0, none⟩) 2 2 [.int .u64 j2, .int .u64 j1] (by rfl) rfl (fun _ => ⟨_, rfl, two_new _ _ _ _ _ (by simp)⟩) (by intro u hu; simp at hu; rcases hu with rfl | rfl <;> rfl) (by unfold maxLen; omega) (by omega) ?_); refine halt_ ?_)
      intro v5 w5 s5
      obtain ⟨g5, c5, rfl⟩ := own_some (s5.get 1 rfl) (by omega)
      have S5 : Hid (SW w.heap.size w (rowOb 34 1 (.slice (some ⟨g5, 0, none⟩) (2 + 2 * (k + 1)) c5) (2 + 2 * (k + 1)) (([m.size, (m.ids.length : Int)] ++ (m.ids.take (k + 1)).flatMap (fun i => [i.2, i.1])).flatMap encN) :: cellOb w.heap.size 33 #[.int .i64 m.size, .slice (some ⟨gb, o, none⟩) m.ids.length c] :: []) w5) := by
        rw [Hid, HT.out, ← List.append_assoc, List.flatMap_append, show 2 + 2 * (k + 1) = 2 + 2 * k + 2 by omega]
        exact s5.tail
      clear s5 S4 d0 d1
      go_wp2_with fail
      go_roundw
      case rel => exact ⟨k + 1, some ⟨g5, 0, none⟩, c5, by omega, by go_num, by rw [show 2 + 2 * (k + 1) = 2 + 2 * k + 2 by omega], S5.out⟩
      case measure => simp [intOf]; omega
    · obtain rfl : k = m.ids.length := by omega
      rw [List.take_length] at S3
      have HNM : Hid ([m.size, (m.ids.length : Int)] ++ m.ids.flatMap (fun i => [i.2, i.1]) = numsM m) := rfl
      rw [HNM.out] at S3
      obtain ⟨L, HL⟩ : ∃ x, Hid (2 + 2 * m.ids.length = x) := ⟨_, rfl⟩
      have hLn : L ≤ 2050 := by have := HL.out; omega
      have HLN : Hid ((numsM m).length = L) := by
        rw [Hid, ← HL.out]
        rw [numsM, List.length_append, nums_len]
        rfl
      rw [HL.out] at S3 ⊢
      have S4 : Hid (SW w.heap.size w (bufOb ⟨none, 0, 0⟩ [] :: rowOb 34 1 (.slice B L bc) L ((numsM m).flatMap encN) :: []) wr) := (SW.sub S3.out (l' := [rowOb 34 1 (.slice B L bc) L ((numsM m).flatMap encN)]) (.cons_cons _ (.cons _ (List.Sublist.refl _)))).newBuT (Below.refl _ _) ⟨rfl, Nat.le_refl _, (fun _ => rfl), (fun ad e => by cases e)⟩ (fun g hg => by cases hg)
      clear S3
      go_wp2_with fail
      go_loopw [8, 42] (fun s8 s42 wr => ∃ (j : Nat) (d : BD), j ≤ L ∧ s42 = .int .i64 (j : Int) ∧ s8 = .slice d.A d.len d.cap ∧ SW w.heap.size w (bufOb d (((numsM m).take j).flatMap (fun n => putU n.toNat)) :: rowOb 34 1 (.slice B L bc) L ((numsM m).flatMap encN) :: []) wr) (fun _ s42 _ => L - (intOf s42).toNat)
      case atStart => exact ⟨0, ⟨none, 0, 0⟩, Nat.zero_le _, rfl, rfl, S4.out⟩
      case round =>
        obtain ⟨j, d, hj, rfl, rfl, hs⟩ := hrel
        have S5 := Lib.hid hs
        clear hs S4
        by_cases hlt2 : j < L
        · obtain ⟨n, hnj⟩ : ∃ n, (numsM m).getD j 0 = n := ⟨_, rfl⟩
          have hnm : n ∈ numsM m := by rw [← hnj]; exact getD_mem _ _ _ (by rw [HLN.out]; exact hlt2)
          have hnb := numsM_bd HE.out Hok.out n hnm
          obtain ⟨v, rfl⟩ : ∃ v : Nat, n = (v : Int) := ⟨n.toNat, by omega⟩
          have HTJ : Hid (((numsM m).take (j + 1)).flatMap (fun n => putU n.toNat) = ((numsM m).take j).flatMap (fun n => putU n.toNat) ++ putU v) := by
            rw [Hid, take_snoc _ 0 _ (by rw [HLN.out]; exact hlt2), hnj, List.flatMap_append]
            simp
          obtain ⟨gB, cB, e7⟩ := own_some (S5.out.get 1 rfl) (by omega)
          injection e7 with e7 e8 e9
          clear e8 e9
          subst e7
          have hrow : wr.ownsRow 0 34 1 (.slice (some ⟨gB, 0, none⟩) L bc) L ((numsM m).flatMap encN) := S5.out.get 1 rfl
          have c0 : wr.cell? ⟨gB, j, none⟩ = some (.int .u64 (v : Int)) := by
            have h1 := hrow.cellAt j (by omega)
            have h2 := flat_at encN_len 0 (numsM m) j 0 (by rw [HLN.out]; exact hlt2) (by omega)
            rw [Nat.mul_one, Nat.add_zero] at h2
            rw [h1, h2, hnj]
            rfl
          have HP1 := Lib.hid (PutUint_nil v wr (by omega))
          have hdb : (((numsM m).take j).flatMap (fun n => putU n.toNat)).length + (putU v).length ≤ 1099511627776 := by
            have h1 := nums_bytes ((numsM m).take j) (fun n hn => numsM_bd HE.out Hok.out n (List.mem_of_mem_take hn))
            have h2 := putU_ten (v := v) (by omega)
            rw [List.length_take] at h1
            omega
          clear hrow hnm hnj
          go_wp2_with (go_at_call 43; (with_reducible refine HP1.out.mono ?_); refine halt_ ?_)
          rintro e6 w6 ⟨d6, rfl, hr6, _, hb6⟩
          have S7 := Lib.hid (S5.out.on hb6)
          have R6 := Lib.hid hr6
          clear S5 HP1 hr6 hb6 c0
          unfold vB
          go_wp2_with (at_builtin; refine halt_q ?_)
          refine wpList_bufS S7.out rfl _ _ rfl rfl d6.A d6.len d6.cap (putU v) rfl R6.out.1 R6.out.src (by rw [← R6.out.1]; exact hdb) ?_
          intro d7 w7 s7
          have S8 : Hid (SW w.heap.size w (bufOb d7 (((numsM m).take (j + 1)).flatMap (fun n => putU n.toNat)) :: rowOb 34 1 (.slice (some ⟨gB, 0, none⟩) L bc) L ((numsM m).flatMap encN) :: []) w7) := by
            rw [Hid, HTJ.out]
            exact s7
          clear s7 S7 R6
          unfold vB
          go_wp2_with fail
          go_roundw
          case rel => exact ⟨j + 1, d7, by omega, by go_num, rfl, S8.out⟩
          case measure => simp [intOf]; omega
        · obtain rfl : j = L := by omega
          have HB : Hid (((numsM m).take j).flatMap (fun n => putU n.toNat) = manB m) := by rw [Hid, ← HLN.out, List.take_length]; rfl
          rw [HB.out] at S5
          go_wp2_with fail
          go_ret2
          exact ⟨d, rfl, S5.out.get 0 (o := bufOb d (manB m)) rfl, (fun g hg => (S5.out.1.own _ (.head _) g hg).1), S5.out.2⟩
end Go.Proofs.YtmiknfneeipkeaaGreat
namespace Go.Proofs.YtmiknfneeipkeaaGreat
open Go.RowKit Go.MapKept Go.ChangeMaps Go.Shelf Go.Sort
theorem row_rdCH {w : World} {D : Option Addr} {S : List CH} {q dc : Nat} (hr : w.ownsRow 0 42 3 (.slice D q dc) q (S.flatMap encCH)) (hq : S.length = q) : Rd encCH 3 ch0 w w.heap.size D S := by
  intro hp
  have hx : ∀ g, D = some ⟨g, 0, none⟩ → g < w.heap.size := fun g e => (hr.lt g (by rw [e]; rfl)).2
  rcases hr.2 with ⟨hv, h0⟩ | ⟨g, cap, cur, hv, _⟩
  · omega
  · injection hv with e1 e2 e3
    subst e1
    subst e3
    refine ⟨g, 0, rfl, hx g rfl, by have := hx g rfl; omega, fun j hj i v hi => ?_⟩
    have hi2 : i < 3 := by
      have := (List.getElem?_eq_some_iff.1 hi).1
      rwa [encCH_len] at this
    rw [Nat.zero_add, hr.cellAt (j * 3 + i) (by rw [← hq]; omega), flat_at encCH_len ch0 S j i hj hi2]
    exact hi
theorem SW.rowCx {b : Nat} {w0 w : World} {l : List Ob} {D C : Option Addr} {S T : List CH} {q dc : Nat} (h : SW b w0 (rowOb 42 3 (.slice D q dc) q (S.flatMap encCH) :: l) w) (hc : cxOb C T ∈ l) (hq : S.length = q) (hs : ∀ e ∈ S, e ∈ T) : SW b w0 (cxOb D S :: l) w := by
  have hM := h.1.holds _ (List.mem_cons_of_mem _ hc)
  have h1 : SW b w0 (cxOb C T :: rowOb 42 3 (.slice D q dc) q (S.flatMap encCH) :: l) w := h.again (List.mem_cons_of_mem _ hc) (fun _ h => h) hM (fun _ h => h) (fun _ h => h)
  have hrow : w.ownsRow 0 42 3 (.slice D q dc) q (S.flatMap encCH) := h.get 0 rfl
  refine SW.fuse (pre := [_, _]) h1 ⟨row_rdCH hrow hq, fun e he => hM.2 e (hs e he)⟩ (fun _ h => h) (fun i hi => ?_)
  rcases hi with ⟨hp, o, e⟩ | ⟨e, he, hp, o, ho⟩
  · refine ⟨_, .tail _ (.head _), .inl ?_⟩
    show (Value.slice D q dc).ownBlock = some i
    rw [e]
    rfl
  · exact ⟨_, .head _, .inr (.inr ⟨e, hs e he, hp, o, ho⟩)⟩
theorem selR_mem {ids : List ID} {T : List CH} (ha : AllR ids T) : ∀ e ∈ selR ids T, e ∈ T := by
  intro e he
  obtain ⟨i, hi, rfl⟩ := List.mem_map.1 he
  obtain ⟨x, hx⟩ := Option.isSome_iff_exists.1 (ha i hi)
  rw [hx]
  exact (firstR_id hx).2.2
end Go.Proofs.YtmiknfneeipkeaaGreat
namespace Go.Proofs.YtmiknfneeipkeaaGreat
open Go.RowKit Go.MapKept Go.ChangeMaps Go.Shelf Go.Sort
def partB (m : Man) : List UInt8 := putU (manB m).length ++ manB m
def volH (n : Nat) (ys : List Man) : List UInt8 := [83, 89, 65, 82] ++ putU n ++ ys.flatMap partB
def volB (ys : List Man) (S : List CH) : List UInt8 := volH ys.length ys ++ packP S
theorem volH_snoc (n : Nat) (ys : List Man) (m : Man) : volH n (ys ++ [m]) = volH n ys ++ (putU (manB m).length ++ manB m) := by simp [volH, partB, List.append_assoc]
theorem numsM_len (m : Man) : (numsM m).length = 2 + 2 * m.ids.length := by
  rw [numsM, List.length_append, nums_len]
  rfl
theorem manB_len {m : Man} (he : manE m = 0) (hok : ∀ i ∈ m.ids, okID i) : (manB m).length ≤ 20500 := by
  have h1 := nums_bytes (numsM m) (numsM_bd he hok)
  have h2 := manE_len he
  rw [numsM_len] at h1
  have : (manB m).length = ((numsM m).flatMap (fun n => putU n.toNat)).length := rfl
  omega
end Go.Proofs.YtmiknfneeipkeaaGreat
namespace Go.Proofs.YtmiknfneeipkeaaGreat
open Go.RowKit Go.MapKept Go.ChangeMaps Go.Shelf Go.Sort
theorem mem_take_ix {α : Type} {l : List α} {j : Nat} {a : α} (d : α) (h : a ∈ l.take j) : ∃ i, i < j ∧ i < l.length ∧ l.getD i d = a := by
  obtain ⟨i, hi, rfl⟩ := List.getElem_of_mem h
  rw [List.length_take] at hi
  refine ⟨i, by omega, by omega, ?_⟩
  rw [List.getD_eq_getElem?_getD, List.getElem?_eq_getElem (by omega), List.getElem_take]
  rfl
theorem mem_drop_ix {α : Type} {l : List α} {j : Nat} {a : α} (d : α) (h : a ∈ l.drop j) : ∃ i, j ≤ i ∧ i < l.length ∧ l.getD i d = a := by
  obtain ⟨i, hi, rfl⟩ := List.getElem_of_mem h
  rw [List.length_drop] at hi
  refine ⟨j + i, by omega, by omega, ?_⟩
  rw [List.getD_eq_getElem?_getD, List.getElem?_eq_getElem (by omega), List.getElem_drop]
  rfl
theorem conM_len {ms ys : List Man} (h : ConM ms ys) : ys.length ≤ ms.length := by
  haveI : DecidableEq Man := fun _ _ => Classical.propDecidable _
  exact nodup_len (h.1.imp (fun {a b} hab e => by rw [e, ltID_irr] at hab; cases hab)) (fun m hm => (h.2 m).1 hm)
end Go.Proofs.YtmiknfneeipkeaaGreat
namespace Go.Proofs.YtmiknfneeipkeaaGreat
open Go.RowKit Go.MapKept Go.ChangeMaps Go.Shelf Go.Sort
theorem errM_each : ∀ {l : List Man}, errM l = 0 → ∀ m ∈ l, manE m = 0 := by
  intro l
  induction l with
  | nil => intro _ m hm; cases hm
  | cons a l ih =>
    intro h m hm
    have ha : manE a = 0 := by
      simp only [errM] at h
      split at h <;> simp_all
    have hl : errM l = 0 := by
      simp only [errM] at h
      rw [if_pos ha] at h
      exact h
    rcases List.mem_cons.1 hm with rfl | hm
    · exact ha
    · exact ih hl m hm
theorem selR_len (ids : List ID) (T : List CH) : (selR ids T).length = ids.length := by simp [selR]
theorem selR_ids {ids : List ID} {T : List CH} (ha : AllR ids T) : (selR ids T).map (·.1) = ids := by
  rw [selR, List.map_map]
  have : ∀ i ∈ ids, ((fun e : CH => e.1) ∘ fun i => (firstR T i).getD ch0) i = i := fun i hi => by
    obtain ⟨x, hx⟩ := Option.isSome_iff_exists.1 (ha i hi)
    simp only [Function.comp, hx, Option.getD_some]
    exact (firstR_id hx).1
  rw [List.map_congr_left this, List.map_id']
theorem selR_asc {ids : List ID} {T : List CH} (hs : AscI ids) (ha : AllR ids T) : (selR ids T).Pairwise (fun a b => ltID a.1 b.1 = true) := by
  have : ((selR ids T).map (·.1)).Pairwise (fun a b => ltID a b = true) := by rw [selR_ids ha]; exact hs
  exact List.pairwise_map.1 this
theorem selR_ok {ids : List ID} {T : List CH} (ha : AllR ids T) (hsz : ∀ i ∈ ids, 1 ≤ i.2 ∧ i.2 ≤ 8192) : ∀ e ∈ selR ids T, okCH e = true := by
  intro e he
  obtain ⟨i, hi, rfl⟩ := List.mem_map.1 he
  obtain ⟨x, hx⟩ := Option.isSome_iff_exists.1 (ha i hi)
  rw [hx, Option.getD_some]
  obtain ⟨h1, h2, _⟩ := firstR_id hx
  have h3 := hsz i hi
  rw [okCH, decide_eq_true_eq]
  subst h1
  exact ⟨h3.1, h3.2, h2⟩
theorem volH_le {ys : List Man} (hv : ∀ m ∈ ys, manE m = 0) (hok : ∀ m ∈ ys, ∀ i ∈ m.ids, okID i) (hn : ys.length ≤ 20) (k : Nat) : (volH k ys).length ≤ 4 + (putU k).length + 20510 * ys.length := by
  have : ∀ l : List Man, (∀ m ∈ l, manE m = 0) → (∀ m ∈ l, ∀ i ∈ m.ids, okID i) → (l.flatMap partB).length ≤ 20510 * l.length := by
    intro l
    induction l with
    | nil => intro _ _; simp
    | cons a l ih =>
      intro h1 h2
      have h3 := ih (fun m hm => h1 m (.tail _ hm)) (fun m hm => h2 m (.tail _ hm))
      have h4 := manB_len (h1 a (.head _)) (h2 a (.head _))
      have h5 := putU_ten (v := (manB a).length) (by omega)
      have h6 : (partB a).length = (putU (manB a).length).length + (manB a).length := by simp [partB]
      rw [List.flatMap_cons, List.length_append, List.length_cons, h6]
      omega
  have h := this ys hv hok
  rw [volH, List.length_append, List.length_append]
  simp only [List.length_cons, List.length_nil]
  omega
theorem RX.sb {w : World} {d : BD} {bs : List UInt8} (h : RX w d bs) : SB w d.A bs := h.elim (fun r => r.src) (fun r => r.2.2.2)
theorem volH_nil (n : Nat) : volH n [] = [83, 89, 65, 82] ++ putU n := by simp [volH]
end Go.Proofs.YtmiknfneeipkeaaGreat
namespace Go.Proofs.YtmiknfneeipkeaaGreat
open Go.RowKit Go.MapKept Go.ChangeMaps Go.Shelf Go.Sort
attribute [local go_sem] wext_cell
def volMk : List UInt8 := [83, 89, 65, 82]
abbrev MarkP (A : Option Addr) (c : Nat) (bs : List UInt8) (w : World) (e : Ending) (w' : World) : Prop :=
  Below w.heap.size w w' ∧ ((volMk <+: bs ∧ e = .returned (.tuple #[.slice (cutA A 4 c) (bs.drop 4).length (c - 4), .bool true])) ∨ (¬ volMk <+: bs ∧ ∃ v, e = .returned (.tuple #[v, .bool false])))
set_option maxRecDepth 100000 in
set_option maxHeartbeats 4000000 in
theorem readMark_any (A : Option Addr) (c : Nat) (bs : List UInt8) (w : World) (h : Vw w A c bs) : Calls Tryz.prog 146 #[.slice A bs.length c] w (MarkP A c bs w) := by
  have H := Lib.hid h
  have R0 : Hid (RX (w.alloc (.cells #[.int .u8 83, .int .u8 89, .int .u8 65, .int .u8 82] 5 (4, 5))) ⟨some ⟨w.heap.size, 0, none⟩, 4, 4⟩ volMk) := full_rx w #[.int .u8 83, .int .u8 89, .int .u8 65, .int .u8 82] (4, 5) volMk 4 rfl (by decide) rfl
  have B0 : Hid (Below w.heap.size w (w.alloc (.cells #[.int .u8 83, .int .u8 89, .int .u8 65, .int .u8 82] 5 (4, 5)))) := bel1q _ _
  have hcv := Lib.run_convert_bytes_const (P := Tryz.prog) w 40 5 #[.int .u8 83, .int .u8 89, .int .u8 65, .int .u8 82] 4 4 Tryz.underlying40 Tryz.underlying5
  have HB1 := Lib.hid (RS.bytesIn (h.on B0.out).1)
  have HB2 := Lib.hid (RS.bytesIn (SB.rs R0.out.sb))
  have HCP := Lib.hid (Tryz.bytes_CutPrefix_all A (some ⟨w.heap.size, 0, none⟩) bs.length c 4 4 (ints bs) (ints volMk) (w.alloc (.cells #[.int .u8 83, .int .u8 89, .int .u8 65, .int .u8 82] 5 (4, 5))) (ints_len bs) rfl h.2.2.1 HB1.out HB2.out)
  rw [trimPrefixV_eq (ints_len bs) HB1.out, bytes_ints, bytes_ints] at HCP
  clear h
  go_enter Tryz.func146, Tryz.ntmps146
  by_cases hp : volMk <+: bs
  · have e1 : Lib.hasPrefix bs volMk = true := by rw [Lib.hasPrefix, List.isPrefixOf_iff_prefix]; exact hp
    have hl := hp.length_le
    have hl4 : 4 ≤ bs.length := hl
    have hne : A ≠ none := fun e => by have := H.out.1.1 e; omega
    obtain ⟨ad, rfl⟩ : ∃ ad, A = some ad := by
      cases A with
      | none => exact absurd rfl hne
      | some ad => exact ⟨ad, rfl⟩
    obtain ⟨g, o, rfl, _⟩ := H.out.1.2 ad rfl (by omega)
    have HFV : Hid (Lib.fromV (some ⟨g, o, none⟩) bs.length c (ints volMk).length = .slice (cutA (some ⟨g, o, none⟩) 4 c) (bs.drop 4).length (c - 4)) := by
      rw [Hid, List.length_drop]
      simp [Lib.fromV, cutA, ints_len, volMk, Addr.add]
    rw [if_pos e1, e1, HFV.out] at HCP
    have HCG := Lib.hid (HCP.out.mono (R' := Gives _ _) (fun e w' h => ⟨h.1, by rw [h.2]; exact Below.refl _ _⟩))
    have HP := Lib.hid hp
    clear hp hl hne e1
    go_wp2_with (go_at_call 192; (with_reducible refine HCG.out.mono ?_); refine halt_ ?_)
    rintro e w1 ⟨rfl, hb1⟩
    have HB9 := Lib.hid (B0.out.trans (hb1.mono B0.out.size))
    clear hb1
    go_wp2_with fail
    go_ret2
    exact ⟨HB9.out, .inl ⟨HP.out, by rw [List.length_drop]; rfl⟩⟩
  · have e1 : Lib.hasPrefix bs volMk = false := by
      rw [← Bool.not_eq_true, Lib.hasPrefix, List.isPrefixOf_iff_prefix]
      exact hp
    rw [e1, if_neg (by simp)] at HCP
    have HCG := Lib.hid (HCP.out.mono (R' := Gives _ _) (fun e w' h => ⟨h.1, by rw [h.2]; exact Below.refl _ _⟩))
    have HP := Lib.hid hp
    clear hp e1
    go_wp2_with (go_at_call 192; (with_reducible refine HCG.out.mono ?_); refine halt_ ?_)
    rintro e w1 ⟨rfl, hb1⟩
    have HB9 := Lib.hid (B0.out.trans (hb1.mono B0.out.size))
    clear hb1
    go_wp2_with fail
    go_ret2
    exact ⟨HB9.out, .inr ⟨HP.out, _, rfl⟩⟩
end Go.Proofs.YtmiknfneeipkeaaGreat
