/- Contracts of the walk, part 28. -/
import Derived.Deep.DeepAppendRoom
import Derived.Test.YtmiknfneeipkeaaGreatQ23
import Derived.Test.YtmiknfneeipkeaaGreatQ19
import Derived.Test.YtmiknfneeipkeaaGreatQ12
import Derived.Test.YtmiknfneeipkeaaGreatQ26
import Derived.Test.YtmiknfneeipkeaaGreatQ17
import Derived.Test.YtmiknfneeipkeaaGreatQ05
import Derived.Test.YtmiknfneeipkeaaGreatQ22
import Derived.Test.YtmiknfneeipkeaaGreatQ10
import Derived.Test.YtmiknfneeipkeaaGreatQ27
namespace Go.Proofs.YtmiknfneeipkeaaGreat
open Go.RowKit Go.MapKept Go.ChangeMaps Go.Shelf Go.Sort
attribute [local go_sem] wext_cell
section
variable {b : Nat} {w0 w w' : World} {l : List Ob}
abbrev StoP (ms : List Man) (T : List CH) (b : Nat) (w0 : World) (l : List Ob) (e : Ending) (w' : World) : Prop :=
  (errM ms ≠ 0 ∧ e = .returned (.tuple #[.slice none 0 0, .int .i64 (errM ms)]) ∧ SW b w0 l w') ∨
  (errM ms = 0 ∧ ¬ (OneM ms ∧ AllR (setR (idsOf ms)) T) ∧ e = .returned (.tuple #[.slice none 0 0, .int .i64 411]) ∧ SW b w0 l w') ∨
  (errM ms = 0 ∧ OneM ms ∧ AllR (setR (idsOf ms)) T ∧ ∃ (ys : List Man) (d : BD), ConM ms ys ∧ e = .returned (.tuple #[vB d, .int .i64 0]) ∧ SW b w0 (bufOb d (volB ys (selR (setR (idsOf ms)) T)) :: l) w')
set_option maxRecDepth 100000 in
set_option maxHeartbeats 8000000 in
theorem Store_any (h : SW b w0 l w) {A : Option Addr} {rs : List MR} {ms : List Man} (hm : imOb A rs ms ∈ l) (hn : ms.length < 20) (hi : ∀ m ∈ ms, m.ids.length ≤ 9223372036854775807) (hok : ∀ m ∈ ms, ∀ i ∈ m.ids, okID i) {C : Option Addr} {T : List CH} (hc : cxOb C T ∈ l) (hT : ∀ e ∈ T, okID e.1) (hTn : T.length ≤ 9223372036854775807) (hpk : AllR (setR (idsOf ms)) T → (packP (selR (setR (idsOf ms)) T)).length ≤ 1048576) (c d : Nat) :
    Calls Tryz.prog 11 #[.slice A ms.length c, .slice C T.length d] w (StoP ms T b w0 l) := by
  have HM := Lib.hid hm
  have HC := Lib.hid hc
  have HCK := Lib.hid (chunksOf_any h hm (by omega) hi c)
  go_enter Tryz.func11, Tryz.ntmps11
  go_wp2_with (go_at_call 39; (with_reducible refine HCK.out.mono ?_); refine halt_ ?_)
  rintro e w1 (⟨hE, A1, c1, rfl, hc1, s1⟩ | ⟨hE, rfl, s1⟩)
  · simp only [List.nil_append] at hc1 s1
    simp only [List.nil_append]
    have HE := Lib.hid hE
    have HPK0 := Lib.hid hpk
    clear hpk
    have HV : Hid (∀ m ∈ ms, manE m = 0) := errM_each hE
    obtain ⟨ids, HID⟩ : ∃ x, Hid (setR (idsOf ms) = x) := ⟨_, rfl⟩
    rw [HID.out] at s1 hc1 ⊢
    have S1 := Lib.hid s1.rwRi
    have HCO := Lib.hid (contentsOf_any S1.out (.tail _ HM.out) HV.out hn hok c)
    clear hE s1 HCK h
    go_wp2_with (go_at_call 40; (with_reducible refine HCO.out.mono ?_); refine halt_ ?_)
    rintro e w2 (⟨hO, Y, D, dd, hcon, rfl, s2⟩ | ⟨hO, rfl, s2⟩)
    · have HO := Lib.hid hO
      have HCON := Lib.hid hcon
      have HASC : Hid (AscI ids) := by rw [Hid, ← HID.out]; exact setR_strict _
      have HIK : Hid (∀ i ∈ ids, okID i ∧ 1 ≤ i.2 ∧ i.2 ≤ 8192) := fun i hi => by
        rw [← HID.out, setR_mem] at hi
        have hc := chunk_of_err HE.out i hi
        obtain ⟨m, hm1, hm2⟩ := List.mem_flatMap.1 hi
        exact ⟨hok m hm1 i hm2, chunkB_sound hc⟩
      have HIL : Hid (ids.length ≤ 100000) := by
        rw [Hid, ← HID.out]
        have := setR_small HE.out (show ms.length ≤ 90 by omega)
        omega
      have HCH := Lib.hid (choose_any s2 (.tail _ (.tail _ (.head _))) HASC.out (fun i hi => (HIK.out i hi).1) HIL.out (fun i hi => (HIK.out i hi).2.2) (.tail _ (.tail _ (.tail _ HC.out))) hT hTn c1 d)
      clear hO hcon s2 HCO
      go_wp2_with (go_at_call 41; (with_reducible refine HCH.out.mono ?_); refine halt_ ?_)
      rintro e w3 (⟨hA, D2, q2, rfl, s3⟩ | ⟨hA, v2, rfl, s3⟩)
      · have HA := Lib.hid hA
        have HPK : Hid ((packP (selR ids T)).length ≤ 1048576) := by
          have h1 := HPK0.out
          rw [HID.out] at h1
          exact h1 hA
        have HEN : Hid (Calls Tryz.prog 42 #[.slice D2 ids.length q2] w3 (fun e w' => ∃ d, e = .returned (.tuple #[vB d, .int .i64 0]) ∧ SW b w0 (bufOb d (packP (selR ids T)) :: rowOb 85 4 (.slice D Y.length dd) Y.length ((Y.map cnOf).flatMap encCN) :: msOb (Y.map (·.1)) (Y.map (·.2)) :: l) w')) := by
          have h1 := s3.rowCx (C := C) (T := T) (.tail _ (.tail _ (.tail _ HC.out))) (selR_len ids T) (selR_mem hA)
          have h2 := encode_any h1 (.head _) (selR_ok hA (fun i hi => (HIK.out i hi).2)) (selR_asc HASC.out hA) HPK.out (by rw [selR_len]; have := HIL.out; omega) q2
          rw [selR_len] at h2
          refine h2.mono ?_
          rintro e w' ⟨d, rfl, h⟩
          exact ⟨d, rfl, SW.sub h (.cons_cons _ (.cons _ (.cons_cons _ (.cons_cons _ (.cons _ (List.Sublist.refl _))))))⟩
        clear hA s3 HCH
        go_wp2_with (go_at_call 42; (with_reducible refine HEN.out.mono ?_); refine halt_ ?_)
        rintro e w4 ⟨dp, rfl, s4⟩
        have S4 := Lib.hid s4
        have S5 := Lib.hid (S4.out.newX #[.int .u8 83, .int .u8 89, .int .u8 65, .int .u8 82] (4, 5) [83, 89, 65, 82] 4 rfl (by decide) rfl)
        have HYN : Hid (Y.length < 20) := by
          have h1 := conM_len HCON.out
          rw [List.length_map] at h1
          rw [Hid]
          omega
        have hyn : Y.length < 20 := HYN.out
        have HPU : Hid (Calls Tryz.prog 43 #[.slice (some ⟨w4.heap.size, 0, none⟩) 4 4, .int .u64 (Y.length : Int)] (w4.alloc (.cells #[.int .u8 83, .int .u8 89, .int .u8 65, .int .u8 82] 5 (4, 5))) (NewB ([83, 89, 65, 82] ++ putU Y.length) (w4.alloc (.cells #[.int .u8 83, .int .u8 89, .int .u8 65, .int .u8 82] 5 (4, 5))))) := (PutUint_any (some ⟨w4.heap.size, 0, none⟩) 4 [83, 89, 65, 82] Y.length (w4.alloc (.cells #[.int .u8 83, .int .u8 89, .int .u8 65, .int .u8 82] 5 (4, 5))) ((S5.out.get 0 (o := bxOb _ _) rfl).1.sb) (by decide) (by have := HYN.out; omega))
        have hcv := Lib.run_convert_bytes_const (P := Tryz.prog) w4 40 5 #[.int .u8 83, .int .u8 89, .int .u8 65, .int .u8 82] 4 4 Tryz.underlying40 Tryz.underlying5
        clear HEN s4
        unfold vB
        go_wp2_with (go_at_call 43; (with_reducible refine HPU.out.mono ?_); refine halt_ ?_)
        rintro e w5 ⟨d5, rfl, hr5, hn5, hb5⟩
        have S6 : Hid (SW b w0 (bufOb d5 (volH Y.length ((Y.map (·.2)).take 0)) :: bufOb dp (packP (selR ids T)) :: rowOb 85 4 (.slice D Y.length dd) Y.length ((Y.map cnOf).flatMap encCN) :: msOb (Y.map (·.1)) (Y.map (·.2)) :: l) w5) := by
          have h1 := SW.newBuT S5.out hb5 hr5 hn5
          rw [Hid, List.take_zero, volH_nil]
          exact SW.sub h1 (.cons_cons _ (.cons _ (List.Sublist.refl _)))
        have HYE : Hid (∀ m ∈ Y.map (·.2), manE m = 0) := fun m hm => HV.out m ((HCON.out.2 m).1 hm)
        have HYO : Hid (∀ m ∈ Y.map (·.2), ∀ i ∈ m.ids, okID i) := fun m hm => hok m ((HCON.out.2 m).1 hm)
        have HVL : Hid (∀ k, (volH Y.length ((Y.map (·.2)).take k)).length ≤ 430000) := fun k => by
          have hy := HYN.out
          have h1 := volH_le (ys := (Y.map (·.2)).take k) (fun m hm => HYE.out m (List.mem_of_mem_take hm)) (fun m hm => HYO.out m (List.mem_of_mem_take hm)) (by rw [List.length_take, List.length_map]; omega) Y.length
          have h2 := putU_ten (v := Y.length) (by omega)
          rw [List.length_take, List.length_map] at h1
          omega
        clear hr5 hn5 hb5 HPU S4 S5 hcv
        unfold vB
        go_wp2_with fail
        go_loopw [12, 56] (fun s12 s56 wr => ∃ (k : Nat) (d : BD), k ≤ Y.length ∧ s56 = .int .i64 (k : Int) ∧ s12 = .slice d.A d.len d.cap ∧ SW b w0 (bufOb d (volH Y.length ((Y.map (·.2)).take k)) :: bufOb dp (packP (selR ids T)) :: rowOb 85 4 (.slice D Y.length dd) Y.length ((Y.map cnOf).flatMap encCN) :: msOb (Y.map (·.1)) (Y.map (·.2)) :: l) wr) (fun _ s56 _ => Y.length - (intOf s56).toNat)
        case atStart => exact ⟨0, d5, Nat.zero_le _, rfl, rfl, S6.out⟩
        case round =>
          obtain ⟨k, d, hk, rfl, rfl, hs⟩ := hrel
          have S7 := Lib.hid hs
          clear hs S6
          by_cases hlt : k < Y.length
          · obtain ⟨⟨⟨z, rA, rn, rc⟩, m⟩, HY⟩ : ∃ p, Hid (Y.getD k (mr0, man0) = p) := ⟨_, rfl⟩
            have e1 : (Y.map (·.1)).getD k mr0 = ⟨z, rA, rn, rc⟩ := by
              have : (Y.map (·.1)).getD k mr0 = (Y.getD k (mr0, man0)).1 := by simp [List.getD_eq_getElem?_getD, List.getElem?_eq_getElem hlt]
              rw [this, HY.out]
            have e2 : (Y.map (·.2)).getD k man0 = m := by
              have : (Y.map (·.2)).getD k man0 = (Y.getD k (mr0, man0)).2 := by simp [List.getD_eq_getElem?_getD, List.getElem?_eq_getElem hlt]
              rw [this, HY.out]
            have hmem : m ∈ Y.map (·.2) := by rw [← e2]; exact getD_mem _ _ _ (by rw [List.length_map]; exact hlt)
            have HTK : Hid (volH Y.length ((Y.map (·.2)).take (k + 1)) = volH Y.length ((Y.map (·.2)).take k) ++ (putU (manB m).length ++ manB m)) := by
              rw [Hid, take_snoc _ man0 _ (by rw [List.length_map]; exact hlt), e2, volH_snoc]
            have hM := (S7.out.1.holds (msOb (Y.map (·.1)) (Y.map (·.2))) (.tail _ (.tail _ (.tail _ (.head _))))).2 k (by rw [List.length_map]; exact hlt)
            rw [e1, e2] at hM
            obtain ⟨l1, l2, l3, l4⟩ := hM
            simp only at l1 l2 l3 l4
            subst l1 l2
            have HR := Lib.hid l4
            have hcn : (Y.map cnOf).getD k cn0 = (keyM m, ⟨m.size, rA, m.ids.length, rc⟩) := by
              have : (Y.map cnOf).getD k cn0 = cnOf (Y.getD k (mr0, man0)) := by simp [List.getD_eq_getElem?_getD, List.getElem?_eq_getElem hlt]
              rw [this, HY.out, cnOf]
            obtain ⟨⟨a1, a2⟩, hkm⟩ : ∃ a, keyM m = a := ⟨_, rfl⟩
            rw [hkm] at hcn
            obtain ⟨gD, cD, e7⟩ := own_some (S7.out.get 2 rfl) (by omega)
            injection e7 with e7 e8 e9
            clear e8 e9
            subst e7
            have hrow : wr.ownsRow 0 85 4 (.slice (some ⟨gD, 0, none⟩) Y.length dd) Y.length ((Y.map cnOf).flatMap encCN) := S7.out.get 2 rfl
            have cellB : ∀ a v, a < 4 → (encCN ((a1, a2), (⟨m.size, rA, m.ids.length, rc⟩ : MR)))[a]? = some v → wr.cell? ⟨gD, k * 4 + a, none⟩ = some v := fun a v ha hv => by
              rw [hrow.cellAt (k * 4 + a) (by omega), flat_at encCN_len cn0 _ k a (by rw [List.length_map]; omega) ha, hcn]
              exact hv
            have p0 : wr.cell? ⟨gD, k * 4, none⟩ = some (.int .u64 a1) := cellB 0 _ (by omega) rfl
            have p1 : wr.cell? ⟨gD, k * 4 + 1, none⟩ = some (.int .i64 a2) := cellB 1 _ (by omega) rfl
            have p2 : wr.cell? ⟨gD, k * 4 + 2, none⟩ = some (.int .i64 m.size) := cellB 2 _ (by omega) rfl
            have p3 : wr.cell? ⟨gD, k * 4 + 3, none⟩ = some (.slice rA m.ids.length rc) := cellB 3 _ (by omega) rfl
            have S8 := Lib.hid (S7.out.newCell 85 #[.int .u64 a1, .int .i64 a2, .int .i64 m.size, .slice rA m.ids.length rc])
            have HME := Lib.hid (manEnc_any _ m rA rc _ (HR.out.on (bel1q wr (.cells #[.int .u64 a1, .int .i64 a2, .int .i64 m.size, .slice rA m.ids.length rc] 85))) (HYE.out m hmem) (HYO.out m hmem))
            have HBL : Hid ((manB m).length ≤ 20500) := manB_len (HYE.out m hmem) (HYO.out m hmem)
            clear cellB hcn hkm hrow e1 e2 hmem l3 l4
            have hrb : RB wr d (volH Y.length ((Y.map (·.2)).take k)) := S7.out.get 0 (o := bufOb d _) rfl
            have hd9 : d.len = (volH Y.length ((Y.map (·.2)).take k)).length := hrb.1.symm
            have HDL := Lib.hid hd9
            clear hd9 hrb
            go_wp2_with (go_at_call 44; (with_reducible refine HME.out.mono ?_); refine halt_ ?_)
            rintro e w6 d6 rfl hbf
            have R6 := Lib.hid hbf.rb
            have S9 := Lib.hid (S8.out.on hbf.bl)
            have HD6 : Hid ((manB m).length = d6.len) := hbf.rb.1
            have hd6 : d6.len ≤ 20500 := by rw [← HD6.out]; exact HBL.out
            have HPB : Hid (Calls Tryz.prog 43 #[.slice d.A d.len d.cap, .int .u64 (d6.len : Int)] w6 (NewB (volH Y.length ((Y.map (·.2)).take k) ++ putU d6.len) w6)) := by
              have h1 := PutUint_any d.A d.cap (volH Y.length ((Y.map (·.2)).take k)) d6.len w6 ((S9.out.get 1 (o := bufOb d (volH Y.length ((Y.map (·.2)).take k))) rfl : RB w6 d _).src) (by have := HVL.out k; omega) (by omega)
              rw [← HDL.out] at h1
              exact h1
            clear hbf S7 S8 HME p0 p1 p2 p3
            unfold vB
            go_wp2_with (go_at_call 43; (with_reducible refine HPB.out.mono ?_); refine halt_ ?_)
            rintro e w7 ⟨d7, rfl, hr7, hn7, hb7⟩
            have S10 := Lib.hid (SW.newBuT S9.out hb7 hr7 hn7)
            have R7 := Lib.hid (R6.out.on hb7)
            have hbd : (volH Y.length ((Y.map (·.2)).take k) ++ putU d6.len).length + d6.len ≤ 1099511627776 := by
              have h1 := HVL.out (k + 1)
              rw [HTK.out, List.length_append, List.length_append, HD6.out] at h1
              rw [List.length_append]
              omega
            clear hr7 hn7 hb7 S9 HPB R6
            unfold vB
            go_wp2_with (at_builtin; refine halt_q ?_)
            refine wpList_bufS S10.out rfl _ _ rfl rfl d6.A d6.len d6.cap (manB m) rfl R7.out.1 R7.out.src hbd ?_
            intro d8 w8 s8
            have S11 : Hid (SW b w0 (bufOb d8 (volH Y.length ((Y.map (·.2)).take (k + 1))) :: bufOb dp (packP (selR ids T)) :: rowOb 85 4 (.slice (some ⟨gD, 0, none⟩) Y.length dd) Y.length ((Y.map cnOf).flatMap encCN) :: msOb (Y.map (·.1)) (Y.map (·.2)) :: l) w8) := by
              rw [Hid, HTK.out, HD6.out, ← List.append_assoc]
              exact SW.sub s8 (.cons_cons _ (.cons _ (.cons _ (List.Sublist.refl _))))
            clear s8 S10 R7 hbd
            unfold vB
            go_wp2_with fail
            go_roundw
            case rel => exact ⟨k + 1, d8, by omega, by go_num, rfl, S11.out⟩
            case measure => simp [intOf]; omega
          · obtain rfl : k = Y.length := by omega
            have HTL : Hid ((Y.map (·.2)).take Y.length = Y.map (·.2)) := by
              have h1 : (Y.map (·.2)).length = Y.length := List.length_map ..
              rw [Hid, ← h1, List.take_length]
            have hvl := HVL.out Y.length
            rw [HTL.out] at S7 hvl
            have RP : Hid (RB wr dp (packP (selR ids T))) := S7.out.get 1 (o := bufOb dp (packP (selR ids T))) rfl
            have hbd : (volH Y.length (Y.map (·.2))).length + dp.len ≤ 1099511627776 := by
              have h1 := RP.out.1
              have h2 := HPK.out
              omega
            go_wp2_with (at_builtin; refine halt_q ?_)
            refine wpList_bufS S7.out rfl _ _ rfl rfl dp.A dp.len dp.cap (packP (selR ids T)) rfl RP.out.1 RP.out.src hbd ?_
            intro d8 w8 s8
            have S8 : Hid (SW b w0 (bufOb d8 (volB (Y.map (·.2)) (selR (setR (idsOf ms)) T)) :: l) w8) := by
              rw [Hid, HID.out, volB, List.length_map]
              exact SW.sub s8 (.cons_cons _ (.cons _ (.cons _ (.cons _ (List.Sublist.refl _)))))
            have HA2 : Hid (AllR (setR (idsOf ms)) T) := by rw [Hid, HID.out]; exact HA.out
            clear s8 S7 RP
            unfold vB
            go_wp2_with fail
            go_ret2
            exact .inr (.inr ⟨HE.out, HO.out, HA2.out, Y.map (·.2), d8, HCON.out, rfl, S8.out⟩)
      · have HNO : Hid (¬ (OneM ms ∧ AllR (setR (idsOf ms)) T)) := fun h => hA (by rw [← HID.out]; exact h.2)
        have S3 := Lib.hid s3.tail.tail.tail
        clear hA s3 HCH
        go_wp2_with fail
        go_ret2
        exact .inr (.inl ⟨HE.out, HNO.out, rfl, S3.out⟩)
    · have HO : Hid (¬ (OneM ms ∧ AllR (setR (idsOf ms)) T)) := fun h => hO h.1
      have S2 := Lib.hid s2.tail
      clear hO s2 HCO
      go_wp2_with fail
      go_ret2
      exact .inr (.inl ⟨HE.out, HO.out, rfl, S2.out⟩)
  · have hbe : (errM ms != 0) = true := by rw [bne_iff_ne]; exact hE
    have HE := Lib.hid hE
    have S1 := Lib.hid s1
    clear hE s1 HCK h
    go_wp2_with fail
    go_ret2
    exact .inl ⟨HE.out, rfl, S1.out⟩
end
end Go.Proofs.YtmiknfneeipkeaaGreat
namespace Go.Proofs.YtmiknfneeipkeaaGreat
open Go.RowKit Go.MapKept Go.ChangeMaps Go.Shelf Go.Sort
attribute [local go_sem] wext_cell
set_option maxHeartbeats 4000000 in
theorem rSame_any (x y : Nat) (a b : Man) (A B : Option Addr) (c d : Nat) (w : World) (ha : RdID w x A a.ids) (hb : RdID w y B b.ids) (hla : a.ids.length ≤ 9223372036854775807) (hlb : b.ids.length ≤ 9223372036854775807) :
    Calls Tryz.prog 24 #[.agg #[.int .i64 a.size, .slice A a.ids.length c], .agg #[.int .i64 b.size, .slice B b.ids.length d]] w (Gives (.bool (decide (a.size = b.size ∧ a.ids = b.ids))) w) := by
  have Ha := Lib.hid ha
  have Hb := Lib.hid hb
  clear ha hb
  have S0 := Lib.hid (((SW.refl (Sep.nil w (Nat.le_refl _))).newCell 33 #[.int .i64 a.size, .slice A a.ids.length c]).newCellAt 33 #[.int .i64 b.size, .slice B b.ids.length d] (H := w.heap.size + 1) (by simp))
  have HS := Lib.hid (fun (W : World) (hb : Below w.heap.size w W) => SameIDs_any _ _ a.ids b.ids A B c d W (Ha.out.on hb) (Hb.out.on hb) hla hlb)
  have HB0 : Hid (Below w.heap.size w _) := S0.out.2
  have HS0 := Lib.hid (HS.out _ HB0.out)
  have a0 := (S0.out.cell 1 rfl).cell 0
  have a1 := (S0.out.cell 1 rfl).cell 1
  have b0 := (S0.out.cell 0 rfl).cell 0
  have b1 := (S0.out.cell 0 rfl).cell 1
  by_cases h : a.size = b.size
  · have hbe : (a.size == b.size) = true := by rw [beq_iff_eq]; exact h
    have H := Lib.hid h
    clear h
    go_enter Tryz.func24, Tryz.ntmps24
    go_wp2_with (go_at_call 18; (with_reducible refine HS0.out.mono ?_); refine halt_ ?_)
    rintro e w1 ⟨rfl, hb1⟩
    have HB := Lib.hid (S0.out.2.trans (hb1.mono S0.out.2.size))
    clear hb1 S0
    go_wp2_with fail
    go_ret
    exact gb (decide_eq_decide.2 ⟨fun h => h.2, fun h => ⟨H.out, h⟩⟩) HB.out
  · have hbe : (a.size == b.size) = false := by rw [beq_eq_false_iff_ne]; exact h
    have H := Lib.hid h
    clear h
    go_enter Tryz.func24, Tryz.ntmps24
    go_wp2_with fail
    go_ret
    exact gb (by rw [decide_eq_false_iff_not]; exact fun h => H.out h.1) S0.out.2
section
variable {b : Nat} {w0 w w' : World} {l : List Ob}
end
end Go.Proofs.YtmiknfneeipkeaaGreat
namespace Go.Proofs.YtmiknfneeipkeaaGreat
open Go.RowKit Go.MapKept Go.ChangeMaps Go.Shelf Go.Sort
attribute [local go_sem] wext_cell
section
variable {b : Nat} {w0 w w' : World} {l : List Ob}
end
end Go.Proofs.YtmiknfneeipkeaaGreat
namespace Go.Proofs.YtmiknfneeipkeaaGreat
open Go.RowKit Go.MapKept Go.ChangeMaps
end Go.Proofs.YtmiknfneeipkeaaGreat
namespace Go.Proofs.YtmiknfneeipkeaaGreat
open Go.RowKit Go.MapKept Go.ChangeMaps Go.Shelf Go.Sort
attribute [local go_sem] wext_cell
end Go.Proofs.YtmiknfneeipkeaaGreat
namespace Go.Proofs.YtmiknfneeipkeaaGreat
open Go.RowKit Go.MapKept Go.ChangeMaps Go.Shelf Go.Sort
attribute [local go_sem] wext_cell
section
variable {b : Nat} {w0 w w' : World} {l : List Ob}
end
end Go.Proofs.YtmiknfneeipkeaaGreat
namespace Go.Proofs.YtmiknfneeipkeaaGreat
open Go.RowKit Go.MapKept Go.ChangeMaps Go.Shelf Go.Sort
attribute [local go_sem] wext_cell
end Go.Proofs.YtmiknfneeipkeaaGreat
namespace Go.Proofs.YtmiknfneeipkeaaGreat
open Go.RowKit Go.MapKept Go.ChangeMaps Go.Shelf Go.Sort
attribute [local go_sem] wext_cell
section
variable {b : Nat} {w0 w w' : World} {l : List Ob}
end
end Go.Proofs.YtmiknfneeipkeaaGreat
namespace Go.Proofs.YtmiknfneeipkeaaGreat
open Go.RowKit Go.MapKept Go.ChangeMaps Go.Shelf Go.Sort
section
variable {b : Nat} {w0 w w' : World} {l : List Ob}
end
theorem SW.starts {w : World} {l : List Ob} (h : ∀ o ∈ l, o.holds w ∧ (∀ i, ¬ o.own i) ∧ ∀ i, o.rd i → i < w.heap.size) : SW w.heap.size w l w := by
  refine ⟨⟨Nat.le_refl _, fun o ho => (h o ho).1, fun o ho i hi => absurd hi ((h o ho).2.1 i), fun o ho => (h o ho).2.2, ?_⟩, Below.refl _ _⟩
  rw [List.pairwise_iff_getElem]
  intro i j hi hj _
  have h1 := (h _ (List.getElem_mem hi)).2.1
  have h2 := (h _ (List.getElem_mem hj)).2.1
  exact ⟨fun k hk => absurd hk (h1 k), fun k hk => absurd hk (h2 k)⟩
theorem im_lt {w : World} {A : Option Addr} {rs : List MR} {ms : List Man} (h : (imOb A rs ms).holds w) : ∀ i, (imOb A rs ms).rd i → i < w.heap.size := fun i hi => by
  obtain ⟨h1, h2, h3⟩ := h
  rcases hi with ⟨hq, o, e⟩ | ⟨j, hj, hq, o, e⟩
  · obtain ⟨g, o2, e2, hb, _⟩ := h1 hq
    rw [e] at e2
    injection e2 with e2
    injection e2 with e2
    omega
  · obtain ⟨g, o2, e2, hb, _⟩ := (h3 j hj).2.2.2 hq
    rw [e] at e2
    injection e2 with e2
    injection e2 with e2
    omega
theorem cx_lt {w : World} {A : Option Addr} {T : List CH} (h : (cxOb A T).holds w) : ∀ i, (cxOb A T).rd i → i < w.heap.size := fun i hi => by
  rcases hi with ⟨hq, o, e⟩ | ⟨x, hx, hq, o, e⟩
  · obtain ⟨g, o2, e2, hb, _⟩ := h.1 hq
    rw [e] at e2
    injection e2 with e2
    injection e2 with e2
    omega
  · exact (h.2 x hx).1.lt e hq
abbrev StoB (ms : List Man) (T : List CH) (w : World) (e : Ending) (w' : World) : Prop :=
  (errM ms ≠ 0 ∧ e = .returned (.tuple #[.slice none 0 0, .int .i64 (errM ms)]) ∧ Below w.heap.size w w') ∨
  (errM ms = 0 ∧ ¬ (OneM ms ∧ AllR (setR (idsOf ms)) T) ∧ e = .returned (.tuple #[.slice none 0 0, .int .i64 411]) ∧ Below w.heap.size w w') ∨
  (errM ms = 0 ∧ OneM ms ∧ AllR (setR (idsOf ms)) T ∧ ∃ (ys : List Man) (d : BD), ConM ms ys ∧ e = .returned (.tuple #[vB d, .int .i64 0]) ∧ Buf w w' d (volB ys (selR (setR (idsOf ms)) T)))
theorem stoB_of {w : World} {l : List Ob} {ms : List Man} {T : List CH} {e : Ending} {w' : World} (h : StoP ms T w.heap.size w l e w') : StoB ms T w e w' := by
  rcases h with ⟨h1, h2, h3⟩ | ⟨h1, h2, h3, h4⟩ | ⟨h1, h2, h3, ys, d, h4, h5, h6⟩
  · exact .inl ⟨h1, h2, h3.2⟩
  · exact .inr (.inl ⟨h1, h2, h3, h4.2⟩)
  · exact .inr (.inr ⟨h1, h2, h3, ys, d, h4, h5, h6.get 0 (o := bufOb d _) rfl, (fun g hg => (h6.1.own _ (.head _) g hg).1), h6.2⟩)
section
variable {w : World} {A : Option Addr} {rs : List MR} {ms : List Man} {C : Option Addr} {T : List CH}
theorem Store_b (hm : (imOb A rs ms).holds w) (hc : (cxOb C T).holds w) (hn : ms.length < 20) (hi : ∀ m ∈ ms, m.ids.length ≤ 9223372036854775807) (hok : ∀ m ∈ ms, ∀ i ∈ m.ids, okID i) (hT : ∀ e ∈ T, okID e.1) (hTn : T.length ≤ 9223372036854775807) (hpk : AllR (setR (idsOf ms)) T → (packP (selR (setR (idsOf ms)) T)).length ≤ 1048576) (c d : Nat) :
    Calls Tryz.prog 11 #[.slice A ms.length c, .slice C T.length d] w (StoB ms T w) :=
  (Store_any (SW.starts (l := [imOb A rs ms, cxOb C T]) (fun o ho => by
    rcases List.mem_cons.1 ho with rfl | ho
    · exact ⟨hm, fun _ h => h, im_lt hm⟩
    · rw [List.mem_singleton.1 ho]
      exact ⟨hc, fun _ h => h, cx_lt hc⟩)) (.head _) hn hi hok (.tail _ (.head _)) hT hTn hpk c d).mono (fun e w' h => stoB_of h)
end
end Go.Proofs.YtmiknfneeipkeaaGreat
namespace Go.Proofs.YtmiknfneeipkeaaGreat
open Go.RowKit Go.MapKept Go.ChangeMaps Go.Shelf Go.Sort
def ManOk (m : Man) : Prop := manE m = 0 ∧ ∀ i ∈ m.ids, okID i
theorem stepD_nn {bs : List UInt8} {st : List ID × Nat × Bool} (h : ∀ i ∈ st.1, 0 ≤ i.1) : ∀ i ∈ (stepD bs st).1, 0 ≤ i.1 := by
  unfold stepD
  split
  · exact h
  · split
    · exact h
    · intro i hi
      rcases List.mem_append.1 hi with hi | hi
      · exact h i hi
      · rw [List.mem_singleton] at hi
        rw [hi]
        exact Int.natCast_nonneg _
theorem idsD_nn {bs : List UInt8} {st : List ID × Nat × Bool} (h : ∀ i ∈ st.1, 0 ≤ i.1) : ∀ n, ∀ i ∈ (idsD bs st n).1, 0 ≤ i.1 := by
  intro n
  induction n with
  | zero => exact h
  | succ n ih => exact stepD_nn ih
theorem decM_ok {bs : List UInt8} {m : Man} (h : decM bs = some m) : ManOk m := by
  unfold decM at h
  split at h
  · cases h
  · rename_i hn
    injection h with h
    have h0 : manE m = 0 := by
      rw [← h]
      exact Classical.byContradiction fun hc => hn (.inr (.inr hc))
    refine ⟨h0, fun i hi => ?_⟩
    have h1 := List.all_eq_true.1 (manE_zero h0).1 i hi
    have h2 := chunkB_sound h1
    have h3 : 0 ≤ i.1 := by
      rw [← h] at hi
      exact idsD_nn (st := ([], (cntD bs).2.1, (cntD bs).2.2)) (fun i hi => by cases hi) _ i hi
    simp only [chunkB, validB, Bool.and_eq_true, decide_eq_true_eq] at h1
    exact okID_of h3 (by omega) (by omega) (by omega)
theorem oneM_ok {bs : List UInt8} {m : Man} {k : Nat} (h : oneM bs = some (m, k)) : ManOk m := by
  unfold oneM at h
  split at h
  · split at h
    · cases h
    · obtain ⟨m', h1, e⟩ := Option.map_eq_some_iff.1 h
      injection e with e1 _
      rw [← e1]
      exact decM_ok h1
  · cases h
theorem mansL_ok {bs : List UInt8} : ∀ {n k : Nat} {ms : List Man} {j : Nat}, mansL bs n k = some (ms, j) → ∀ m ∈ ms, ManOk m := by
  intro n
  induction n with
  | zero => intro k ms j h m hm; injection h with h; injection h with h _; subst h; cases hm
  | succ n ih =>
    intro k ms j h m hm
    rw [mansL] at h
    split at h
    · rename_i m1 j1 h1
      obtain ⟨p, h2, e⟩ := Option.map_eq_some_iff.1 h
      injection e with e1 _
      subst e1
      rcases List.mem_cons.1 hm with rfl | hm
      · exact oneM_ok h1
      · exact ih h2 m hm
    · cases h
theorem rdMans_ok {bs : List UInt8} {ms : List Man} {k : Nat} (h : rdMans bs = some (ms, k)) : ∀ m ∈ ms, ManOk m := by
  unfold rdMans at h
  split at h
  · split at h
    · exact mansL_ok h
    · cases h
  · cases h
def opnV (bs : List UInt8) : Option (List Man × List PC) :=
  match rdMans bs with
  | some (ms, k) => (decP (bs.drop k)).map (fun cs => (ms, cs))
  | none => none
theorem pcs_find {S S' : List CH} (h : pcs S = pcs S') (i : ID) : (firstR S i).map (fun e => (e.1, e.2.bs)) = (firstR S' i).map (fun e => (e.1, e.2.bs)) := by
  have key : ∀ T : List CH, (firstR T i).map (fun e => (e.1, e.2.bs)) = (pcs T).find? (fun p => decide (p.1 = i ∧ fpOf p.2 = i)) := fun T => by
    rw [pcs, List.find?_map, firstR]
    rfl
  rw [key, key, h]
theorem pcs_all {S S' : List CH} (h : pcs S = pcs S') {ids : List ID} (ha : AllR ids S) : AllR ids S' := fun i hi => by
  have h1 := pcs_find h i
  have h2 := ha i hi
  rw [← Option.isSome_map (f := fun e : CH => (e.1, e.2.bs)), ← h1, Option.isSome_map]
  exact h2
theorem pack_pc {S S' : List CH} (h : S.map (·.2.bs) = S'.map (·.2.bs)) : packP S = packP S' := by
  have e : S.flatMap frameP = S'.flatMap frameP := by
    have key : ∀ T : List CH, T.flatMap frameP = (T.map (·.2.bs)).flatMap (fun bs => frameP (id0, ⟨⟨none, 0, 0⟩, bs⟩)) := fun T => by
      rw [List.flatMap_map]
      rfl
    rw [key, key, h]
  have hl : S.length = S'.length := by
    have := congrArg List.length h
    simpa using this
  rw [packP, packP, packB, packB, packF, packF, e, hl]
theorem pcs_sel {S S' : List CH} (h : pcs S = pcs S') (ids : List ID) (ha : AllR ids S) : packP (selR ids S) = packP (selR ids S') := by
  apply pack_pc
  rw [selR, selR, List.map_map, List.map_map]
  refine List.map_congr_left fun i hi => ?_
  have h1 := pcs_find h i
  obtain ⟨x, hx⟩ := Option.isSome_iff_exists.1 (ha i hi)
  obtain ⟨y, hy⟩ := Option.isSome_iff_exists.1 (pcs_all h ha i hi)
  rw [hx, hy] at h1
  simp only [Option.map_some, Option.some.injEq, Prod.mk.injEq] at h1
  simp only [Function.comp, hx, hy, Option.getD_some]
  exact h1.2
def VolOk (bs : List UInt8) : Prop := ∃ (ms ys : List Man) (S : List CH), opnV bs = some (ms, pcs S) ∧ OneM ms ∧ ConM ms ys ∧ AllR (setR (idsOf ms)) S ∧ volB ys (selR (setR (idsOf ms)) S) = bs
theorem volOk_at {bs : List UInt8} {ms ys : List Man} {S : List CH} (h : VolOk bs) (ho : opnV bs = some (ms, pcs S)) (hy : ConM ms ys) : OneM ms ∧ AllR (setR (idsOf ms)) S ∧ volB ys (selR (setR (idsOf ms)) S) = bs := by
  obtain ⟨ms', ys', S', h1, h2, h3, h4, h5⟩ := h
  rw [ho] at h1
  injection h1 with h1
  injection h1 with e1 e2
  subst e1
  have ey := conM_uniq hy h3
  subst ey
  have h4' := pcs_all e2.symm h4
  refine ⟨h2, h4', ?_⟩
  rw [← h5, volB, volB, pcs_sel e2 _ h4']
end Go.Proofs.YtmiknfneeipkeaaGreat
namespace Go.Proofs.YtmiknfneeipkeaaGreat
open Go.RowKit Go.MapKept Go.ChangeMaps Go.Shelf Go.Sort
attribute [local go_sem] wext_cell
section
variable {b : Nat} {w0 w w' : World} {l : List Ob}
theorem SW.fuseCx {D : Option Addr} {dc : Nat} {S : List CH} (h : SW b w0 (rowOb 42 3 (.slice D S.length dc) S.length (S.flatMap encCH) :: bsOb S :: l) w) : SW b w0 (cxOb D S :: l) w := by
  have hr : w.ownsRow 0 42 3 (.slice D S.length dc) S.length (S.flatMap encCH) := h.get 0 rfl
  have hb : (bsOb S).holds w := h.get 1 (o := bsOb S) rfl
  refine SW.fuse (pre := [rowOb 42 3 (.slice D S.length dc) S.length (S.flatMap encCH), bsOb S]) h ⟨row_rdCH hr rfl, hb⟩ (fun _ h => h) (fun i hi => ?_)
  rcases hi with ⟨hp, o, e⟩ | ⟨x, hx, hp⟩
  · refine ⟨_, .head _, .inl ?_⟩
    rw [e]
    rfl
  · exact ⟨_, .tail _ (.head _), .inr ⟨x, hx, hp⟩⟩
abbrev ReadP (bs : List UInt8) (b : Nat) (w0 : World) (l : List Ob) (e : Ending) (w' : World) : Prop :=
  (∃ (ms : List Man) (S : List CH) (Y : List MP) (D C : Option Addr) (d dc : Nat), VolOk bs ∧ opnV bs = some (ms, pcs S) ∧ ConM ms (Y.map (·.2)) ∧ (∀ x ∈ S, okID x.1) ∧ S.length ≤ bs.length ∧ e = .returned (.tuple #[.slice D Y.length d, .slice C S.length dc, .bool true]) ∧ SW b w0 (rowOb 85 4 (.slice D Y.length d) Y.length ((Y.map cnOf).flatMap encCN) :: msOb (Y.map (·.1)) (Y.map (·.2)) :: cxOb C S :: l) w') ∨
  (¬ VolOk bs ∧ (∃ v1 v2, e = .returned (.tuple #[v1, v2, .bool false])) ∧ SW b w0 l w')
set_option maxRecDepth 100000 in
set_option maxHeartbeats 8000000 in
theorem read_any (h : SW b w0 l w) {A : Option Addr} {c : Nat} {bs : List UInt8} (hr : rsOb A bs ∈ l) (hv : (A = none → c = 0) ∧ bs.length ≤ c ∧ bs.length ≤ 9223372036854775807) (hbl : bs.length ≤ 1000000000) (hS : ∀ ms k, rdMans bs = some (ms, k) → ms.length < 20) (hP : ∀ ms S, opnV bs = some (ms, pcs S) → AllR (setR (idsOf ms)) S → (packP (selR (setR (idsOf ms)) S)).length ≤ 1048576) :
    Calls Tryz.prog 61 #[.slice A bs.length c] w (ReadP bs b w0 l) := by
  have S0 := Lib.hid h
  have HR := Lib.hid hr
  have HVV := Lib.hid hv
  have HS := Lib.hid hS
  have HP := Lib.hid hP
  have HM := Lib.hid (readMans_any h hr hv hbl)
  clear h hr hv hS hP
  go_enter Tryz.func61, Tryz.ntmps61
  go_wp2_with (go_at_call 113; (with_reducible refine HM.out.mono ?_); refine halt_ ?_)
  rintro e w1 (⟨ms, k, rs, D, dc, A1, c1, hrd, hk, rfl, hvw, hsu, t1⟩ | ⟨hrd, ⟨v1, v2, rfl⟩, t1⟩)
  · have HRD := Lib.hid hrd
    have hlen := HS.out ms k hrd
    have S1 := Lib.hid (SW.fuseIm t1)
    have hv1 := hvw _ (S1.out.view (.tail _ HR.out) HVV.out)
    have S2 := Lib.hid (rs_sub S1.out (.tail _ HR.out) hv1.1 hsu)
    obtain ⟨r1, HR1⟩ : ∃ x, Hid (bs.drop k = x) := ⟨_, rfl⟩
    have HRL : Hid (bs.length - k = r1.length) := by rw [Hid, ← HR1.out, List.length_drop]
    rw [HR1.out] at S2 hv1
    rw [HRL.out]
    have HD := Lib.hid (packDec_any S2.out (.head _) hv1.2)
    have hrl : r1.length ≤ bs.length := by rw [← HRL.out]; omega
    clear hrd t1 S1 HM S0 hvw hsu hv1
    go_wp2_with (go_at_call 114; (with_reducible refine HD.out.mono ?_); refine halt_ ?_)
    rintro e w2 (⟨S, C, d2, hde, hok, hSl, rfl, t2⟩ | ⟨hde, ⟨v, q, hq, rfl⟩, t2⟩)
    · have HO : Hid (opnV bs = some (ms, pcs S)) := by
        rw [Hid, opnV, HRD.out]
        simp only
        rw [HR1.out, hde]
        rfl
      have HOK := Lib.hid hok
      have S3 := Lib.hid (SW.fuseCx t2)
      have hman := rdMans_ok HRD.out
      have HMN := Lib.hid hman
      have HST := Lib.hid (Store_any S3.out (A := D) (rs := rs) (ms := ms) (.tail _ (.tail _ (.head _))) hlen (fun m hm => by have := manE_len (hman m hm).1; omega) (fun m hm => (hman m hm).2) (C := C) (T := S) (.head _) hok (by omega) (HP.out ms S HO.out) dc d2)
      clear hde hok t2 HD S2 hman
      go_wp2_with (go_at_call 11; (with_reducible refine HST.out.mono ?_); refine halt_ ?_)
      rintro e w3 (⟨he, rfl, t3⟩ | ⟨he, hno, rfl, t3⟩ | ⟨he, h1m, hall, ys, d3, hcon, rfl, t3⟩)
      · exact absurd (errM_all (fun m hm => (HMN.out m hm).1)) he
      · have HN : Hid (¬ VolOk bs) := fun ⟨ms', ys', S', h1, h2, h3, h4, h5⟩ => by
          have e1 := h1
          rw [HO.out] at e1
          injection e1 with e1
          injection e1 with e1 e2
          subst e1
          exact hno ⟨h2, pcs_all e2.symm h4⟩
        have S4 := Lib.hid t3
        clear he hno t3 HST S3
        go_wp2_with fail
        go_ret3
        exact .inr ⟨HN.out, ⟨_, _, rfl⟩, S4.out.tail.tail.tail⟩
      · have HOM := Lib.hid h1m
        have HAL := Lib.hid hall
        have HCO := Lib.hid hcon
        have S4 := Lib.hid t3
        obtain ⟨vb, HVB⟩ : ∃ x, Hid (volB ys (selR (setR (idsOf ms)) S) = x) := ⟨_, rfl⟩
        rw [HVB.out] at S4
        have hrb : RB w3 d3 vb := S4.out.get 0 (o := bufOb d3 vb) rfl
        have HEQ := Lib.hid (equal_rs hrb.rs (S4.out.view (.tail _ (.tail _ (.tail _ (.tail _ HR.out)))) HVV.out).1 d3.cap c)
        rw [hrb.1] at HEQ
        clear h1m hall hcon t3 HST S3 he hrb
        unfold vB
        by_cases heq : vb = bs
        · have HVO : Hid (VolOk bs) := ⟨ms, ys, S, HO.out, HOM.out, HCO.out, HAL.out, by rw [HVB.out]; exact heq⟩
          have hdq : decide (vb = bs) = true := decide_eq_true heq
          rw [hdq] at HEQ
          clear heq hdq
          go_wp2_with (go_at_call 115; (with_reducible refine HEQ.out.mono ?_); refine halt_ ?_)
          rintro e w4 ⟨rfl, rfl⟩
          have HCN := Lib.hid (contentsOf_any S4.out (A := D) (rs := rs) (ms := ms) (.tail _ (.tail _ (.tail _ (.head _)))) (fun m hm => (HMN.out m hm).1) hlen (fun m hm => (HMN.out m hm).2) dc)
          go_wp2_with (go_at_call 40; (with_reducible refine HCN.out.mono ?_); refine halt_ ?_)
          rintro e w5 (⟨_, Y, D5, d5, hcon, rfl, t5⟩ | ⟨hno, rfl, t5⟩)
          · have HC5 := Lib.hid hcon
            have S5 := Lib.hid (SW.sub t5 (.cons_cons _ (.cons_cons _ (.cons _ (.cons_cons _ (.cons _ (.cons _ (List.Sublist.refl _))))))))
            clear hcon t5 HCN S4
            go_wp2_with fail
            go_ret3
            exact .inl ⟨ms, S, Y, D5, C, d5, d2, HVO.out, HO.out, HC5.out, HOK.out, by omega, rfl, S5.out⟩
          · exact absurd HOM.out hno
        · have HN : Hid (¬ VolOk bs) := fun h => heq (by rw [← HVB.out]; exact (volOk_at h HO.out HCO.out).2.2)
          have hdq : decide (vb = bs) = false := decide_eq_false heq
          rw [hdq] at HEQ
          clear heq hdq
          go_wp2_with (go_at_call 115; (with_reducible refine HEQ.out.mono ?_); refine halt_ ?_)
          rintro e w4 ⟨rfl, rfl⟩
          go_wp2_with fail
          go_ret3
          exact .inr ⟨HN.out, ⟨_, _, rfl⟩, S4.out.tail.tail.tail.tail⟩
    · have HN : Hid (¬ VolOk bs) := fun ⟨ms', ys', S', h1, _⟩ => by
        rw [opnV, HRD.out] at h1
        simp only at h1
        rw [HR1.out, hde] at h1
        cases h1
      have hqn : (q != 0) = true := by rw [bne_iff_ne]; exact hq
      have S3 := Lib.hid t2
      clear hde hq t2 HD S2
      go_wp2_with fail
      go_ret3
      exact .inr ⟨HN.out, ⟨_, _, rfl⟩, S3.out.tail.tail⟩
  · have HN : Hid (¬ VolOk bs) := fun ⟨ms', ys', S', h1, _⟩ => by
      rw [opnV, hrd] at h1
      cases h1
    have S1 := Lib.hid t1
    clear hrd t1 HM S0
    go_wp2_with fail
    go_ret3
    exact .inr ⟨HN.out, ⟨_, _, rfl⟩, S1.out⟩
end
end Go.Proofs.YtmiknfneeipkeaaGreat
namespace Go.Proofs.YtmiknfneeipkeaaGreat
open Go.RowKit Go.MapKept Go.ChangeMaps Go.Shelf Go.Sort
attribute [local go_sem] wext_cell
section
variable {b : Nat} {w0 w w' : World} {l : List Ob}
theorem row_cn {w : World} {g q d : Nat} {L : List CN} (hr : w.ownsRow 0 85 4 (.slice (some ⟨g, 0, none⟩) q d) q (L.flatMap encCN)) (hq : L.length = q) {k : Nat} (hk : k < q) {x : CN} (hx : L.getD k cn0 = x) :
    w.cell? ⟨g, k * 4, none⟩ = some (.int .u64 x.1.1) ∧ w.cell? ⟨g, k * 4 + 1, none⟩ = some (.int .i64 x.1.2) ∧ w.cell? ⟨g, k * 4 + 2, none⟩ = some (.int .i64 x.2.size) ∧ w.cell? ⟨g, k * 4 + 3, none⟩ = some (.slice x.2.A x.2.len x.2.cap) := by
  subst hx
  have key : ∀ i, i < 4 → w.cell? ⟨g, k * 4 + i, none⟩ = (encCN (L.getD k cn0))[i]? := fun i hi => by
    rw [hr.cellAt (k * 4 + i) (by omega), flat_at encCN_len cn0 L k i (by omega) hi]
  exact ⟨key 0 (by omega), key 1 (by omega), key 2 (by omega), key 3 (by omega)⟩
abbrev CntP (bs : List UInt8) (b : Nat) (w0 : World) (l : List Ob) (e : Ending) (w' : World) : Prop :=
  (∃ (ms ys : List Man) (S : List CH) (D : Option Addr) (d : Nat), VolOk bs ∧ opnV bs = some (ms, pcs S) ∧ ConM ms ys ∧ e = .returned (.tuple #[.slice D ys.length d, .int .i64 0]) ∧ SW b w0 (rowOb 36 2 (.slice D ys.length d) ys.length ((ys.map keyM).flatMap encID) :: l) w') ∨
  (¬ VolOk bs ∧ e = .returned (.tuple #[.slice none 0 0, .int .i64 412]) ∧ SW b w0 l w')
set_option maxRecDepth 100000 in
set_option maxHeartbeats 8000000 in
theorem Contents_any (h : SW b w0 l w) {A : Option Addr} {c : Nat} {bs : List UInt8} (hr : rsOb A bs ∈ l) (hv : (A = none → c = 0) ∧ bs.length ≤ c ∧ bs.length ≤ 9223372036854775807) (hbl : bs.length ≤ 1000000000) (hS : ∀ ms k, rdMans bs = some (ms, k) → ms.length < 20) (hP : ∀ ms S, opnV bs = some (ms, pcs S) → AllR (setR (idsOf ms)) S → (packP (selR (setR (idsOf ms)) S)).length ≤ 1048576) :
    Calls Tryz.prog 20 #[.slice A bs.length c] w (CntP bs b w0 l) := by
  have HM := Lib.hid (read_any h hr hv hbl hS hP)
  have HLM : Hid (∀ ms S, opnV bs = some (ms, pcs S) → ms.length < 20) := fun ms S h => by
    unfold opnV at h
    split at h
    · rename_i ms' k' h1
      obtain ⟨x, _, e⟩ := Option.map_eq_some_iff.1 h
      injection e with e1 _
      subst e1
      exact hS _ _ h1
    · cases h
  clear h hr hv hS hP
  obtain ⟨ii, gi, gz0, gz1, gz2⟩ := info_parts info36
  go_enter Tryz.func20, Tryz.ntmps20
  go_wp2_with (go_at_call 61; (with_reducible refine HM.out.mono ?_); refine halt_ ?_)
  rintro e w1 (⟨ms, S, Y, D, C, d, dc, hvo, hop, hcon, hok, hSl, rfl, t1⟩ | ⟨hno, ⟨v1, v2, rfl⟩, t1⟩)
  · have HVO := Lib.hid hvo
    have HOP := Lib.hid hop
    have HCO := Lib.hid hcon
    have hY : Y.length < 20 := by
      have h1 := conM_len hcon
      have h2 := HLM.out _ _ hop
      rw [List.length_map] at h1
      omega
    have S1 : Hid (SW b w0 (rowOb 36 2 (.slice none 0 0) 0 [] :: rowOb 85 4 (.slice D Y.length d) Y.length ((Y.map cnOf).flatMap encCN) :: l) w1) := SW.newRow (SW.sub t1 (.cons_cons _ (.cons _ (.cons _ (List.Sublist.refl _))))) 36 2
    clear hvo hop hcon hok t1 HM
    go_wp2_with fail
    go_loopw [7, 20] (fun s7 s20 wr => ∃ (k : Nat) (I : Option Addr) (ic : Nat), s20 = .int .i64 (k : Int) ∧ k ≤ Y.length ∧ s7 = .slice I k ic ∧ SW b w0 (rowOb 36 2 (.slice I k ic) k (((Y.map (fun p => keyM p.2)).take k).flatMap encID) :: rowOb 85 4 (.slice D Y.length d) Y.length ((Y.map cnOf).flatMap encCN) :: l) wr) (fun _ s20 _ => Y.length - (intOf s20).toNat)
    case atStart => exact ⟨0, none, 0, rfl, Nat.zero_le _, rfl, by simpa using S1.out⟩
    case round =>
      obtain ⟨k, I, ic, rfl, hk, rfl, hs⟩ := hrel
      have S2 := Lib.hid hs
      clear hs S1
      by_cases hlt : k < Y.length
      · obtain ⟨g, d9, hD⟩ := own_some (S2.out.get 1 rfl) (by omega)
        injection hD with e1 e2 e3
        subst e1
        subst e3
        clear e2
        obtain ⟨p, hp⟩ : ∃ p, Y.getD k (mr0, man0) = p := ⟨_, rfl⟩
        have hcn : (Y.map cnOf).getD k cn0 = cnOf p := by
          rw [← hp]
          simp [List.getD_eq_getElem?_getD, List.getElem?_eq_getElem hlt]
        obtain ⟨⟨i1, i2⟩, HI⟩ : ∃ x, Hid (keyM p.2 = x) := ⟨_, rfl⟩
        obtain ⟨q0, q1, q2, q3⟩ := row_cn (S2.out.get 1 rfl) (by simp) hlt hcn
        simp only [cnOf] at q0 q1 q2 q3
        rw [HI.out] at q0 q1
        have HTK : Hid ((Y.map (fun p => keyM p.2)).take (k + 1) = (Y.map (fun p => keyM p.2)).take k ++ [(i1, i2)]) := by
          rw [Hid, ← List.map_take, ← List.map_take, take_snoc _ (mr0, man0) _ hlt, List.map_append, hp, ← HI.out]
          rfl
        have S3 := Lib.hid (S2.out.newCell 85 #[.int .u64 i1, .int .i64 i2, .int .i64 p.1.size, .slice p.1.A p.1.len p.1.cap])
        clear hp hcn S2
        go_upto_region 8 with fail
        obtain ⟨w4, HW⟩ : ∃ W, Hid (wr.alloc (.cells #[.int .u64 i1, .int .i64 i2, .int .i64 p.1.size, .slice p.1.A p.1.len p.1.cap] 85) = W) := ⟨_, rfl⟩
        obtain ⟨g4, HG4⟩ : ∃ x, Hid (wr.heap.size = x) := ⟨_, rfl⟩
        rw [HW.out, HG4.out] at S3 ⊢
        clear HW HG4 q0 q1 q2 q3
        have c0 := (S3.out.cell 0 rfl).cell 0
        have c1 := (S3.out.cell 0 rfl).cell 1
        have S4 := Lib.hid (S3.out.newCell 36 #[.int .u64 i1, .int .i64 i2])
        go_wp2_with (at_builtin; (refine wpList_rowS (t := 31) (e := 36) (size := 2) (bytes := 16) (i := ii) S4.out 2 rfl (by rfl) (.tmp 24) (.tmp 27) (by rfl) Tryz.underlying31 gi gz0 gz1 gz2 rfl (by omega) (by rfl) ⟨w4.heap.size, 0, none⟩ 1 [.int .u64 i1, .int .i64 i2] (by rfl) rfl (two_new _ _ _ _ _ (by simp)) (encID_one (i1, i2)) (by unfold maxLen; omega) (by omega) ?_); refine halt_ ?_)
        intro v5 w5 s5
        obtain ⟨g5, c5, rfl⟩ := own_some (s5.get 2 rfl) (by omega)
        have S5 : Hid (SW b w0 (rowOb 36 2 (.slice (some ⟨g5, 0, none⟩) (k + 1) c5) (k + 1) (((Y.map (fun p => keyM p.2)).take (k + 1)).flatMap encID) :: rowOb 85 4 (.slice (some ⟨g, 0, none⟩) Y.length d) Y.length ((Y.map cnOf).flatMap encCN) :: l) w5) := by
          have h1 := SW.sub s5 (.cons _ (.cons _ (List.Sublist.refl _)))
          rw [Hid, HTK.out, List.flatMap_append]
          exact h1
        clear s5 S4 S3 c0 c1
        go_wp2_with fail
        go_roundw
        case rel => exact ⟨k + 1, some ⟨g5, 0, none⟩, c5, by go_num, by omega, rfl, S5.out⟩
        case measure => simp [intOf]; omega
      · obtain rfl : k = Y.length := by omega
        have S3 : Hid (SW b w0 (rowOb 36 2 (.slice I Y.length ic) Y.length (((Y.map (·.2)).map keyM).flatMap encID) :: l) wr) := by
          have h1 := SW.sub S2.out (.cons_cons _ (.cons _ (List.Sublist.refl _)))
          rw [List.take_of_length_le (by rw [List.length_map]; exact Nat.le_refl _)] at h1
          rw [Hid, List.map_map]
          exact h1
        clear S2
        go_wp2_with fail
        go_ret2
        exact .inl ⟨ms, Y.map (·.2), S, I, ic, HVO.out, HOP.out, HCO.out, by rw [List.length_map]; rfl, by rw [List.length_map]; exact S3.out⟩
  · have HN := Lib.hid hno
    have S1 := Lib.hid t1
    clear hno t1 HM
    go_wp2_with fail
    go_ret2
    exact .inr ⟨HN.out, rfl, S1.out⟩
end
end Go.Proofs.YtmiknfneeipkeaaGreat
