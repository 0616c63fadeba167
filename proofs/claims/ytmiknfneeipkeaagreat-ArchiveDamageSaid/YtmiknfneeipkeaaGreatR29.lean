/- Contracts of the walk, part 29. -/
import Derived.Deep.DeepAppendRoom
import Derived.Test.YtmiknfneeipkeaaGreatR24
import Derived.Test.YtmiknfneeipkeaaGreatR20
import Derived.Test.YtmiknfneeipkeaaGreatR12
import Derived.Test.YtmiknfneeipkeaaGreatR27
import Derived.Test.YtmiknfneeipkeaaGreatR17
import Derived.Test.YtmiknfneeipkeaaGreatR05
import Derived.Test.YtmiknfneeipkeaaGreatR10
import Derived.Test.YtmiknfneeipkeaaGreatR28
namespace Go.Proofs.YtmiknfneeipkeaaGreat
open Go.RowKit Go.MapKept Go.ChangeMaps Go.Shelf Go.Sort
attribute [local go_sem] wext_cell
section
variable {b : Nat} {w0 w w' : World} {l : List Ob}
abbrev StoP (ms : List Man) (T : List CH) (b : Nat) (w0 : World) (l : List Ob) (e : Ending) (w' : World) : Prop :=
  (errM ms ≠ 0 ∧ e = .returned (.tuple #[.slice none 0 0, .int .i64 (errM ms)]) ∧ SW b w0 l w') ∨
  (errM ms = 0 ∧ ¬ (OneM ms ∧ AllR (setR (idsOf ms)) T) ∧ e = .returned (.tuple #[.slice none 0 0, .int .i64 411]) ∧ SW b w0 l w') ∨
  (errM ms = 0 ∧ OneM ms ∧ AllR (setR (idsOf ms)) T ∧ ∃ (ys : List Man) (d : BD), ConM ms ys ∧ e = .returned (.tuple #[vB d, .int .i64 0]) ∧ SW b w0 (bufOb d (volB ys (selR (setR (idsOf ms)) T)) :: l) w')
set_option maxRecDepth 100000 in
set_option maxHeartbeats 8000000 in
theorem Store_any (h : SW b w0 l w) {A : Option Addr} {rs : List MR} {ms : List Man} (hm : imOb A rs ms ∈ l) (hn : ms.length < 20) (hi : ∀ m ∈ ms, m.ids.length ≤ 9223372036854775807) (hok : ∀ m ∈ ms, ∀ i ∈ m.ids, okID i) {C : Option Addr} {T : List CH} (hc : cxOb C T ∈ l) (hT : ∀ e ∈ T, okID e.1) (hTn : T.length ≤ 9223372036854775807) (hpk : AllR (setR (idsOf ms)) T → (packP (selR (setR (idsOf ms)) T)).length ≤ 1048576) (c d : Nat) :
    Calls Tryz.prog 11 #[.slice A ms.length c, .slice C T.length d] w (StoP ms T b w0 l) := by
  have HM := Lib.hid hm
  have HC := Lib.hid hc
  have HCK := Lib.hid (chunksOf_any h hm (by omega) hi c)
  go_enter Tryz.func11, Tryz.ntmps11
  go_wp2_with (go_at_call 39; (with_reducible refine HCK.out.mono ?_); refine halt_ ?_)
  rintro e w1 (⟨hE, A1, c1, rfl, hc1, s1⟩ | ⟨hE, rfl, s1⟩)
  · simp only [List.nil_append] at hc1 s1
    simp only [List.nil_append]
    have HE := Lib.hid hE
    have HPK0 := Lib.hid hpk
    clear hpk
    have HV : Hid (∀ m ∈ ms, manE m = 0) := errM_each hE
    obtain ⟨ids, HID⟩ : ∃ x, Hid (setR (idsOf ms) = x) := ⟨_, rfl⟩
    rw [HID.out] at s1 hc1 ⊢
    have S1 := Lib.hid s1.rwRi
    have HCO := Lib.hid (contentsOf_any S1.out (.tail _ HM.out) HV.out hn hok c)
    clear hE s1 HCK h
    go_wp2_with (go_at_call 40; (with_reducible refine HCO.out.mono ?_); refine halt_ ?_)
    rintro e w2 (⟨hO, Y, D, dd, hcon, rfl, s2⟩ | ⟨hO, rfl, s2⟩)
    · have HO := Lib.hid hO
      have HCON := Lib.hid hcon
      have HASC : Hid (AscI ids) := by rw [Hid, ← HID.out]; exact setR_strict _
      have HIK : Hid (∀ i ∈ ids, okID i ∧ 1 ≤ i.2 ∧ i.2 ≤ 8192) := fun i hi => by
        rw [← HID.out, setR_mem] at hi
        have hc := chunk_of_err HE.out i hi
        obtain ⟨m, hm1, hm2⟩ := List.mem_flatMap.1 hi
        exact ⟨hok m hm1 i hm2, chunkB_sound hc⟩
      have HIL : Hid (ids.length ≤ 100000) := by
        rw [Hid, ← HID.out]
        have := setR_small HE.out (show ms.length ≤ 90 by omega)
        omega
      have HCH := Lib.hid (choose_any s2 (.tail _ (.tail _ (.head _))) HASC.out (fun i hi => (HIK.out i hi).1) HIL.out (fun i hi => (HIK.out i hi).2.2) (.tail _ (.tail _ (.tail _ HC.out))) hT hTn c1 d)
      clear hO hcon s2 HCO
      go_wp2_with (go_at_call 41; (with_reducible refine HCH.out.mono ?_); refine halt_ ?_)
      rintro e w3 (⟨hA, D2, q2, rfl, s3⟩ | ⟨hA, v2, rfl, s3⟩)
      · have HA := Lib.hid hA
        have HPK : Hid ((packP (selR ids T)).length ≤ 1048576) := by
          have h1 := HPK0.out
          rw [HID.out] at h1
          exact h1 hA
        have HEN : Hid (Calls Tryz.prog 42 #[.slice D2 ids.length q2] w3 (fun e w' => ∃ d, e = .returned (.tuple #[vB d, .int .i64 0]) ∧ SW b w0 (bufOb d (packP (selR ids T)) :: rowOb 85 4 (.slice D Y.length dd) Y.length ((Y.map cnOf).flatMap encCN) :: msOb (Y.map (·.1)) (Y.map (·.2)) :: l) w')) := by
          have h1 := s3.rowCx (C := C) (T := T) (.tail _ (.tail _ (.tail _ HC.out))) (selR_len ids T) (selR_mem hA)
          have h2 := encode_any h1 (.head _) (selR_ok hA (fun i hi => (HIK.out i hi).2)) (selR_asc HASC.out hA) HPK.out (by rw [selR_len]; have := HIL.out; omega) q2
          rw [selR_len] at h2
          refine h2.mono ?_
          rintro e w' ⟨d, rfl, h⟩
          exact ⟨d, rfl, SW.sub h (.cons_cons _ (.cons _ (.cons_cons _ (.cons_cons _ (.cons _ (List.Sublist.refl _))))))⟩
        clear hA s3 HCH
        go_wp2_with (go_at_call 42; (with_reducible refine HEN.out.mono ?_); refine halt_ ?_)
        rintro e w4 ⟨dp, rfl, s4⟩
        have S4 := Lib.hid s4
        have S5 := Lib.hid (S4.out.newX #[.int .u8 83, .int .u8 89, .int .u8 65, .int .u8 82] (4, 5) [83, 89, 65, 82] 4 rfl (by decide) rfl)
        have HYN : Hid (Y.length < 20) := by
          have h1 := conM_len HCON.out
          rw [List.length_map] at h1
          rw [Hid]
          omega
        have hyn : Y.length < 20 := HYN.out
        have HPU : Hid (Calls Tryz.prog 43 #[.slice (some ⟨w4.heap.size, 0, none⟩) 4 4, .int .u64 (Y.length : Int)] (w4.alloc (.cells #[.int .u8 83, .int .u8 89, .int .u8 65, .int .u8 82] 5 (4, 5))) (NewB ([83, 89, 65, 82] ++ putU Y.length) (w4.alloc (.cells #[.int .u8 83, .int .u8 89, .int .u8 65, .int .u8 82] 5 (4, 5))))) := (PutUint_any (some ⟨w4.heap.size, 0, none⟩) 4 [83, 89, 65, 82] Y.length (w4.alloc (.cells #[.int .u8 83, .int .u8 89, .int .u8 65, .int .u8 82] 5 (4, 5))) ((S5.out.get 0 (o := bxOb _ _) rfl).1.sb) (by decide) (by have := HYN.out; omega))
        have hcv := Lib.run_convert_bytes_const (P := Tryz.prog) w4 40 5 #[.int .u8 83, .int .u8 89, .int .u8 65, .int .u8 82] 4 4 Tryz.underlying40 Tryz.underlying5
        clear HEN s4
        unfold vB
        go_wp2_with (go_at_call 43; (with_reducible refine HPU.out.mono ?_); refine halt_ ?_)
        rintro e w5 ⟨d5, rfl, hr5, hn5, hb5⟩
        have S6 : Hid (SW b w0 (bufOb d5 (volH Y.length ((Y.map (·.2)).take 0)) :: bufOb dp (packP (selR ids T)) :: rowOb 85 4 (.slice D Y.length dd) Y.length ((Y.map cnOf).flatMap encCN) :: msOb (Y.map (·.1)) (Y.map (·.2)) :: l) w5) := by
          have h1 := SW.newBuT S5.out hb5 hr5 hn5
          rw [Hid, List.take_zero, volH_nil]
          exact SW.sub h1 (.cons_cons _ (.cons _ (List.Sublist.refl _)))
        have HYE : Hid (∀ m ∈ Y.map (·.2), manE m = 0) := fun m hm => HV.out m ((HCON.out.2 m).1 hm)
        have HYO : Hid (∀ m ∈ Y.map (·.2), ∀ i ∈ m.ids, okID i) := fun m hm => hok m ((HCON.out.2 m).1 hm)
        have HVL : Hid (∀ k, (volH Y.length ((Y.map (·.2)).take k)).length ≤ 430000) := fun k => by
          have hy := HYN.out
          have h1 := volH_le (ys := (Y.map (·.2)).take k) (fun m hm => HYE.out m (List.mem_of_mem_take hm)) (fun m hm => HYO.out m (List.mem_of_mem_take hm)) (by rw [List.length_take, List.length_map]; omega) Y.length
          have h2 := putU_ten (v := Y.length) (by omega)
          rw [List.length_take, List.length_map] at h1
          omega
        clear hr5 hn5 hb5 HPU S4 S5 hcv
        unfold vB
        go_wp2_with fail
        go_loopw [12, 56] (fun s12 s56 wr => ∃ (k : Nat) (d : BD), k ≤ Y.length ∧ s56 = .int .i64 (k : Int) ∧ s12 = .slice d.A d.len d.cap ∧ SW b w0 (bufOb d (volH Y.length ((Y.map (·.2)).take k)) :: bufOb dp (packP (selR ids T)) :: rowOb 85 4 (.slice D Y.length dd) Y.length ((Y.map cnOf).flatMap encCN) :: msOb (Y.map (·.1)) (Y.map (·.2)) :: l) wr) (fun _ s56 _ => Y.length - (intOf s56).toNat)
        case atStart => exact ⟨0, d5, Nat.zero_le _, rfl, rfl, S6.out⟩
        case round =>
          obtain ⟨k, d, hk, rfl, rfl, hs⟩ := hrel
          have S7 := Lib.hid hs
          clear hs S6
          by_cases hlt : k < Y.length
          · obtain ⟨⟨⟨z, rA, rn, rc⟩, m⟩, HY⟩ : ∃ p, Hid (Y.getD k (mr0, man0) = p) := ⟨_, rfl⟩
            have e1 : (Y.map (·.1)).getD k mr0 = ⟨z, rA, rn, rc⟩ := by
              have : (Y.map (·.1)).getD k mr0 = (Y.getD k (mr0, man0)).1 := by simp [List.getD_eq_getElem?_getD, List.getElem?_eq_getElem hlt]
              rw [this, HY.out]
            have e2 : (Y.map (·.2)).getD k man0 = m := by
              have : (Y.map (·.2)).getD k man0 = (Y.getD k (mr0, man0)).2 := by simp [List.getD_eq_getElem?_getD, List.getElem?_eq_getElem hlt]
              rw [this, HY.out]
            have hmem : m ∈ Y.map (·.2) := by rw [← e2]; exact getD_mem _ _ _ (by rw [List.length_map]; exact hlt)
            have HTK : Hid (volH Y.length ((Y.map (·.2)).take (k + 1)) = volH Y.length ((Y.map (·.2)).take k) ++ (putU (manB m).length ++ manB m)) := by
              rw [Hid, take_snoc _ man0 _ (by rw [List.length_map]; exact hlt), e2, volH_snoc]
            have hM := (S7.out.1.holds (msOb (Y.map (·.1)) (Y.map (·.2))) (.tail _ (.tail _ (.tail _ (.head _))))).2 k (by rw [List.length_map]; exact hlt)
            rw [e1, e2] at hM
            obtain ⟨l1, l2, l3, l4⟩ := hM
            simp only at l1 l2 l3 l4
            subst l1 l2
            have HR := Lib.hid l4
            have hcn : (Y.map cnOf).getD k cn0 = (keyM m, ⟨m.size, rA, m.ids.length, rc⟩) := by
              have : (Y.map cnOf).getD k cn0 = cnOf (Y.getD k (mr0, man0)) := by simp [List.getD_eq_getElem?_getD, List.getElem?_eq_getElem hlt]
              rw [this, HY.out, cnOf]
            obtain ⟨⟨a1, a2⟩, hkm⟩ : ∃ a, keyM m = a := ⟨_, rfl⟩
            rw [hkm] at hcn
            obtain ⟨gD, cD, e7⟩ := own_some (S7.out.get 2 rfl) (by omega)
            injection e7 with e7 e8 e9
            clear e8 e9
            subst e7
            have hrow : wr.ownsRow 0 85 4 (.slice (some ⟨gD, 0, none⟩) Y.length dd) Y.length ((Y.map cnOf).flatMap encCN) := S7.out.get 2 rfl
            have cellB : ∀ a v, a < 4 → (encCN ((a1, a2), (⟨m.size, rA, m.ids.length, rc⟩ : MR)))[a]? = some v → wr.cell? ⟨gD, k * 4 + a, none⟩ = some v := fun a v ha hv => by
              rw [hrow.cellAt (k * 4 + a) (by omega), flat_at encCN_len cn0 _ k a (by rw [List.length_map]; omega) ha, hcn]
              exact hv
            have p0 : wr.cell? ⟨gD, k * 4, none⟩ = some (.int .u64 a1) := cellB 0 _ (by omega) rfl
            have p1 : wr.cell? ⟨gD, k * 4 + 1, none⟩ = some (.int .i64 a2) := cellB 1 _ (by omega) rfl
            have p2 : wr.cell? ⟨gD, k * 4 + 2, none⟩ = some (.int .i64 m.size) := cellB 2 _ (by omega) rfl
            have p3 : wr.cell? ⟨gD, k * 4 + 3, none⟩ = some (.slice rA m.ids.length rc) := cellB 3 _ (by omega) rfl
            have S8 := Lib.hid (S7.out.newCell 85 #[.int .u64 a1, .int .i64 a2, .int .i64 m.size, .slice rA m.ids.length rc])
            have HME := Lib.hid (manEnc_any _ m rA rc _ (HR.out.on (bel1q wr (.cells #[.int .u64 a1, .int .i64 a2, .int .i64 m.size, .slice rA m.ids.length rc] 85))) (HYE.out m hmem) (HYO.out m hmem))
            have HBL : Hid ((manB m).length ≤ 20500) := manB_len (HYE.out m hmem) (HYO.out m hmem)
            clear cellB hcn hkm hrow e1 e2 hmem l3 l4
            have hrb : RB wr d (volH Y.length ((Y.map (·.2)).take k)) := S7.out.get 0 (o := bufOb d _) rfl
            have hd9 : d.len = (volH Y.length ((Y.map (·.2)).take k)).length := hrb.1.symm
            have HDL := Lib.hid hd9
            clear hd9 hrb
            go_wp2_with (go_at_call 44; (with_reducible refine HME.out.mono ?_); refine halt_ ?_)
            rintro e w6 d6 rfl hbf
            have R6 := Lib.hid hbf.rb
            have S9 := Lib.hid (S8.out.on hbf.bl)
            have HD6 : Hid ((manB m).length = d6.len) := hbf.rb.1
            have hd6 : d6.len ≤ 20500 := by rw [← HD6.out]; exact HBL.out
            have HPB : Hid (Calls Tryz.prog 43 #[.slice d.A d.len d.cap, .int .u64 (d6.len : Int)] w6 (NewB (volH Y.length ((Y.map (·.2)).take k) ++ putU d6.len) w6)) := by
              have h1 := PutUint_any d.A d.cap (volH Y.length ((Y.map (·.2)).take k)) d6.len w6 ((S9.out.get 1 (o := bufOb d (volH Y.length ((Y.map (·.2)).take k))) rfl : RB w6 d _).src) (by have := HVL.out k; omega) (by omega)
              rw [← HDL.out] at h1
              exact h1
            clear hbf S7 S8 HME p0 p1 p2 p3
            unfold vB
            go_wp2_with (go_at_call 43; (with_reducible refine HPB.out.mono ?_); refine halt_ ?_)
            rintro e w7 ⟨d7, rfl, hr7, hn7, hb7⟩
            have S10 := Lib.hid (SW.newBuT S9.out hb7 hr7 hn7)
            have R7 := Lib.hid (R6.out.on hb7)
            have hbd : (volH Y.length ((Y.map (·.2)).take k) ++ putU d6.len).length + d6.len ≤ 1099511627776 := by
              have h1 := HVL.out (k + 1)
              rw [HTK.out, List.length_append, List.length_append, HD6.out] at h1
              rw [List.length_append]
              omega
            clear hr7 hn7 hb7 S9 HPB R6
            unfold vB
            go_wp2_with (at_builtin; refine halt_q ?_)
            refine wpList_bufS S10.out rfl _ _ rfl rfl d6.A d6.len d6.cap (manB m) rfl R7.out.1 R7.out.src hbd ?_
            intro d8 w8 s8
            have S11 : Hid (SW b w0 (bufOb d8 (volH Y.length ((Y.map (·.2)).take (k + 1))) :: bufOb dp (packP (selR ids T)) :: rowOb 85 4 (.slice (some ⟨gD, 0, none⟩) Y.length dd) Y.length ((Y.map cnOf).flatMap encCN) :: msOb (Y.map (·.1)) (Y.map (·.2)) :: l) w8) := by
              rw [Hid, HTK.out, HD6.out, ← List.append_assoc]
              exact SW.sub s8 (.cons_cons _ (.cons _ (.cons _ (List.Sublist.refl _))))
            clear s8 S10 R7 hbd
            unfold vB
            go_wp2_with fail
            go_roundw
            case rel => exact ⟨k + 1, d8, by omega, by go_num, rfl, S11.out⟩
            case measure => simp [intOf]; omega
          · obtain rfl : k = Y.length := by omega
            have HTL : Hid ((Y.map (·.2)).take Y.length = Y.map (·.2)) := by
              have h1 : (Y.map (·.2)).length = Y.length := List.length_map ..
              rw [Hid, ← h1, List.take_length]
            have hvl := HVL.out Y.length
            rw [HTL.out] at S7 hvl
            have RP : Hid (RB wr dp (packP (selR ids T))) := S7.out.get 1 (o := bufOb dp (packP (selR ids T))) rfl
            have hbd : (volH Y.length (Y.map (·.2))).length + dp.len ≤ 1099511627776 := by
              have h1 := RP.out.1
              have h2 := HPK.out
              omega
            go_wp2_with (at_builtin; refine halt_q ?_)
            refine wpList_bufS S7.out rfl _ _ rfl rfl dp.A dp.len dp.cap (packP (selR ids T)) rfl RP.out.1 RP.out.src hbd ?_
            intro d8 w8 s8
            have S8 : Hid (SW b w0 (bufOb d8 (volB (Y.map (·.2)) (selR (setR (idsOf ms)) T)) :: l) w8) := by
              rw [Hid, HID.out, volB, List.length_map]
              exact SW.sub s8 (.cons_cons _ (.cons _ (.cons _ (.cons _ (List.Sublist.refl _)))))
            have HA2 : Hid (AllR (setR (idsOf ms)) T) := by rw [Hid, HID.out]; exact HA.out
            clear s8 S7 RP
            unfold vB
            go_wp2_with fail
            go_ret2
            exact .inr (.inr ⟨HE.out, HO.out, HA2.out, Y.map (·.2), d8, HCON.out, rfl, S8.out⟩)
      · have HNO : Hid (¬ (OneM ms ∧ AllR (setR (idsOf ms)) T)) := fun h => hA (by rw [← HID.out]; exact h.2)
        have S3 := Lib.hid s3.tail.tail.tail
        clear hA s3 HCH
        go_wp2_with fail
        go_ret2
        exact .inr (.inl ⟨HE.out, HNO.out, rfl, S3.out⟩)
    · have HO : Hid (¬ (OneM ms ∧ AllR (setR (idsOf ms)) T)) := fun h => hO h.1
      have S2 := Lib.hid s2.tail
      clear hO s2 HCO
      go_wp2_with fail
      go_ret2
      exact .inr (.inl ⟨HE.out, HO.out, rfl, S2.out⟩)
  · have hbe : (errM ms != 0) = true := by rw [bne_iff_ne]; exact hE
    have HE := Lib.hid hE
    have S1 := Lib.hid s1
    clear hE s1 HCK h
    go_wp2_with fail
    go_ret2
    exact .inl ⟨HE.out, rfl, S1.out⟩
end
end Go.Proofs.YtmiknfneeipkeaaGreat
namespace Go.Proofs.YtmiknfneeipkeaaGreat
open Go.RowKit Go.MapKept Go.ChangeMaps Go.Shelf Go.Sort
attribute [local go_sem] wext_cell
theorem rWhole_ok (x : Nat) (m : Man) (A : Option Addr) (c : Nat) (w : World) (hr : RdID w x A m.ids) (hn : m.ids.length ≤ 9223372036854775807) (hok : ∀ i ∈ m.ids, okID i) (he : manE m = 0) :
    Calls Tryz.prog 10 #[.agg #[.int .i64 m.size, .slice A m.ids.length c]] w (Gives (.tuple #[.agg #[.int .u64 (keyM m).1, .int .i64 (keyM m).2], .int .i64 0]) w) :=
  (rWhole_any x m A c w hr hn hok).mono (fun e w' ⟨h1, h2⟩ => ⟨by rw [h1, if_pos he, he]; rfl, h2⟩)
section
variable {b : Nat} {w0 w w' : World} {l : List Ob}
end
end Go.Proofs.YtmiknfneeipkeaaGreat
namespace Go.Proofs.YtmiknfneeipkeaaGreat
open Go.RowKit Go.MapKept Go.ChangeMaps Go.Shelf Go.Sort
attribute [local go_sem] wext_cell
section
variable {b : Nat} {w0 w w' : World} {l : List Ob}
end
end Go.Proofs.YtmiknfneeipkeaaGreat
namespace Go.Proofs.YtmiknfneeipkeaaGreat
open Go.RowKit Go.MapKept Go.ChangeMaps
theorem one_new (w : World) (x : Nat) (hx : x < 256) (v : Int) (hv : v = (x : Int)) : Buf w (w.alloc (.cells #[.int .u8 v] 5)) ⟨some ⟨w.heap.size, 0, none⟩, 1, 1⟩ [UInt8.ofNat x] := by
  subst hv
  have hc : [UInt8.ofNat x].map encU = (#[.int .u8 (x : Int)] : Array Value).toList := by
    have h : (((UInt8.ofNat x).toNat : Nat) : Int) = (x : Int) := by
      rw [UInt8.toNat_ofNat']
      omega
    simp only [List.map_cons, List.map_nil, encU, h]
  exact ⟨new_bytes w #[.int .u8 (x : Int)] _ _ _ _ rfl rfl (by decide) (by simp) (by rw [hc]; simp), (fun g hg => by simp [blk] at hg; omega), (Below.refl _ _).alloc (Nat.le_refl _) _⟩
set_option maxRecDepth 100000 in
set_option maxHeartbeats 4000000 in
theorem rUint_any (v : Nat) : ∀ (w : World), v < 18446744073709551616 → Calls Tryz.prog 48 #[.int .u64 (v : Int)] w (NewB (putU v) w) := by
  induction v using Nat.strongRecOn with
  | ind v ih =>
    intro w hv
    have IH := Lib.hid ih
    clear ih
    by_cases h : v < 128
    · have HP : Hid (putU v = [UInt8.ofNat v]) := by rw [Hid, putU, dif_pos h]
      go_enter Tryz.func48, Tryz.ntmps48
      go_wp2_with fail
      go_ret
      have h1 := one_new w v (by omega) (v : Int) rfl
      exact ⟨⟨_, 1, 1⟩, rfl, by rw [HP.out]; exact h1.rb, h1.nw, h1.bl⟩
    · have HP : Hid (putU v = UInt8.ofNat (v % 128 + 128) :: putU (v / 128)) := by rw [Hid, putU, dif_neg h]
      have HU : Hid (∀ W, Calls Tryz.prog 48 #[.int .u64 ((v : Int) / 128)] W (NewB (putU (v / 128)) W)) := fun W => by
        have h1 := IH.out (v / 128) (by omega) W (by omega)
        rw [show ((v / 128 : Nat) : Int) = (v : Int) / 128 by omega] at h1
        exact h1
      have B0 := Lib.hid (one_new w (v % 128 + 128) (by omega) ((v : Int) % 128 + 128) (by omega))
      have HL : Hid ((putU (v / 128)).length ≤ 10) := putU_len (k := 9) (by omega)
      clear IH
      go_enter Tryz.func48, Tryz.ntmps48
      go_wp2_with (go_at_call 48; (with_reducible refine (HU.out _).mono ?_); refine halt_ ?_)
      rintro e1 w1 ⟨d1, rfl, hr1, hn1, hb1⟩
      have B1 := Lib.hid (B0.out.on hb1)
      have R1 := Lib.hid hr1
      clear B0 hr1 hn1 hb1 HU
      unfold vB
      go_wp2_with (at_builtin; refine halt_q ?_)
      refine wpList_buf B1.out rfl _ _ rfl rfl d1.A d1.len d1.cap (putU (v / 128)) rfl R1.out.1 R1.out.src (by rw [← R1.out.1]; have := HL.out; simp only [List.length_singleton]; omega) ?_
      intro d2 w2 b2
      have B2 := Lib.hid b2
      clear b2 B1 R1
      unfold vB
      go_wp2_with fail
      go_ret
      exact ⟨d2, rfl, by rw [HP.out]; exact B2.out.rb, B2.out.nw, B2.out.bl⟩
end Go.Proofs.YtmiknfneeipkeaaGreat
namespace Go.Proofs.YtmiknfneeipkeaaGreat
open Go.RowKit Go.MapKept Go.ChangeMaps Go.Shelf Go.Sort
attribute [local go_sem] wext_cell
set_option maxRecDepth 100000 in
set_option maxHeartbeats 4000000 in
theorem rFrame_any (e : BS) (w : World) (h : BSok w e) (hn : e.bs.length ≤ 8192) :
    Calls Tryz.prog 30 #[.agg #[.int .u64 ((fpSum e.bs : Nat) : Int), .int .i64 ((e.bs.length : Nat) : Int), .slice e.d.A e.bs.length e.d.cap]] w (NewB (frameP (((fpSum e.bs : Nat), (e.bs.length : Nat)), e)) w) := by
  have S0 := Lib.hid ((SW.refl (Sep.nil w (Nat.le_refl _))).newCell 42 #[.int .u64 ((fpSum e.bs : Nat) : Int), .int .i64 ((e.bs.length : Nat) : Int), .slice e.d.A e.bs.length e.d.cap])
  have H := Lib.hid h.1
  have HU1 := Lib.hid (fun W => rUint_any e.bs.length W (by omega))
  have HU2 := Lib.hid (fun W => rUint_any (fpSum e.bs) W (by have := fpSum_lt e.bs; unfold pP at this; omega))
  clear h
  go_enter Tryz.func30, Tryz.ntmps30
  go_upto_region 1 with fail
  obtain ⟨wa, HW⟩ : ∃ W, Hid (w.alloc (.cells #[.int .u64 ((fpSum e.bs : Nat) : Int), .int .i64 ((e.bs.length : Nat) : Int), .slice e.d.A e.bs.length e.d.cap] 42) = W) := ⟨_, rfl⟩
  obtain ⟨gX, HGX⟩ : ∃ x, Hid (w.heap.size = x) := ⟨_, rfl⟩
  rw [HW.out] at S0 ⊢
  rw [HGX.out] at S0 ⊢
  have b1 := (S0.out.cell 0 rfl).cell 1
  have hlX := (S0.out.cell 0 rfl).lt
  have S1 := Lib.hid (S0.out.newX #[.int .u8 1] (0, 0) [1] 1 rfl (by decide) rfl)
  clear HW S0
  go_wp2_with (go_at_call 48; (with_reducible refine (HU1.out _).mono ?_); refine halt_ ?_)
  rintro e1 w1 ⟨d1, rfl, hr1, _, hb1⟩
  have S2 := Lib.hid (S1.out.on hb1)
  have R1 := Lib.hid hr1
  clear hr1 hb1 S1 b1 HU1
  unfold vB
  go_wp2_with (at_builtin; refine halt_q ?_)
  refine wpList_bufX S2.out rfl _ _ rfl rfl d1.A d1.len d1.cap (putU e.bs.length) rfl R1.out.1 (by rw [← R1.out.1]; exact putU_pos _) R1.out.src (by rw [← R1.out.1]; have := putU_ten (v := e.bs.length) (by omega); simp only [List.length_singleton]; omega) ?_
  intro d2 w2 s2
  have S3 := Lib.hid s2
  have f0 := (S3.out.cell 1 rfl).cell 0
  clear s2 S2 R1
  unfold vB
  go_wp2_with (go_at_call 48; (with_reducible refine (HU2.out _).mono ?_); refine halt_ ?_)
  rintro e2 w3 ⟨d3, rfl, hr3, _, hb3⟩
  have S4 := Lib.hid (S3.out.on hb3)
  have R3 := Lib.hid hr3
  clear hr3 hb3 S3 f0
  unfold vB
  go_wp2_with (at_builtin; refine halt_q ?_)
  refine wpList_bufS S4.out rfl _ _ rfl rfl d3.A d3.len d3.cap (putU (fpSum e.bs)) rfl R3.out.1 R3.out.src (by rw [← R3.out.1]; have h1 := putU_ten (v := e.bs.length) (by omega); have h2 := putU_ten (v := fpSum e.bs) (by have := fpSum_lt e.bs; unfold pP at this; omega); simp only [List.length_append, List.length_singleton]; omega) ?_
  intro d4 w4 s4
  have S5 := Lib.hid s4
  have f2 := (S5.out.cell 1 rfl).cell 2
  have H5 := Lib.hid (H.out.on (by rw [HGX.out]; exact S5.out.2))
  clear s4 S4 R3
  unfold vB
  go_wp2_with (at_builtin; refine halt_q ?_)
  refine wpList_bufS S5.out rfl _ _ rfl rfl e.d.A e.bs.length e.d.cap e.bs rfl rfl H5.out.sb (by have h1 := putU_ten (v := e.bs.length) (by omega); have h2 := putU_ten (v := fpSum e.bs) (by have := fpSum_lt e.bs; unfold pP at this; omega); simp only [List.length_append, List.length_singleton]; omega) ?_
  intro d6 w6 s6
  have S6 := Lib.hid s6
  clear s6 S5 f2
  unfold vB
  go_wp2_with fail
  go_ret
  exact ⟨d6, rfl, S6.out.get 0 (o := bufOb d6 _) rfl, (fun g hg => by rw [HGX.out]; exact (S6.out.1.own _ (.head _) g hg).1), by rw [HGX.out]; exact S6.out.2⟩
end Go.Proofs.YtmiknfneeipkeaaGreat
namespace Go.Proofs.YtmiknfneeipkeaaGreat
open Go.RowKit Go.MapKept Go.ChangeMaps Go.Shelf Go.Sort
attribute [local go_sem] wext_cell
section
variable {b : Nat} {w0 w w' : World} {l : List Ob}
set_option maxRecDepth 100000 in
set_option maxHeartbeats 8000000 in
theorem rPack_any (h : SW b w0 l w) {C : Option Addr} {T : List CH} (hc : cxOb C T ∈ l) (hok : ∀ e ∈ T, okCH e = true) (ha : T.Pairwise (fun a b => ltID a.1 b.1 = true)) (hl : (packP T).length ≤ 1048576) (hTn : T.length ≤ 1048576) (c : Nat) :
    Calls Tryz.prog 28 #[.slice C T.length c] w (fun e w' => ∃ d, e = .returned (.tuple #[vB d, .int .i64 0]) ∧ SW b w0 (bufOb d (packP T) :: l) w') := by
  have HC := Lib.hid hc
  have HOK := Lib.hid hok
  have HA := Lib.hid ha
  have HL := Lib.hid hl
  have S0 := Lib.hid (h.newX #[.int .u8 83, .int .u8 89, .int .u8 80, .int .u8 75] (4, 5) [83, 89, 80, 75] 4 rfl (by decide) rfl)
  have hFl : (packF T).length + 1 + (putU T.length).length + (putU (fpSum (packB T))).length ≤ 1048576 := by
    have := hl
    simp only [packP, packB, List.length_append, List.length_singleton] at this
    simp only [packB]
    omega
  have HFL := Lib.hid hFl
  have hFT : (packF T).length ≤ 1048576 := by omega
  clear h hc hok ha hl hFl
  have hcv := Lib.run_convert_bytes_const (P := Tryz.prog) w 40 5 #[.int .u8 83, .int .u8 89, .int .u8 80, .int .u8 75] 4 4 Tryz.underlying40 Tryz.underlying5
  go_enter Tryz.func28, Tryz.ntmps28
  go_upto_region 2 with fail
  clear hcv
  obtain ⟨w1, HW⟩ : ∃ W, Hid (w.alloc (.cells #[.int .u8 83, .int .u8 89, .int .u8 80, .int .u8 75] 5 (4, 5)) = W) := ⟨_, rfl⟩
  rw [HW.out] at S0 ⊢
  clear HW
  go_wp2_with fail
  go_loopw [4, 5] (fun s4 s11 wr => ∃ (k : Nat) (d : BD), k ≤ T.length ∧ s11 = .int .i64 (k : Int) ∧ s4 = .slice d.A d.len d.cap ∧ d.len = (packF (T.take k)).length ∧ SW b w0 (bxOb d (packF (T.take k)) :: l) wr) (fun _ s11 _ => T.length - (intOf s11).toNat)
  case atStart => exact ⟨0, ⟨some ⟨w.heap.size, 0, none⟩, 4, 4⟩, Nat.zero_le _, rfl, rfl, rfl, S0.out⟩
  case round =>
    obtain ⟨k, d, hk, rfl, rfl, hdl, hs⟩ := hrel
    have S1 := Lib.hid hs
    have hdm : d.len ≤ 1048576 := by have := packF_le T k; omega
    have HDL := Lib.hid hdl
    have hfl := packF_le T k
    clear hs S0 hdl
    by_cases hlt : k < T.length
    · obtain ⟨⟨⟨i1, i2⟩, e⟩, hte⟩ : ∃ e, T.getD k ch0 = e := ⟨_, rfl⟩
      have hmem : ((i1, i2), e) ∈ T := by rw [← hte]; exact getD_mem _ _ _ hlt
      have hoke := HOK.out _ hmem
      obtain ⟨rfl, rfl, hl1, hl2⟩ := okCH_eq hoke
      have HTK : Hid (packF (T.take (k + 1)) = packF (T.take k) ++ frameP (((fpSum e.bs : Nat), (e.bs.length : Nat)), e)) := by rw [Hid, take_snoc _ ch0 _ hlt, hte, packF_snoc]
      obtain ⟨gT, o, rfl, hgT, c0, c1, c2, hbs⟩ := cx_at (S1.out.1.holds _ (.tail _ HC.out)) hlt hte
      have HRI := Lib.hid (rRight_any ((fpSum e.bs : Nat) : Int) ((e.bs.length : Nat) : Int) e _ hbs (by omega))
      rw [hoke] at HRI
      have HTE := Lib.hid hte
      clear hbs hoke hmem hte
      go_wp2_with (go_at_call 72; (with_reducible refine HRI.out.mono ?_); refine halt_ ?_)
      rintro e9 w2 ⟨rfl, hb2⟩
      have S3 := Lib.hid (S1.out.on hb2)
      clear hb2 S1 HRI c0 c1 c2 hgT
      obtain ⟨gT', o', e7, hgT, c0, c1, c2, hbs⟩ := cx_at (S3.out.1.holds _ (.tail _ HC.out)) hlt HTE.out
      injection e7 with e7
      injection e7 with e7 e8 _
      subst e7 e8
      clear hbs
      by_cases hk0 : k = 0
      · have hkd : decide (0 < k) = false := by simp [hk0]
        clear hk0
        go_wp2_with fail
        refine wp_region_ext (by kernel_rfl) (by kernel_rfl) ?_
        repeat (go_big_quiet_step (fail))
        refine wpQuiet_nil ?_
        intro w4 hb4
        have S4 := Lib.hid (S3.out.on hb4)
        clear hb4 S3 c0 c1 c2 hgT 
        obtain ⟨gT', o', e7, hgT, c0, c1, c2, hbs⟩ := cx_at (S4.out.1.holds _ (.tail _ HC.out)) hlt HTE.out
        injection e7 with e7
        injection e7 with e7 e8 _
        subst e7 e8
        have HFR := Lib.hid (rFrame_any e w4 hbs hl2)
        clear hbs
        go_wp2_with (go_at_call 30; (with_reducible refine HFR.out.mono ?_); refine halt_ ?_)
        rintro e5 w5 ⟨d5, rfl, hr5, _, hb5⟩
        have S5 := Lib.hid (S4.out.on hb5)
        have R5 := Lib.hid hr5
        clear hr5 hb5 S4 HFR c0 c1 c2 hgT
        have hfr : (packF (T.take k)).length + d5.len ≤ 1048576 := by
          have h1 := packF_le T (k + 1)
          rw [HTK.out, List.length_append, R5.out.1] at h1
          omega
        unfold vB
        go_wp2_with (at_builtin; refine halt_q ?_)
        refine wpList_bufX S5.out rfl _ _ rfl rfl d5.A d5.len d5.cap (frameP (((fpSum e.bs : Nat), (e.bs.length : Nat)), e)) rfl R5.out.1 (by rw [← R5.out.1, frameP]; simp) R5.out.src (by omega) ?_
        intro d10 w10 s10
        have SB : Hid (SW b w0 (bufOb d10 (packF (T.take (k + 1))) :: l) w10) := by
          rw [Hid, HTK.out]
          exact s10
        have HD10 : Hid (d10.len = (packF (T.take (k + 1))).length) := ((SB.out.get 0 (o := bufOb d10 (packF (T.take (k + 1)))) rfl : RB w10 d10 (packF (T.take (k + 1)))).1).symm
        clear S5 s10 R5
        unfold vB
        go_wp2_with fail
        go_roundw
        case rel => exact ⟨k + 1, d10, by omega, by go_num, rfl, HD10.out, SB.out.bufX⟩
        case measure => simp [intOf]; omega
      · have hkd : decide (0 < k) = true := by simp; omega
        have hk1 : 0 < k := by omega
        have ek : ((k : Int) - 1).toNat = k - 1 := by omega
        obtain ⟨⟨⟨p1, p2⟩, pe⟩, hpe⟩ : ∃ e, T.getD (k - 1) ch0 = e := ⟨_, rfl⟩
        obtain ⟨g2, o2, e7, hgT2, a0, a1, _, _⟩ := cx_at (S3.out.1.holds _ (.tail _ HC.out)) (show k - 1 < T.length by omega) hpe
        injection e7 with e7
        injection e7 with e7 e8 _
        subst e7 e8
        have hlo : ltID (p1, p2) (((fpSum e.bs : Nat) : Int), ((e.bs.length : Nat) : Int)) = true := by
          have := List.pairwise_iff_getElem.1 HA.out (k - 1) k (by omega) hlt (by omega)
          have e1 : T[k - 1] = ((p1, p2), pe) := by rw [← hpe, List.getD_eq_getElem?_getD, List.getElem?_eq_getElem (by omega)]; rfl
          have e2 : T[k] = ((((fpSum e.bs : Nat) : Int), ((e.bs.length : Nat) : Int)), e) := by rw [← HTE.out, List.getD_eq_getElem?_getD, List.getElem?_eq_getElem hlt]; rfl
          rw [e1, e2] at this
          exact this
        have HCM := Lib.hid (fun W => Less_any p1 p2 ((fpSum e.bs : Nat) : Int) ((e.bs.length : Nat) : Int) W)
        rw [hlo] at HCM
        clear hlo hk0 hpe
        go_wp2_with fail
        refine wp_region_ext (by kernel_rfl) (by kernel_rfl) ?_
        repeat (go_big_quiet_step ((go_at_call 71; exact ext_call (HCM.out _))))
        refine wpQuiet_nil ?_
        intro w4 hb4
        have S4 := Lib.hid (S3.out.on hb4)
        clear hb4 S3 c0 c1 c2 hgT a0 a1 HCM hgT2
        obtain ⟨gT', o', e7, hgT, c0, c1, c2, hbs⟩ := cx_at (S4.out.1.holds _ (.tail _ HC.out)) hlt HTE.out
        injection e7 with e7
        injection e7 with e7 e8 _
        subst e7 e8
        have HFR := Lib.hid (rFrame_any e w4 hbs hl2)
        clear hbs
        go_wp2_with (go_at_call 30; (with_reducible refine HFR.out.mono ?_); refine halt_ ?_)
        rintro e5 w5 ⟨d5, rfl, hr5, _, hb5⟩
        have S5 := Lib.hid (S4.out.on hb5)
        have R5 := Lib.hid hr5
        clear hr5 hb5 S4 HFR c0 c1 c2 hgT
        have hfr : (packF (T.take k)).length + d5.len ≤ 1048576 := by
          have h1 := packF_le T (k + 1)
          rw [HTK.out, List.length_append, R5.out.1] at h1
          omega
        unfold vB
        go_wp2_with (at_builtin; refine halt_q ?_)
        refine wpList_bufX S5.out rfl _ _ rfl rfl d5.A d5.len d5.cap (frameP (((fpSum e.bs : Nat), (e.bs.length : Nat)), e)) rfl R5.out.1 (by rw [← R5.out.1, frameP]; simp) R5.out.src (by omega) ?_
        intro d10 w10 s10
        have SB : Hid (SW b w0 (bufOb d10 (packF (T.take (k + 1))) :: l) w10) := by
          rw [Hid, HTK.out]
          exact s10
        have HD10 : Hid (d10.len = (packF (T.take (k + 1))).length) := ((SB.out.get 0 (o := bufOb d10 (packF (T.take (k + 1)))) rfl : RB w10 d10 (packF (T.take (k + 1)))).1).symm
        clear S5 s10 R5
        unfold vB
        go_wp2_with fail
        go_roundw
        case rel => exact ⟨k + 1, d10, by omega, by go_num, rfl, HD10.out, SB.out.bufX⟩
        case measure => simp [intOf]; omega
    · obtain rfl : k = T.length := by omega
      rw [List.take_length] at S1 HDL
      have hdl := HDL.out
      have HP := Lib.hid (sb_one wr 0 0 (by decide))
      have HFL2 := HFL.out
      go_wp2_with (at_builtin; refine halt_q ?_)
      refine wpList_bufX (S1.out.alloc _) rfl _ _ rfl rfl (some ⟨wr.heap.size, 0, none⟩) 1 1 [0] rfl rfl (by decide) HP.out (by omega) ?_
      intro d5 w5 s5
      have S6 := Lib.hid s5
      have HP1 := Lib.hid (rUint_any T.length w5 (by omega))
      clear s5 S1 HP hdl HDL
      unfold vB
      go_wp2_with (go_at_call 48; (with_reducible refine HP1.out.mono ?_); refine halt_ ?_)
      rintro e6 w6 ⟨d6, rfl, hr6, _, hb6⟩
      have S7 := Lib.hid (S6.out.on hb6)
      have R6 := Lib.hid hr6
      clear S6 HP1 hr6 hb6
      unfold vB
      go_wp2_with (at_builtin; refine halt_q ?_)
      refine wpList_bufS S7.out rfl _ _ rfl rfl d6.A d6.len d6.cap (putU T.length) rfl R6.out.1 R6.out.src (by rw [← R6.out.1]; simp only [List.length_append, List.length_singleton]; omega) ?_
      intro d7 w7 s7
      have S8 : Hid (SW b w0 (bufOb d7 (packB T) :: l) w7) := s7
      have HBL : Hid ((packB T).length ≤ 1048576) := by
        rw [Hid, packB]
        simp only [List.length_append, List.length_singleton]
        omega
      have R7 : Hid (RB w7 d7 (packB T)) := S8.out.get 0 (o := bufOb d7 (packB T)) rfl
      have HS := Lib.hid (rSum_any d7.A d7.cap (packB T) w7 R7.out.rs (by have := HBL.out; omega))
      rw [R7.out.1] at HS
      clear S7 s7 R6
      unfold vB
      go_wp2_with (go_at_call 73; (with_reducible refine HS.out.mono ?_); refine halt_ ?_)
      rintro e8 w8 ⟨rfl, hb8⟩
      have SA := Lib.hid (S8.out.on hb8)
      clear hb8 HS S8 R7
      have HP2 := Lib.hid (rUint_any (fpSum (packB T)) w8 (by have := fpSum_lt (packB T); unfold pP at this; omega))
      go_wp2_with (go_at_call 48; (with_reducible refine HP2.out.mono ?_); refine halt_ ?_)
      rintro e9 w9 ⟨d9, rfl, hr9, _, hb9⟩
      have S9 := Lib.hid (SA.out.on hb9)
      have R9 := Lib.hid hr9
      clear SA HP2 hr9 hb9
      unfold vB
      go_wp2_with (at_builtin; refine halt_q ?_)
      refine wpList_bufS S9.out rfl _ _ rfl rfl d9.A d9.len d9.cap (putU (fpSum (packB T))) rfl R9.out.1 R9.out.src (by rw [← R9.out.1]; have := HBL.out; omega) ?_
      intro d10 w10 s10
      have SB : Hid (SW b w0 (bufOb d10 (packP T) :: l) w10) := s10
      have hd9 : d10.len ≤ 1048576 := by
        have h1 : RB w10 d10 (packP T) := SB.out.get 0 (o := bufOb d10 (packP T)) rfl
        rw [← h1.1]
        exact HL.out
      have hdd : decide (1048576 < d10.len) = false := by simp; omega
      clear S9 s10 R9
      unfold vB
      go_wp2_with fail
      go_ret2
      exact ⟨d10, rfl, SB.out⟩
end
end Go.Proofs.YtmiknfneeipkeaaGreat
namespace Go.Proofs.YtmiknfneeipkeaaGreat
open Go.RowKit Go.MapKept Go.ChangeMaps Go.Shelf Go.Sort
attribute [local go_sem] wext_cell
end Go.Proofs.YtmiknfneeipkeaaGreat
namespace Go.Proofs.YtmiknfneeipkeaaGreat
open Go.RowKit Go.MapKept Go.ChangeMaps Go.Shelf Go.Sort
attribute [local go_sem] wext_cell
section
variable {b : Nat} {w0 w w' : World} {l : List Ob}
end
end Go.Proofs.YtmiknfneeipkeaaGreat
namespace Go.Proofs.YtmiknfneeipkeaaGreat
open Go.RowKit Go.MapKept Go.ChangeMaps Go.Shelf Go.Sort
section
variable {b : Nat} {w0 w w' : World} {l : List Ob}
end
theorem SW.starts {w : World} {l : List Ob} (h : ∀ o ∈ l, o.holds w ∧ (∀ i, ¬ o.own i) ∧ ∀ i, o.rd i → i < w.heap.size) : SW w.heap.size w l w := by
  refine ⟨⟨Nat.le_refl _, fun o ho => (h o ho).1, fun o ho i hi => absurd hi ((h o ho).2.1 i), fun o ho => (h o ho).2.2, ?_⟩, Below.refl _ _⟩
  rw [List.pairwise_iff_getElem]
  intro i j hi hj _
  have h1 := (h _ (List.getElem_mem hi)).2.1
  have h2 := (h _ (List.getElem_mem hj)).2.1
  exact ⟨fun k hk => absurd hk (h1 k), fun k hk => absurd hk (h2 k)⟩
theorem im_lt {w : World} {A : Option Addr} {rs : List MR} {ms : List Man} (h : (imOb A rs ms).holds w) : ∀ i, (imOb A rs ms).rd i → i < w.heap.size := fun i hi => by
  obtain ⟨h1, h2, h3⟩ := h
  rcases hi with ⟨hq, o, e⟩ | ⟨j, hj, hq, o, e⟩
  · obtain ⟨g, o2, e2, hb, _⟩ := h1 hq
    rw [e] at e2
    injection e2 with e2
    injection e2 with e2
    omega
  · obtain ⟨g, o2, e2, hb, _⟩ := (h3 j hj).2.2.2 hq
    rw [e] at e2
    injection e2 with e2
    injection e2 with e2
    omega
theorem cx_lt {w : World} {A : Option Addr} {T : List CH} (h : (cxOb A T).holds w) : ∀ i, (cxOb A T).rd i → i < w.heap.size := fun i hi => by
  rcases hi with ⟨hq, o, e⟩ | ⟨x, hx, hq, o, e⟩
  · obtain ⟨g, o2, e2, hb, _⟩ := h.1 hq
    rw [e] at e2
    injection e2 with e2
    injection e2 with e2
    omega
  · exact (h.2 x hx).1.lt e hq
abbrev StoB (ms : List Man) (T : List CH) (w : World) (e : Ending) (w' : World) : Prop :=
  (errM ms ≠ 0 ∧ e = .returned (.tuple #[.slice none 0 0, .int .i64 (errM ms)]) ∧ Below w.heap.size w w') ∨
  (errM ms = 0 ∧ ¬ (OneM ms ∧ AllR (setR (idsOf ms)) T) ∧ e = .returned (.tuple #[.slice none 0 0, .int .i64 411]) ∧ Below w.heap.size w w') ∨
  (errM ms = 0 ∧ OneM ms ∧ AllR (setR (idsOf ms)) T ∧ ∃ (ys : List Man) (d : BD), ConM ms ys ∧ e = .returned (.tuple #[vB d, .int .i64 0]) ∧ Buf w w' d (volB ys (selR (setR (idsOf ms)) T)))
theorem stoB_of {w : World} {l : List Ob} {ms : List Man} {T : List CH} {e : Ending} {w' : World} (h : StoP ms T w.heap.size w l e w') : StoB ms T w e w' := by
  rcases h with ⟨h1, h2, h3⟩ | ⟨h1, h2, h3, h4⟩ | ⟨h1, h2, h3, ys, d, h4, h5, h6⟩
  · exact .inl ⟨h1, h2, h3.2⟩
  · exact .inr (.inl ⟨h1, h2, h3, h4.2⟩)
  · exact .inr (.inr ⟨h1, h2, h3, ys, d, h4, h5, h6.get 0 (o := bufOb d _) rfl, (fun g hg => (h6.1.own _ (.head _) g hg).1), h6.2⟩)
section
variable {w : World} {A : Option Addr} {rs : List MR} {ms : List Man} {C : Option Addr} {T : List CH}
theorem Store_b (hm : (imOb A rs ms).holds w) (hc : (cxOb C T).holds w) (hn : ms.length < 20) (hi : ∀ m ∈ ms, m.ids.length ≤ 9223372036854775807) (hok : ∀ m ∈ ms, ∀ i ∈ m.ids, okID i) (hT : ∀ e ∈ T, okID e.1) (hTn : T.length ≤ 9223372036854775807) (hpk : AllR (setR (idsOf ms)) T → (packP (selR (setR (idsOf ms)) T)).length ≤ 1048576) (c d : Nat) :
    Calls Tryz.prog 11 #[.slice A ms.length c, .slice C T.length d] w (StoB ms T w) :=
  (Store_any (SW.starts (l := [imOb A rs ms, cxOb C T]) (fun o ho => by
    rcases List.mem_cons.1 ho with rfl | ho
    · exact ⟨hm, fun _ h => h, im_lt hm⟩
    · rw [List.mem_singleton.1 ho]
      exact ⟨hc, fun _ h => h, cx_lt hc⟩)) (.head _) hn hi hok (.tail _ (.head _)) hT hTn hpk c d).mono (fun e w' h => stoB_of h)
end
end Go.Proofs.YtmiknfneeipkeaaGreat
namespace Go.Proofs.YtmiknfneeipkeaaGreat
open Go.RowKit Go.MapKept Go.ChangeMaps Go.Shelf Go.Sort
def ManOk (m : Man) : Prop := manE m = 0 ∧ ∀ i ∈ m.ids, okID i
theorem stepD_nn {bs : List UInt8} {st : List ID × Nat × Bool} (h : ∀ i ∈ st.1, 0 ≤ i.1) : ∀ i ∈ (stepD bs st).1, 0 ≤ i.1 := by
  unfold stepD
  split
  · exact h
  · split
    · exact h
    · intro i hi
      rcases List.mem_append.1 hi with hi | hi
      · exact h i hi
      · rw [List.mem_singleton] at hi
        rw [hi]
        exact Int.natCast_nonneg _
theorem idsD_nn {bs : List UInt8} {st : List ID × Nat × Bool} (h : ∀ i ∈ st.1, 0 ≤ i.1) : ∀ n, ∀ i ∈ (idsD bs st n).1, 0 ≤ i.1 := by
  intro n
  induction n with
  | zero => exact h
  | succ n ih => exact stepD_nn ih
theorem decM_ok {bs : List UInt8} {m : Man} (h : decM bs = some m) : ManOk m := by
  unfold decM at h
  split at h
  · cases h
  · rename_i hn
    injection h with h
    have h0 : manE m = 0 := by
      rw [← h]
      exact Classical.byContradiction fun hc => hn (.inr (.inr hc))
    refine ⟨h0, fun i hi => ?_⟩
    have h1 := List.all_eq_true.1 (manE_zero h0).1 i hi
    have h2 := chunkB_sound h1
    have h3 : 0 ≤ i.1 := by
      rw [← h] at hi
      exact idsD_nn (st := ([], (cntD bs).2.1, (cntD bs).2.2)) (fun i hi => by cases hi) _ i hi
    simp only [chunkB, validB, Bool.and_eq_true, decide_eq_true_eq] at h1
    exact okID_of h3 (by omega) (by omega) (by omega)
theorem oneM_ok {bs : List UInt8} {m : Man} {k : Nat} (h : oneM bs = some (m, k)) : ManOk m := by
  unfold oneM at h
  split at h
  · split at h
    · cases h
    · obtain ⟨m', h1, e⟩ := Option.map_eq_some_iff.1 h
      injection e with e1 _
      rw [← e1]
      exact decM_ok h1
  · cases h
theorem mansL_ok {bs : List UInt8} : ∀ {n k : Nat} {ms : List Man} {j : Nat}, mansL bs n k = some (ms, j) → ∀ m ∈ ms, ManOk m := by
  intro n
  induction n with
  | zero => intro k ms j h m hm; injection h with h; injection h with h _; subst h; cases hm
  | succ n ih =>
    intro k ms j h m hm
    rw [mansL] at h
    split at h
    · rename_i m1 j1 h1
      obtain ⟨p, h2, e⟩ := Option.map_eq_some_iff.1 h
      injection e with e1 _
      subst e1
      rcases List.mem_cons.1 hm with rfl | hm
      · exact oneM_ok h1
      · exact ih h2 m hm
    · cases h
theorem rdMans_ok {bs : List UInt8} {ms : List Man} {k : Nat} (h : rdMans bs = some (ms, k)) : ∀ m ∈ ms, ManOk m := by
  unfold rdMans at h
  split at h
  · split at h
    · exact mansL_ok h
    · cases h
  · cases h
def opnV (bs : List UInt8) : Option (List Man × List PC) :=
  match rdMans bs with
  | some (ms, k) => (decP (bs.drop k)).map (fun cs => (ms, cs))
  | none => none
theorem pcs_find {S S' : List CH} (h : pcs S = pcs S') (i : ID) : (firstR S i).map (fun e => (e.1, e.2.bs)) = (firstR S' i).map (fun e => (e.1, e.2.bs)) := by
  have key : ∀ T : List CH, (firstR T i).map (fun e => (e.1, e.2.bs)) = (pcs T).find? (fun p => decide (p.1 = i ∧ fpOf p.2 = i)) := fun T => by
    rw [pcs, List.find?_map, firstR]
    rfl
  rw [key, key, h]
theorem pcs_all {S S' : List CH} (h : pcs S = pcs S') {ids : List ID} (ha : AllR ids S) : AllR ids S' := fun i hi => by
  have h1 := pcs_find h i
  have h2 := ha i hi
  rw [← Option.isSome_map (f := fun e : CH => (e.1, e.2.bs)), ← h1, Option.isSome_map]
  exact h2
theorem pack_pc {S S' : List CH} (h : S.map (·.2.bs) = S'.map (·.2.bs)) : packP S = packP S' := by
  have e : S.flatMap frameP = S'.flatMap frameP := by
    have key : ∀ T : List CH, T.flatMap frameP = (T.map (·.2.bs)).flatMap (fun bs => frameP (id0, ⟨⟨none, 0, 0⟩, bs⟩)) := fun T => by
      rw [List.flatMap_map]
      rfl
    rw [key, key, h]
  have hl : S.length = S'.length := by
    have := congrArg List.length h
    simpa using this
  rw [packP, packP, packB, packB, packF, packF, e, hl]
theorem pcs_sel {S S' : List CH} (h : pcs S = pcs S') (ids : List ID) (ha : AllR ids S) : packP (selR ids S) = packP (selR ids S') := by
  apply pack_pc
  rw [selR, selR, List.map_map, List.map_map]
  refine List.map_congr_left fun i hi => ?_
  have h1 := pcs_find h i
  obtain ⟨x, hx⟩ := Option.isSome_iff_exists.1 (ha i hi)
  obtain ⟨y, hy⟩ := Option.isSome_iff_exists.1 (pcs_all h ha i hi)
  rw [hx, hy] at h1
  simp only [Option.map_some, Option.some.injEq, Prod.mk.injEq] at h1
  simp only [Function.comp, hx, hy, Option.getD_some]
  exact h1.2
def VolOk (bs : List UInt8) : Prop := ∃ (ms ys : List Man) (S : List CH), opnV bs = some (ms, pcs S) ∧ OneM ms ∧ ConM ms ys ∧ AllR (setR (idsOf ms)) S ∧ volB ys (selR (setR (idsOf ms)) S) = bs
theorem volOk_at {bs : List UInt8} {ms ys : List Man} {S : List CH} (h : VolOk bs) (ho : opnV bs = some (ms, pcs S)) (hy : ConM ms ys) : OneM ms ∧ AllR (setR (idsOf ms)) S ∧ volB ys (selR (setR (idsOf ms)) S) = bs := by
  obtain ⟨ms', ys', S', h1, h2, h3, h4, h5⟩ := h
  rw [ho] at h1
  injection h1 with h1
  injection h1 with e1 e2
  subst e1
  have ey := conM_uniq hy h3
  subst ey
  have h4' := pcs_all e2.symm h4
  refine ⟨h2, h4', ?_⟩
  rw [← h5, volB, volB, pcs_sel e2 _ h4']
end Go.Proofs.YtmiknfneeipkeaaGreat
