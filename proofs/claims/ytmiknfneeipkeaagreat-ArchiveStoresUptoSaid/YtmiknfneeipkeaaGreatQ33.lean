/- Contracts of the walk, part 33. -/
import Derived.Deep.DeepAppendRoom
import Derived.ChangeSlices
import Derived.ProofKit
import Derived.Test.YtmiknfneeipkeaaGreatQ28
import Derived.Test.YtmiknfneeipkeaaGreatQ31
import Derived.Test.YtmiknfneeipkeaaGreatQ32
import Derived.Test.YtmiknfneeipkeaaGreatQ02
namespace Go.Proofs.YtmiknfneeipkeaaGreat
open Go.RowKit Go.MapKept Go.ChangeMaps Go.Shelf Go.Sort
attribute [local go_sem] wext_cell
/-- A chunk as the reference takes it. -/
def partOf (T : List CH) (i : ID) : CH := match firstR T i with
  | some x => (i, x.2)
  | none => (i, ⟨⟨none, 0, 0⟩, []⟩)
theorem part_sel {ids : List ID} {T : List CH} (ha : AllR ids T) : ids.map (partOf T) = selR ids T := by
  refine List.map_congr_left (fun i hi => ?_)
  obtain ⟨x, hx⟩ := Option.isSome_iff_exists.1 (ha i hi)
  obtain ⟨h1, _, _⟩ := firstR_id hx
  simp only [partOf, hx, Option.getD_some]
  rw [← h1]
theorem selR_len2 (ids : List ID) (T : List CH) : (ids.map (partOf T)).length = ids.length := List.length_map ..
section
variable {b : Nat} {w0 w w' : World} {l : List Ob}
theorem SW.noIm (h : SW b w0 l w) : SW b w0 (imOb none [] [] :: l) w := SW.fuse (pre := []) h ⟨(fun hp => by cases hp), rfl, fun j hj => by cases hj⟩ (fun _ h => h) (fun i hi => by
  rcases hi with ⟨hp, _⟩ | ⟨j, hj, _⟩
  · cases hp
  · cases hj)
/-- What the reference's sorted returns, in one. -/
abbrev SorQ (ms : List Man) (b : Nat) (w0 : World) (l : List Ob) (e : Ending) (w' : World) : Prop :=
  ∃ (ok : Bool) (Y : List MP) (D : Option Addr) (d : Nat), (ok = true ↔ OneM ms) ∧ (ok = true → ConM ms (Y.map (·.2))) ∧ e = .returned (.tuple #[.slice D Y.length d, .bool ok]) ∧ SW b w0 (imOb D (Y.map (·.1)) (Y.map (·.2)) :: l) w'
theorem rSortedQ (h : SW b w0 l w) {A : Option Addr} {rs : List MR} {ms : List Man} (hm : imOb A rs ms ∈ l) (hv : ∀ m ∈ ms, manE m = 0) (hn : ms.length < 20) (hok : ∀ m ∈ ms, ∀ i ∈ m.ids, okID i) (c : Nat) :
    Calls Tryz.prog 46 #[.slice A ms.length c] w (SorQ ms b w0 l) :=
  (rSorted_any h hm hv hn hok c).mono (fun e w' hp => by
    rcases hp with ⟨h1, Y, D, d, h2, h3, h4⟩ | ⟨h1, h2, h3⟩
    · exact ⟨true, Y, D, d, ⟨fun _ => h1, fun _ => rfl⟩, fun _ => h2, h3, h4⟩
    · exact ⟨false, [], none, 0, ⟨fun h => (by cases h), fun h => absurd h h1⟩, fun h => (by cases h), h2, h3.noIm⟩)
set_option maxRecDepth 100000 in
set_option maxHeartbeats 16000000 in
theorem rStore_any (h : SW b w0 l w) {A : Option Addr} {rs : List MR} {ms : List Man} (hm : imOb A rs ms ∈ l) (hn : ms.length < 20) (hi : ∀ m ∈ ms, m.ids.length ≤ 9223372036854775807) (hok : ∀ m ∈ ms, ∀ i ∈ m.ids, okID i) {C : Option Addr} {T : List CH} (hc : cxOb C T ∈ l) (hTb : ∀ e ∈ T, e.2.bs.length ≤ 1099511627776) (hTn : T.length ≤ 9223372036854775807) (hpk : AllR (setR (idsOf ms)) T → (packP (selR (setR (idsOf ms)) T)).length ≤ 1048576) (c d : Nat) :
    Calls Tryz.prog 12 #[.slice A ms.length c, .slice C T.length d] w (StoP ms T b w0 l) := by
  have HM := Lib.hid hm
  have HC := Lib.hid hc
  have HPK0 := Lib.hid hpk
  have HCK : Hid (Calls Tryz.prog 45 #[.slice A ms.length c, .slice none 0 0] w (LiveP [] ms b w0 l)) := rLive_any h hm (by omega) hi none 0 [] (fun hp => by cases hp) (by simp) c
  clear hpk hm hc
  go_enter Tryz.func12, Tryz.ntmps12
  go_wp2_with (go_at_call 45; (with_reducible refine HCK.out.mono ?_); refine halt_ ?_)
  rintro e w1 (⟨hE, A1, c1, rfl, s1⟩ | ⟨hE, rfl, s1⟩)
  · simp only [List.nil_append] at s1
    simp only [List.nil_append]
    have HE := Lib.hid hE
    have HV : Hid (∀ m ∈ ms, manE m = 0) := errM_each hE
    obtain ⟨ids, HID⟩ : ∃ x, Hid (setR (idsOf ms) = x) := ⟨_, rfl⟩
    rw [HID.out] at s1 ⊢
    have S1 := Lib.hid s1
    have HSO := Lib.hid (rSortedQ S1.out (.tail _ HM.out) HV.out hn hok c)
    have HASC : Hid (AscI ids) := by rw [Hid, ← HID.out]; exact setR_strict _
    have HIK : Hid (∀ i ∈ ids, okID i ∧ 1 ≤ i.2 ∧ i.2 ≤ 8192) := fun i hi => by
      rw [← HID.out, setR_mem] at hi
      have hc := chunk_of_err HE.out i hi
      obtain ⟨m, hm1, hm2⟩ := List.mem_flatMap.1 hi
      exact ⟨hok m hm1 i hm2, chunkB_sound hc⟩
    have HIL : Hid (ids.length ≤ 100000) := by
      rw [Hid, ← HID.out]
      have := setR_small HE.out (show ms.length ≤ 90 by omega)
      omega
    have hil : ids.length ≤ 100000 := HIL.out
    clear hE s1 HCK h
    go_wp2_with (go_at_call 46; (with_reducible refine HSO.out.mono ?_); refine halt_ ?_)
    rintro e w2 ⟨ok0, Y, D, dd, hk1, hk2, rfl, s2⟩
    have HOK0 := Lib.hid hk1
    have HCON0 := Lib.hid hk2
    have S2 := Lib.hid (s2.newRow 42 3)
    clear hk1 hk2 s2 HSO S1
    obtain ⟨i1, gi, gz0, gz1, gz2⟩ := info_parts info42
    go_wp2_with fail
    go_loopw [9, 10, 11] (fun s9 s10 s11 wr => ∃ (k : Nat) (B : Option Addr) (bc : Nat) (ok : Bool), k ≤ ids.length ∧ s11 = .int .i64 (k : Int) ∧ s10 = .slice B k bc ∧ s9 = .bool ok ∧ Hid (ok = true ↔ ok0 = true ∧ ∀ i ∈ ids.take k, (firstR T i).isSome = true) ∧ SW b w0 (rowOb 42 3 (.slice B k bc) k (((ids.take k).map (partOf T)).flatMap encCH) :: imOb D (Y.map (·.1)) (Y.map (·.2)) :: riOb A1 ids :: l) wr) (fun _ _ s11 _ => ids.length - (intOf s11).toNat)
    case atStart => exact ⟨0, none, 0, ok0, Nat.zero_le _, rfl, rfl, rfl, ⟨fun h => ⟨h, fun i hi => by cases hi⟩, fun h => h.1⟩, S2.out⟩
    case round =>
      obtain ⟨k, B, bc, ok, hk, rfl, rfl, rfl, HOK, hs⟩ := hrel
      have S3 := Lib.hid hs
      clear hs S2
      by_cases hlt : k < ids.length
      · obtain ⟨⟨j1, j2⟩, hj⟩ : ∃ i, ids.getD k id0 = i := ⟨_, rfl⟩
        have HTK : Hid (ids.take (k + 1) = ids.take k ++ [(j1, j2)]) := by rw [Hid, take_snoc _ id0 _ hlt, hj]
        have HJ := Lib.hid hj
        obtain ⟨gI, rfl, a0, a1⟩ := SW.rowCell S3.out (A := A1) (.tail _ (.tail _ (.head _))) hlt hj
        have HFI := Lib.hid (rFind_any S3.out (.tail _ (.tail _ (.tail _ HC.out))) hTn hTb j1 j2 d)
        clear hj
        go_wp2_with (go_at_call 47; (with_reducible refine HFI.out.mono ?_); refine halt_ ?_)
        rintro e w4 (⟨x, hx, rfl, s4⟩ | ⟨hx, rfl, s4⟩)
        · have S4 := Lib.hid s4
          have HLE : Hid (x.2.d.len = x.2.bs.length) := ((s4.1.holds (cxOb C T) (.tail _ (.tail _ (.tail _ HC.out)))).2 x (firstR_id hx).2.2).2.1
          have HX := Lib.hid hx
          clear S3 HFI a0 a1
          have S5 := Lib.hid (S4.out.newCell 42 #[.int .u64 j1, .int .i64 j2, .slice x.2.d.A x.2.bs.length x.2.d.cap])
          obtain ⟨gI', e7, a0, a1⟩ := SW.rowCell S4.out (A := some ⟨gI, 0, none⟩) (.tail _ (.tail _ (.head _))) hlt HJ.out
          injection e7 with e7
          injection e7 with e7 _ _
          subst e7
          have HPO : Hid (encCH (partOf T (j1, j2)) = [.int .u64 j1, .int .i64 j2, .slice x.2.d.A x.2.bs.length x.2.d.cap]) := by
            rw [Hid, partOf, hx]
            simp only [encCH, vBS]
            rw [HLE.out]
          clear hx s4
          cases ok with
          | false =>
            go_wp2_with (at_builtin; (refine wpList_rowS (t := 23) (e := 42) (size := 3) (bytes := 40) (i := i1) S5.out 1 rfl (by rfl) (.tmp 51) (.tmp 58) (by rfl) Tryz.underlying23 gi gz0 gz1 gz2 rfl (by omega) (by rfl) ⟨w4.heap.size, 0, none⟩ 1 [.int .u64 j1, .int .i64 j2, .slice x.2.d.A x.2.bs.length x.2.d.cap] (by rfl) rfl (mthree_new _ _ _ _ _ _ rfl) (by rw [← HPO.out]; exact encCH_one (partOf T (j1, j2))) (by unfold maxLen; omega) (by omega) ?_); refine halt_ ?_)
            intro v8 w8 s8
            obtain ⟨g8, c8, rfl⟩ := own_some (s8.get 1 rfl) (by omega)
            have S8 : Hid (SW b w0 (rowOb 42 3 (.slice (some ⟨g8, 0, none⟩) (k + 1) c8) (k + 1) (((ids.take (k + 1)).map (partOf T)).flatMap encCH) :: imOb D (Y.map (·.1)) (Y.map (·.2)) :: riOb (some ⟨gI, 0, none⟩) ids :: l) w8) := by
              rw [Hid, HTK.out, List.map_append, List.flatMap_append]
              simp only [List.map_cons, List.map_nil, List.flatMap_cons, List.flatMap_nil, List.append_nil]
              rw [HPO.out, List.map_take]
              exact s8.tail
            clear s8 S4 S5 a0 a1
            go_wp2_with fail
            go_roundw
            case rel => exact ⟨k + 1, some ⟨g8, 0, none⟩, c8, false, by omega, by go_num, rfl, rfl, ⟨fun h => (by cases h), fun h => absurd (HOK.out.2 ⟨h.1, fun i hi => h.2 i (by rw [HTK.out]; exact List.mem_append_left _ hi)⟩) (by simp)⟩, S8.out⟩
            case measure => simp [intOf]; omega
          | true =>
            go_wp2_with (at_builtin; (refine wpList_rowS (t := 23) (e := 42) (size := 3) (bytes := 40) (i := i1) S5.out 1 rfl (by rfl) (.tmp 51) (.tmp 58) (by rfl) Tryz.underlying23 gi gz0 gz1 gz2 rfl (by omega) (by rfl) ⟨w4.heap.size, 0, none⟩ 1 [.int .u64 j1, .int .i64 j2, .slice x.2.d.A x.2.bs.length x.2.d.cap] (by rfl) rfl (mthree_new _ _ _ _ _ _ rfl) (by rw [← HPO.out]; exact encCH_one (partOf T (j1, j2))) (by unfold maxLen; omega) (by omega) ?_); refine halt_ ?_)
            intro v8 w8 s8
            obtain ⟨g8, c8, rfl⟩ := own_some (s8.get 1 rfl) (by omega)
            have S8 : Hid (SW b w0 (rowOb 42 3 (.slice (some ⟨g8, 0, none⟩) (k + 1) c8) (k + 1) (((ids.take (k + 1)).map (partOf T)).flatMap encCH) :: imOb D (Y.map (·.1)) (Y.map (·.2)) :: riOb (some ⟨gI, 0, none⟩) ids :: l) w8) := by
              rw [Hid, HTK.out, List.map_append, List.flatMap_append]
              simp only [List.map_cons, List.map_nil, List.flatMap_cons, List.flatMap_nil, List.append_nil]
              rw [HPO.out, List.map_take]
              exact s8.tail
            clear s8 S4 S5 a0 a1
            go_wp2_with fail
            go_roundw
            case rel => exact ⟨k + 1, some ⟨g8, 0, none⟩, c8, true, by omega, by go_num, rfl, rfl, ⟨fun _ => ⟨(HOK.out.1 (by trivial)).1, fun i hi => by
              rw [HTK.out] at hi
              rcases List.mem_append.1 hi with h | h
              · exact (HOK.out.1 (by trivial)).2 i h
              · rw [List.mem_singleton.1 h, HX.out]; rfl⟩, fun _ => by trivial⟩, S8.out⟩
            case measure => simp [intOf]; omega
        · have S4 := Lib.hid s4
          have HX := Lib.hid hx
          clear S3 HFI a0 a1
          have S5 := Lib.hid (S4.out.newCell 42 #[.int .u64 j1, .int .i64 j2, .slice none 0 0])
          obtain ⟨gI', e7, a0, a1⟩ := SW.rowCell S4.out (A := some ⟨gI, 0, none⟩) (.tail _ (.tail _ (.head _))) hlt HJ.out
          injection e7 with e7
          injection e7 with e7 _ _
          subst e7
          have HPO : Hid (encCH (partOf T (j1, j2)) = [.int .u64 j1, .int .i64 j2, .slice none 0 0]) := by
            rw [Hid, partOf, hx]
            simp only [encCH, vBS]
          clear hx s4
          cases ok with
          | false =>
            go_wp2_with (at_builtin; (refine wpList_rowS (t := 23) (e := 42) (size := 3) (bytes := 40) (i := i1) S5.out 1 rfl (by rfl) (.tmp 51) (.tmp 58) (by rfl) Tryz.underlying23 gi gz0 gz1 gz2 rfl (by omega) (by rfl) ⟨w4.heap.size, 0, none⟩ 1 [.int .u64 j1, .int .i64 j2, .slice none 0 0] (by rfl) rfl (mthree_new _ _ _ _ _ _ rfl) (by rw [← HPO.out]; exact encCH_one (partOf T (j1, j2))) (by unfold maxLen; omega) (by omega) ?_); refine halt_ ?_)
            intro v8 w8 s8
            obtain ⟨g8, c8, rfl⟩ := own_some (s8.get 1 rfl) (by omega)
            have S8 : Hid (SW b w0 (rowOb 42 3 (.slice (some ⟨g8, 0, none⟩) (k + 1) c8) (k + 1) (((ids.take (k + 1)).map (partOf T)).flatMap encCH) :: imOb D (Y.map (·.1)) (Y.map (·.2)) :: riOb (some ⟨gI, 0, none⟩) ids :: l) w8) := by
              rw [Hid, HTK.out, List.map_append, List.flatMap_append]
              simp only [List.map_cons, List.map_nil, List.flatMap_cons, List.flatMap_nil, List.append_nil]
              rw [HPO.out, List.map_take]
              exact s8.tail
            clear s8 S4 S5 a0 a1
            go_wp2_with fail
            go_roundw
            case rel => exact ⟨k + 1, some ⟨g8, 0, none⟩, c8, false, by omega, by go_num, rfl, rfl, ⟨fun h => (by cases h), fun h => absurd (HOK.out.2 ⟨h.1, fun i hi => h.2 i (by rw [HTK.out]; exact List.mem_append_left _ hi)⟩) (by simp)⟩, S8.out⟩
            case measure => simp [intOf]; omega
          | true =>
            go_wp2_with (at_builtin; (refine wpList_rowS (t := 23) (e := 42) (size := 3) (bytes := 40) (i := i1) S5.out 1 rfl (by rfl) (.tmp 51) (.tmp 58) (by rfl) Tryz.underlying23 gi gz0 gz1 gz2 rfl (by omega) (by rfl) ⟨w4.heap.size, 0, none⟩ 1 [.int .u64 j1, .int .i64 j2, .slice none 0 0] (by rfl) rfl (mthree_new _ _ _ _ _ _ rfl) (by rw [← HPO.out]; exact encCH_one (partOf T (j1, j2))) (by unfold maxLen; omega) (by omega) ?_); refine halt_ ?_)
            intro v8 w8 s8
            obtain ⟨g8, c8, rfl⟩ := own_some (s8.get 1 rfl) (by omega)
            have S8 : Hid (SW b w0 (rowOb 42 3 (.slice (some ⟨g8, 0, none⟩) (k + 1) c8) (k + 1) (((ids.take (k + 1)).map (partOf T)).flatMap encCH) :: imOb D (Y.map (·.1)) (Y.map (·.2)) :: riOb (some ⟨gI, 0, none⟩) ids :: l) w8) := by
              rw [Hid, HTK.out, List.map_append, List.flatMap_append]
              simp only [List.map_cons, List.map_nil, List.flatMap_cons, List.flatMap_nil, List.append_nil]
              rw [HPO.out, List.map_take]
              exact s8.tail
            clear s8 S4 S5 a0 a1
            go_wp2_with fail
            go_roundw
            case rel => exact ⟨k + 1, some ⟨g8, 0, none⟩, c8, false, by omega, by go_num, rfl, rfl, ⟨fun h => (by cases h), fun h => absurd (h.2 (j1, j2) (by rw [HTK.out]; simp)) (by rw [HX.out]; simp)⟩, S8.out⟩
            case measure => simp [intOf]; omega
      · obtain rfl : k = ids.length := by omega
        rw [List.take_length] at HOK S3
        cases ok with
        | false =>
          have HNO : Hid (¬ (OneM ms ∧ AllR (setR (idsOf ms)) T)) := fun h => by
            rw [HID.out] at h
            exact absurd (HOK.out.2 ⟨HOK0.out.2 h.1, h.2⟩) (by simp)
          have S4 := Lib.hid S3.out.tail.tail.tail
          clear S3
          go_wp2_with fail
          go_ret2
          exact .inr (.inl ⟨HE.out, HNO.out, rfl, S4.out⟩)
        | true =>
          have HA : Hid (AllR ids T) := (HOK.out.1 (by trivial)).2
          have HO : Hid (OneM ms) := HOK0.out.1 (HOK.out.1 (by trivial)).1
          have HCON := Lib.hid (HCON0.out (HOK.out.1 (by trivial)).1)
          rw [part_sel HA.out] at S3
          have HPK : Hid ((packP (selR ids T)).length ≤ 1048576) := by
            have h1 := HPK0.out
            rw [HID.out] at h1
            exact h1 HA.out
          have HEN : Hid (Calls Tryz.prog 28 #[.slice B ids.length bc] wr (fun e w' => ∃ d, e = .returned (.tuple #[vB d, .int .i64 0]) ∧ SW b w0 (bufOb d (packP (selR ids T)) :: imOb D (Y.map (·.1)) (Y.map (·.2)) :: l) w')) := by
            have h1 := S3.out.rowCx (C := C) (T := T) (.tail _ (.tail _ HC.out)) (selR_len ids T) (selR_mem HA.out)
            have h2 := rPack_any h1 (.head _) (selR_ok HA.out (fun i hi => (HIK.out i hi).2)) (selR_asc HASC.out HA.out) HPK.out (by rw [selR_len]; have := HIL.out; omega) bc
            rw [selR_len] at h2
            refine h2.mono ?_
            rintro e w' ⟨d, rfl, h⟩
            exact ⟨d, rfl, SW.sub h (.cons_cons _ (.cons _ (.cons_cons _ (.cons _ (List.Sublist.refl _)))))⟩
          clear S3
          go_wp2_with (go_at_call 28; (with_reducible refine HEN.out.mono ?_); refine halt_ ?_)
          rintro e w4 dp rfl s4
          have S4 := Lib.hid s4
          have S5 := Lib.hid (S4.out.newX #[.int .u8 83, .int .u8 89, .int .u8 65, .int .u8 82] (4, 5) [83, 89, 65, 82] 4 rfl (by decide) rfl)
          have HYN : Hid (Y.length < 20) := by
            have h1 := conM_len HCON.out
            rw [List.length_map] at h1
            rw [Hid]
            omega
          have hyn : Y.length < 20 := HYN.out
          have HPU := Lib.hid (rUint_any Y.length (w4.alloc (.cells #[.int .u8 83, .int .u8 89, .int .u8 65, .int .u8 82] 5 (4, 5))) (by omega))
          have hcv := Lib.run_convert_bytes_const (P := Tryz.prog) w4 40 5 #[.int .u8 83, .int .u8 89, .int .u8 65, .int .u8 82] 4 4 Tryz.underlying40 Tryz.underlying5
          clear HEN s4
          unfold vB
          go_wp2_with (go_at_call 48; (with_reducible refine HPU.out.mono ?_); refine halt_ ?_)
          rintro e w5 ⟨d5, rfl, hr5, hn5, hb5⟩
          have S6 := Lib.hid (S5.out.on hb5)
          have R5 := Lib.hid hr5
          clear hr5 hn5 hb5 HPU S4 S5 hcv
          have h10 := putU_ten (v := Y.length) (by omega)
          unfold vB
          go_wp2_with (at_builtin; refine halt_q ?_)
          refine wpList_bufX S6.out rfl _ _ rfl rfl d5.A d5.len d5.cap (putU Y.length) rfl R5.out.1 (by rw [← R5.out.1]; exact putU_pos _) R5.out.src (by rw [← R5.out.1]; simp only [List.length_cons, List.length_nil]; omega) ?_
          intro d6 w6 s6
          have S7 : Hid (SW b w0 (bufOb d6 (volH Y.length ((Y.map (·.2)).take 0)) :: bufOb dp (packP (selR ids T)) :: imOb D (Y.map (·.1)) (Y.map (·.2)) :: l) w6) := by
            rw [Hid, List.take_zero, volH_nil]
            exact s6
          have HYE : Hid (∀ m ∈ Y.map (·.2), manE m = 0) := fun m hm => HV.out m ((HCON.out.2 m).1 hm)
          have HYO : Hid (∀ m ∈ Y.map (·.2), ∀ i ∈ m.ids, okID i) := fun m hm => hok m ((HCON.out.2 m).1 hm)
          have HVL : Hid (∀ k, (volH Y.length ((Y.map (·.2)).take k)).length ≤ 430000) := fun k => by
            have hy := HYN.out
            have h1 := volH_le (ys := (Y.map (·.2)).take k) (fun m hm => HYE.out m (List.mem_of_mem_take hm)) (fun m hm => HYO.out m (List.mem_of_mem_take hm)) (by rw [List.length_take, List.length_map]; omega) Y.length
            have h2 := putU_ten (v := Y.length) (by omega)
            rw [List.length_take, List.length_map] at h1
            omega
          clear s6 S6 R5 h10
          unfold vB
          go_wp2_with fail
          go_loopw [15, 16] (fun s15 s16 wr => ∃ (k : Nat) (d : BD), k ≤ Y.length ∧ s16 = .int .i64 (k : Int) ∧ s15 = .slice d.A d.len d.cap ∧ SW b w0 (bufOb d (volH Y.length ((Y.map (·.2)).take k)) :: bufOb dp (packP (selR ids T)) :: imOb D (Y.map (·.1)) (Y.map (·.2)) :: l) wr) (fun _ s16 _ => Y.length - (intOf s16).toNat)
          case atStart => exact ⟨0, d6, Nat.zero_le _, rfl, rfl, S7.out⟩
          case round =>
            obtain ⟨k, d, hk, rfl, rfl, hs⟩ := hrel
            have S8 := Lib.hid hs
            clear hs S7
            by_cases hlt : k < Y.length
            · obtain ⟨⟨⟨z, rA, rn, rc⟩, m⟩, HY⟩ : ∃ p, Hid (Y.getD k (mr0, man0) = p) := ⟨_, rfl⟩
              have e1 : (Y.map (·.1)).getD k mr0 = ⟨z, rA, rn, rc⟩ := by
                have : (Y.map (·.1)).getD k mr0 = (Y.getD k (mr0, man0)).1 := by simp [List.getD_eq_getElem?_getD, List.getElem?_eq_getElem hlt]
                rw [this, HY.out]
              have e2 : (Y.map (·.2)).getD k man0 = m := by
                have : (Y.map (·.2)).getD k man0 = (Y.getD k (mr0, man0)).2 := by simp [List.getD_eq_getElem?_getD, List.getElem?_eq_getElem hlt]
                rw [this, HY.out]
              have hmem : m ∈ Y.map (·.2) := by rw [← e2]; exact getD_mem _ _ _ (by rw [List.length_map]; exact hlt)
              have HTK : Hid (volH Y.length ((Y.map (·.2)).take (k + 1)) = volH Y.length ((Y.map (·.2)).take k) ++ (putU (manB m).length ++ manB m)) := by
                rw [Hid, take_snoc _ man0 _ (by rw [List.length_map]; exact hlt), e2, volH_snoc]
              have hM := S8.out.1.holds (imOb D (Y.map (·.1)) (Y.map (·.2))) (.tail _ (.tail _ (.head _)))
              have hlk := hM.2.2 k (by rw [List.length_map]; exact hlt)
              rw [e1, e2] at hlk
              obtain ⟨l1, l2, l3, l4⟩ := hlk
              simp only at l1 l2 l3 l4
              subst l1 l2
              obtain ⟨gD, oD, rfl, hgD, _, hcD⟩ := hM.1 (by rw [List.length_map]; omega)
              have p0 : wr.cell? ⟨gD, oD + k * 2, none⟩ = some (.int .i64 m.size) := hcD k (by rw [List.length_map]; exact hlt) 0 _ (by rw [e1]; rfl)
              have p1 : wr.cell? ⟨gD, oD + k * 2 + 1, none⟩ = some (.slice rA m.ids.length rc) := hcD k (by rw [List.length_map]; exact hlt) 1 _ (by rw [e1]; rfl)
              have HME := Lib.hid (rManEnc_any _ m rA rc wr l4 (HYE.out m hmem) (HYO.out m hmem))
              have HBL : Hid ((manB m).length ≤ 20500) := manB_len (HYE.out m hmem) (HYO.out m hmem)
              clear hM hcD e1 e2 hmem l3 l4
              go_wp2_with (go_at_call 49; (with_reducible refine HME.out.mono ?_); refine halt_ ?_)
              rintro e w6 d8 rfl hbf
              have S9 := Lib.hid (SW.newBuT S8.out hbf.bl hbf.rb hbf.nw)
              have HD8 : Hid ((manB m).length = d8.len) := hbf.rb.1
              have hd8 : d8.len ≤ 20500 := by rw [← HD8.out]; exact HBL.out
              have HPB := Lib.hid (rUint_any d8.len w6 (by omega))
              have hp10 := putU_ten (v := d8.len) (by omega)
              clear hbf S8 HME p0 p1 hgD
              unfold vB
              go_wp2_with (go_at_call 48; (with_reducible refine HPB.out.mono ?_); refine halt_ ?_)
              rintro e w7 ⟨d9, rfl, hr9, hn9, hb9⟩
              have S10 := Lib.hid (S9.out.on hb9)
              have S10f : Hid (SW b w0 (bufOb d (volH Y.length ((Y.map (·.2)).take k)) :: bufOb d8 (manB m) :: bufOb dp (packP (selR ids T)) :: imOb (some ⟨gD, oD, none⟩) (Y.map (·.1)) (Y.map (·.2)) :: l) w7) := SW.front (pre := [_, _]) S10.out [1, 0] (n := 2) rfl (by decide)
              have R9 := Lib.hid hr9
              have hvl := HVL.out k
              clear hr9 hn9 hb9 S9 HPB S10
              unfold vB
              go_wp2_with (at_builtin; refine halt_q ?_)
              refine wpList_bufS S10f.out rfl _ _ rfl rfl d9.A d9.len d9.cap (putU d8.len) rfl R9.out.1 R9.out.src (by rw [← R9.out.1]; omega) ?_
              intro d11 w8 s11
              have S11 := Lib.hid s11
              have hbd : (volH Y.length ((Y.map (·.2)).take k) ++ putU d8.len).length + d8.len ≤ 1099511627776 := by
                rw [List.length_append]
                omega
              clear s11 S10f R9
              unfold vB
              go_wp2_with (at_builtin; refine halt_q ?_)
              refine wpList_bufS S11.out rfl _ _ rfl rfl d8.A d8.len d8.cap (manB m) rfl HD8.out ((S11.out.get 1 (o := bufOb d8 (manB m)) rfl : RB _ d8 _).src) hbd ?_
              intro d12 w12 s12
              have S12 : Hid (SW b w0 (bufOb d12 (volH Y.length ((Y.map (·.2)).take (k + 1))) :: bufOb dp (packP (selR ids T)) :: imOb (some ⟨gD, oD, none⟩) (Y.map (·.1)) (Y.map (·.2)) :: l) w12) := by
                rw [Hid, HTK.out, HD8.out, ← List.append_assoc]
                exact SW.sub s12 (.cons_cons _ (.cons _ (List.Sublist.refl _)))
              clear s12 S11 hbd
              unfold vB
              go_wp2_with fail
              go_roundw
              case rel => exact ⟨k + 1, d12, by omega, by go_num, rfl, S12.out⟩
              case measure => simp [intOf]; omega
            · obtain rfl : k = Y.length := by omega
              have HTL : Hid ((Y.map (·.2)).take Y.length = Y.map (·.2)) := by
                have h1 : (Y.map (·.2)).length = Y.length := List.length_map ..
                rw [Hid, ← h1, List.take_length]
              have hvl := HVL.out Y.length
              rw [HTL.out] at S8 hvl
              have RP : Hid (RB wr dp (packP (selR ids T))) := S8.out.get 1 (o := bufOb dp (packP (selR ids T))) rfl
              have hbd : (volH Y.length (Y.map (·.2))).length + dp.len ≤ 1099511627776 := by
                have h1 := RP.out.1
                have h2 := HPK.out
                omega
              go_wp2_with (at_builtin; refine halt_q ?_)
              refine wpList_bufS S8.out rfl _ _ rfl rfl dp.A dp.len dp.cap (packP (selR ids T)) rfl RP.out.1 RP.out.src hbd ?_
              intro d8 w8 s8
              have S9 : Hid (SW b w0 (bufOb d8 (volB (Y.map (·.2)) (selR (setR (idsOf ms)) T)) :: l) w8) := by
                rw [Hid, HID.out, volB, List.length_map]
                exact SW.sub s8 (.cons_cons _ (.cons _ (.cons _ (List.Sublist.refl _))))
              have HA2 : Hid (AllR (setR (idsOf ms)) T) := by rw [Hid, HID.out]; exact HA.out
              clear s8 S8 RP
              unfold vB
              go_wp2_with fail
              go_ret2
              exact .inr (.inr ⟨HE.out, HO.out, HA2.out, Y.map (·.2), d8, HCON.out, rfl, S9.out⟩)
  · have hbe : (errM ms != 0) = true := by rw [bne_iff_ne]; exact hE
    have HE := Lib.hid hE
    have S1 := Lib.hid s1
    clear hE s1 HCK h
    go_wp2_with fail
    go_ret2
    exact .inl ⟨HE.out, rfl, S1.out⟩
end
end Go.Proofs.YtmiknfneeipkeaaGreat
namespace Go.Proofs.YtmiknfneeipkeaaGreat
open Go.RowKit Go.MapKept Go.ChangeMaps Go.Shelf Go.Sort
section
variable {b : Nat} {w0 w w' : World} {l : List Ob}
set_option maxRecDepth 100000 in
theorem run_append_keep (t ty e : TypeId) (i : TypeInfo) (z : Value) (size bytes : Nat) (ht : Tryz.prog.underlying t = some (.slice e)) (hi : Tryz.prog.info? e = some i) (hz : i.zero = some z)
    (hsize : i.size = size) (hby : i.bytes = bytes) (hzs : z.cells.size = size) (hsz : 0 < size)
    (v : Value) (n : Nat) (xs : List Value) (hown : w.ownsRow 0 e size v n xs)
    (A : Option Addr) (m c : Nat) (news : List Value) (hl : news.length = m * size) (hA : 0 < m → ∃ ad, A = some ad ∧ ∀ j u, news[j]? = some u → w.cell? (ad.add j) = some u) (h1 : ∀ u ∈ news, u.oneCell' = true)
    (h63 : n + m ≤ maxLen) (hbytes : (n + m) * bytes ≤ 140737488355328) :
    ∃ v' w', (Builtin.append_ #[t, t] ty #[v, .slice A m c]).run Tryz.prog w = .ok v' w' ∧ w'.ownsRow 0 e size v' (n + m) (xs ++ news) ∧ w'.ownsRow 0 e size v n xs ∧ w.grownBy w' v.ownBlock := by
  rcases Nat.eq_zero_or_pos m with rfl | hm
  · have hn : news = [] := List.eq_nil_of_length_eq_zero (by simpa using hl)
    subst hn
    refine ⟨v, w, append_zero_run w t ty e i size ht hi v n xs hown A c, ?_, hown, ⟨rfl, rfl, rfl, Nat.le_refl _, fun _ _ _ => rfl⟩⟩
    rw [List.append_nil]
    exact hown
  · obtain ⟨ad, rfl, hnews⟩ := hA hm
    obtain ⟨v', w', hr, h2, h3, _⟩ := run_append_own (P := Tryz.prog) w 0 t ty e i z size bytes ht hi hz hsize hby hzs hsz v n xs hown ad m c news hl hnews h1 h63 hbytes (Nat.zero_le _)
    refine ⟨v', w', hr, h2, ?_, h3⟩
    have hsmall : n + m ≤ 9223372036854775807 := by simp only [maxLen] at h63; omega
    rcases hown.2 with ⟨rfl, rfl⟩ | ⟨g, cap, cur, rfl, hbg, hg, hnc, hcm, hcs, htake⟩
    · have hx : xs = [] := List.eq_nil_of_length_eq_zero (by simpa using hown.1)
      subst hx
      exact World.ownsRow_nil w' 0 e size
    · by_cases hroom : n + m ≤ cap
      · obtain ⟨w2, hr2, h4, _⟩ := run_append_own_spare (P := Tryz.prog) w 0 t ty e i size ht hi hsize g n cap xs hown ad m c news hl hnews h1 hroom
        rw [hr2] at hr
        injection hr with e1 e2
        subst e2
        rcases h4.2 with ⟨hv, _⟩ | ⟨g2, cap2, cur2, hv, _, hg2, _, _, hcs2, htake2⟩
        · cases hv
        · injection hv with e1 e3 e4
          injection e1 with e1
          injection e1 with e1
          subst e1
          subst e4
          refine ⟨hown.1, .inr ⟨g, cap, cur2, rfl, Nat.zero_le _, hg2, hnc, hcm, hcs2, ?_⟩⟩
          have h5 : cur2.toList.take (n * size) = (cur2.toList.take ((n + m) * size)).take (n * size) := by
            rw [List.take_take]
            congr 1
            rw [Nat.add_mul]
            omega
          rw [h5, htake2, ← hown.1]
          exact List.take_left
      · have hr3 := run_append_grow (P := Tryz.prog) w t ty e i z ht hi hz ⟨g, 0, none⟩ n cap xs (by rw [hsize]; exact hown.1) (hown.cells (g := g) rfl) ad m c news (by rw [hsize]; exact hl) hnews (by omega) (by omega) (growslice_fits (by omega) (by rw [hby]; exact hbytes))
        rw [hr3] at hr
        injection hr with e1 e2
        subst e2
        have hlt : g < w.heap.size := by
          have := hg
          exact (Array.getElem?_eq_some_iff.1 this).1
        exact ⟨hown.1, .inr ⟨g, cap, cur, rfl, Nat.zero_le _, (heap_alloc_old w.drew _ hlt).trans hg, hnc, hcm, hcs, htake⟩⟩
theorem wpList_append_keep {ops : Array Oper} {o : Oper} {rest : List Oper} {a : Act} {Q : Exit → Act → World → Prop} {t e : TypeId} {i : TypeInfo} {z : Value} {size bytes : Nat} (hS : SW b w0 l w) (k : Nat) {v : Value} {n : Nat} {xs : List Value} (hk : l[k]? = some (rowOb e size v n xs))
    (hgd : o.guard = none) (s x : Operand) (ho : o.op = .call { callee := .builtin .append, args := #[s, x], argTypes := #[t, t] })
    (ht : Tryz.prog.underlying t = some (.slice e)) (hi : Tryz.prog.info? e = some i) (hz : i.zero = some z) (hsize : i.size = size) (hby : i.bytes = bytes) (hzs : z.cells.size = size) (hsz : 0 < size)
    (hs : a.eval s = v) (A : Option Addr) (m c : Nat) (news : List Value) (hx : a.eval x = .slice A m c) (hl : news.length = m * size) (hA : 0 < m → ∃ ad, A = some ad ∧ ∀ j u, news[j]? = some u → w.cell? (ad.add j) = some u) (h1 : ∀ u ∈ news, u.oneCell' = true)
    (h63 : n + m ≤ maxLen) (hbytes : (n + m) * bytes ≤ 140737488355328)
    (h : ∀ v' w', SW b w0 l w' → w'.ownsRow 0 e size v' (n + m) (xs ++ news) → wpList Tryz.prog ops Q rest (a.put o.dst v') w') :
    wpList Tryz.prog ops Q (o :: rest) a w := by
  obtain ⟨v', w', hr, h2, h3, h4⟩ := run_append_keep t o.type e i z size bytes ht hi hz hsize hby hzs hsz v n xs (hS.get k hk) A m c news hl hA h1 h63 hbytes
  have hS2 : SW b w0 l w' := by
    have := hS.row k hk h3 h4 (.inl rfl)
    rwa [set_self l k _ hk] at this
  refine wpList_plain hgd fun K hK => ?_
  unfold Oper.wp execOp
  simp only [ho, resolve, invoke, builtin, Sem.run_bind, Sem.run_pure, Result.andThen_ok, List.map_toArray, List.map_cons, List.map_nil, hs, hx, hr]
  exact hK _ _ (h v' w' hS2 h2)
end
/-- Things that are only read. -/
theorem SW.starts {w : World} {l : List Ob} (h : ∀ o ∈ l, o.holds w ∧ (∀ i, ¬ o.own i) ∧ ∀ i, o.rd i → i < w.heap.size) : SW w.heap.size w l w := by
  refine ⟨⟨Nat.le_refl _, fun o ho => (h o ho).1, fun o ho i hi => absurd hi ((h o ho).2.1 i), fun o ho => (h o ho).2.2, ?_⟩, Below.refl _ _⟩
  rw [List.pairwise_iff_getElem]
  intro i j hi hj _
  have h1 := (h _ (List.getElem_mem hi)).2.1
  have h2 := (h _ (List.getElem_mem hj)).2.1
  exact ⟨fun k hk => absurd hk (h1 k), fun k hk => absurd hk (h2 k)⟩
theorem im_lt {w : World} {A : Option Addr} {rs : List MR} {ms : List Man} (h : (imOb A rs ms).holds w) : ∀ i, (imOb A rs ms).rd i → i < w.heap.size := fun i hi => by
  obtain ⟨h1, h2, h3⟩ := h
  rcases hi with ⟨hq, o, e⟩ | ⟨j, hj, hq, o, e⟩
  · obtain ⟨g, o2, e2, hb, _⟩ := h1 hq
    rw [e] at e2
    injection e2 with e2
    injection e2 with e2
    omega
  · obtain ⟨g, o2, e2, hb, _⟩ := (h3 j hj).2.2.2 hq
    rw [e] at e2
    injection e2 with e2
    injection e2 with e2
    omega
theorem cx_lt {w : World} {A : Option Addr} {T : List CH} (h : (cxOb A T).holds w) : ∀ i, (cxOb A T).rd i → i < w.heap.size := fun i hi => by
  rcases hi with ⟨hq, o, e⟩ | ⟨x, hx, hq, o, e⟩
  · obtain ⟨g, o2, e2, hb, _⟩ := h.1 hq
    rw [e] at e2
    injection e2 with e2
    injection e2 with e2
    omega
  · exact (h.2 x hx).1.lt e hq
/-- What Store does, told by what was there. -/
abbrev StoB (ms : List Man) (T : List CH) (w : World) (e : Ending) (w' : World) : Prop :=
  (errM ms ≠ 0 ∧ e = .returned (.tuple #[.slice none 0 0, .int .i64 (errM ms)]) ∧ Below w.heap.size w w') ∨
  (errM ms = 0 ∧ ¬ (OneM ms ∧ AllR (setR (idsOf ms)) T) ∧ e = .returned (.tuple #[.slice none 0 0, .int .i64 411]) ∧ Below w.heap.size w w') ∨
  (errM ms = 0 ∧ OneM ms ∧ AllR (setR (idsOf ms)) T ∧ ∃ (ys : List Man) (d : BD), ConM ms ys ∧ e = .returned (.tuple #[vB d, .int .i64 0]) ∧ Buf w w' d (volB ys (selR (setR (idsOf ms)) T)))
theorem stoB_of {w : World} {l : List Ob} {ms : List Man} {T : List CH} {e : Ending} {w' : World} (h : StoP ms T w.heap.size w l e w') : StoB ms T w e w' := by
  rcases h with ⟨h1, h2, h3⟩ | ⟨h1, h2, h3, h4⟩ | ⟨h1, h2, h3, ys, d, h4, h5, h6⟩
  · exact .inl ⟨h1, h2, h3.2⟩
  · exact .inr (.inl ⟨h1, h2, h3, h4.2⟩)
  · exact .inr (.inr ⟨h1, h2, h3, ys, d, h4, h5, h6.get 0 (o := bufOb d _) rfl, (fun g hg => (h6.1.own _ (.head _) g hg).1), h6.2⟩)
section
variable {w : World} {A : Option Addr} {rs : List MR} {ms : List Man} {C : Option Addr} {T : List CH}
theorem Store_b (hm : (imOb A rs ms).holds w) (hc : (cxOb C T).holds w) (hn : ms.length < 20) (hi : ∀ m ∈ ms, m.ids.length ≤ 9223372036854775807) (hok : ∀ m ∈ ms, ∀ i ∈ m.ids, okID i) (hT : ∀ e ∈ T, okID e.1) (hTn : T.length ≤ 9223372036854775807) (hpk : AllR (setR (idsOf ms)) T → (packP (selR (setR (idsOf ms)) T)).length ≤ 1048576) (c d : Nat) :
    Calls Tryz.prog 11 #[.slice A ms.length c, .slice C T.length d] w (StoB ms T w) :=
  (Store_any (SW.starts (l := [imOb A rs ms, cxOb C T]) (fun o ho => by
    rcases List.mem_cons.1 ho with rfl | ho
    · exact ⟨hm, fun _ h => h, im_lt hm⟩
    · rw [List.mem_singleton.1 ho]
      exact ⟨hc, fun _ h => h, cx_lt hc⟩)) (.head _) hn hi hok (.tail _ (.head _)) hT hTn hpk c d).mono (fun e w' h => stoB_of h)
theorem rStore_b (hm : (imOb A rs ms).holds w) (hc : (cxOb C T).holds w) (hn : ms.length < 20) (hi : ∀ m ∈ ms, m.ids.length ≤ 9223372036854775807) (hok : ∀ m ∈ ms, ∀ i ∈ m.ids, okID i) (hTb : ∀ e ∈ T, e.2.bs.length ≤ 1099511627776) (hTn : T.length ≤ 9223372036854775807) (hpk : AllR (setR (idsOf ms)) T → (packP (selR (setR (idsOf ms)) T)).length ≤ 1048576) (c d : Nat) :
    Calls Tryz.prog 12 #[.slice A ms.length c, .slice C T.length d] w (StoB ms T w) :=
  (rStore_any (SW.starts (l := [imOb A rs ms, cxOb C T]) (fun o ho => by
    rcases List.mem_cons.1 ho with rfl | ho
    · exact ⟨hm, fun _ h => h, im_lt hm⟩
    · rw [List.mem_singleton.1 ho]
      exact ⟨hc, fun _ h => h, cx_lt hc⟩)) (.head _) hn hi hok (.tail _ (.head _)) hTb hTn hpk c d).mono (fun e w' h => stoB_of h)
end
end Go.Proofs.YtmiknfneeipkeaaGreat
namespace Go.Proofs.YtmiknfneeipkeaaGreat
open Go.RowKit Go.ChangeShapes

theorem cell_lt {W : World} {b o : Nat} {v : Value} (h : W.cell? ⟨b, o, none⟩ = some v) : b < W.heap.size := by
  rcases Nat.lt_or_ge b W.heap.size with h1 | h1
  · exact h1
  · exfalso
    simp [World.cell?, Array.getElem?_eq_none h1] at h
theorem open_nums {H : Type} {enc : TypeId × Value → H} {W : World} {base : Nat} {spare : Nat → Bool} {held : Bool} {A : Option Addr} {len cap : Nat} {d : DataW H} {p : List MemPlace}
    (h : DataW.Trod enc Tryz.prog W base spare held 22 (.slice A len cap) d p) : ∃ xs : List Int, xs.length = len ∧ RdT W W.heap.size A xs ∧ len ≤ 9223372036854775807 := by
  obtain ⟨fuel, hf⟩ := h
  rcases Go.ChangeShapes.open_ints Tryz.underlying22 Tryz.underlying3 (by kernel_rfl) hf with ⟨hcs, _⟩ | ⟨a, l, c, zs, hcs, _, hl, hm, hz, _, hx, _⟩
  · simp [Value.cells] at hcs
    obtain ⟨rfl, rfl, rfl⟩ := hcs
    exact ⟨[], rfl, fun hp => absurd hp (by simp), by omega⟩
  · simp [Value.cells] at hcs
    obtain ⟨rfl, rfl, rfl⟩ := hcs
    have hlz : len ≤ zs.length := by rw [hz]; split <;> omega
    unfold maxLen at hm
    refine ⟨zs.take len, by rw [List.length_take]; omega, fun hp => ?_, by omega⟩
    have hp' : 0 < len := by rw [List.length_take] at hp; omega
    obtain ⟨b, off, spot⟩ := a
    have h0 := hx 0 (by omega)
    have hspot : spot = none := by simpa [Addr.add] using World.cell?_spot h0
    subst hspot
    have hadd : ∀ j, (⟨b, off, none⟩ : Addr).add j = ⟨b, off + j, none⟩ := fun j => by unfold Addr.add; split <;> simp_all
    rw [hadd] at h0
    refine ⟨b, off, rfl, cell_lt h0, fun j hj => ?_⟩
    rw [List.length_take] at hj
    have := hx j (by omega)
    rw [hadd] at this
    rw [this, List.getD_eq_getElem?_getD, List.getD_eq_getElem?_getD, List.getElem?_take_of_lt (by omega)]
theorem open_bytes {H : Type} {enc : TypeId × Value → H} {W : World} {base : Nat} {spare : Nat → Bool} {held : Bool} {A : Option Addr} {len cap : Nat} {d : DataW H} {p : List MemPlace}
    (h : DataW.Trod enc Tryz.prog W base spare held 40 (.slice A len cap) d p) : ∃ bs : List UInt8, bs.length = len ∧ (SB W A bs ∧ len ≤ cap ∧ (A = none → cap = 0)) ∧ len ≤ 9223372036854775807 := by
  obtain ⟨fuel, hf⟩ := h
  rcases Go.ChangeShapes.open_ints Tryz.underlying40 Tryz.underlying5 (by kernel_rfl) hf with ⟨hcs, _⟩ | ⟨a, l, c, zs, hcs, _, hl, hm, hz, _, hx, hwf⟩
  · simp [Value.cells] at hcs
    obtain ⟨rfl, rfl, rfl⟩ := hcs
    exact ⟨[], rfl, ⟨⟨fun _ => rfl, (fun ad e => by cases e)⟩, Nat.le_refl _, fun _ => rfl⟩, by omega⟩
  · simp [Value.cells] at hcs
    obtain ⟨rfl, rfl, rfl⟩ := hcs
    have hlz : len ≤ zs.length := by rw [hz]; split <;> omega
    unfold maxLen at hm
    refine ⟨(zs.take len).map (fun n => UInt8.ofNat n.toNat), by rw [List.length_map, List.length_take]; omega, ⟨⟨(fun e => by cases e), fun ad e j u hu => ?_⟩, hl, (fun e => by cases e)⟩, by omega⟩
    injection e with e
    subst e
    have hj : j < len := by
      have := (List.getElem?_eq_some_iff.1 hu).1
      simp at this
      omega
    rw [hx j (by omega)]
    rw [List.map_map, List.getElem?_map, List.getElem?_take_of_lt hj, List.getElem?_eq_getElem (by omega)] at hu
    have hm' := hwf zs[j] (List.getElem_mem (by omega))
    simp only [Lit.wf] at hm'
    rw [List.getD_eq_getElem?_getD, List.getElem?_eq_getElem (by omega), ← hu]
    simp only [Option.getD_some, Option.map_some, Function.comp_def, encU]
    have : 0 ≤ zs[j] ∧ zs[j] < 256 := by
      rw [Bool.and_eq_true, decide_eq_true_eq, decide_eq_true_eq, show IntKind.u8.min = 0 from rfl, show IntKind.u8.max = 255 from rfl] at hm'
      omega
    congr 2
    rw [UInt8.toNat_ofNat']
    omega
end Go.Proofs.YtmiknfneeipkeaaGreat
