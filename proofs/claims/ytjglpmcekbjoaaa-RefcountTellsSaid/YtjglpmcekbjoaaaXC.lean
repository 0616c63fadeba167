/- Contracts: Verify of the reference. -/
import Derived.Test.YtjglpmcekbjoaaaXB
namespace Go.Proofs.Ytjglpmcekbjoaaa
open Go.RowKit Go.MapKept Go.ChangeMaps
attribute [local go_sem] wext_cell

theorem errM_take {ms : List Man} (h : errM ms = 0) (k : Nat) : errM (ms.take k) = 0 := by
  refine Classical.byContradiction (fun hh => ?_)
  have := errM_more (ms.take k) (ms.drop k) hh
  rw [List.take_append_drop, h] at this
  exact hh this.symm
theorem errM_mem {ms : List Man} (h : errM ms = 0) {k : Nat} (hk : k < ms.length) : manE (ms.getD k man0) = 0 := by
  have h1 := errM_take h (k + 1)
  rw [take_snoc _ man0 _ hk, errM_snoc _ _ (errM_take h k)] at h1
  exact h1
theorem bothR_snoc (t u : List CT) (c : CT) : bothR t (u ++ [c]) = putR (bothR t u) c.1 0 := by simp [bothR]
theorem bothR_len (t u : List CT) : (bothR t u).length ≤ t.length + u.length := by
  induction u generalizing t with
  | nil => simp [bothR]
  | cons c u ih =>
    have h1 := ih (putR t c.1 0)
    have h2 := putR_len t c.1 0
    have e : bothR t (c :: u) = bothR (putR t c.1 0) u := rfl
    rw [e, List.length_cons]
    omega
theorem bothR_bd {t u : List CT} {B : Int} (h0 : 0 ≤ B) (h : ∀ c ∈ t, -B ≤ c.2 ∧ c.2 ≤ B) : ∀ c ∈ bothR t u, -B ≤ c.2 ∧ c.2 ≤ B := by
  induction u generalizing t with
  | nil => exact h
  | cons d u ih =>
    refine ih (t := putR t d.1 0) (fun c hc => ?_)
    have := putR_bd (lo := -B) (hi := B) (m := 0) (n := 0) (by omega) (by omega) h0 (by omega) h c hc
    omega
def lastN (u : List CT) (i : ID) : Int := u.foldl (fun n c => if c.1 = i then c.2 else n) 0
theorem lastN_snoc (u : List CT) (c : CT) (i : ID) : lastN (u ++ [c]) i = if c.1 = i then c.2 else lastN u i := by simp [lastN]
theorem lastN_eq {u : List CT} (hn : (u.map (·.1)).Nodup) (i : ID) : lastN u i = nAt u i := by
  have key : ∀ (u : List CT) (n : Int), (u.map (·.1)).Nodup → u.foldl (fun n c => if c.1 = i then c.2 else n) n = (asc u i).getD n := by
    intro u
    induction u with
    | nil => intro n _; rfl
    | cons c u ih =>
      intro n hn
      simp only [List.map_cons, List.nodup_cons] at hn
      rw [List.foldl_cons, ih _ hn.2, asc]
      by_cases e : c.1 = i
      · subst e
        rw [if_pos rfl, if_pos rfl, asc_none_iff.2 hn.1]
        rfl
      · rw [if_neg e, if_neg e]
  exact key u 0 hn
def wrL (real both : List CT) : List ID := (both.filter (fun c => !(nAt real c.1 == c.2))).map (·.1)
theorem wrL_snoc (real both : List CT) (c : CT) : wrL real (both ++ [c]) = if nAt real c.1 = c.2 then wrL real both else wrL real both ++ [c.1] := by
  unfold wrL
  rw [List.filter_append]
  by_cases h : nAt real c.1 = c.2 <;> simp [h]
theorem wrL_len (real both : List CT) : (wrL real both).length ≤ both.length := by
  unfold wrL
  rw [List.length_map]
  exact List.length_filter_le _ _

set_option maxRecDepth 100000 in
set_option maxHeartbeats 8000000 in
theorem rVerify_any (x : Nat) (t : List CT) (A : Option Addr) (c : Nat) (ms : List Man) (B : Option Addr) (d : Nat) (w : World) (hr : RdC w x A t) (hm : RdM w x B ms) (hx : x < w.heap.size) (hn : t.length ≤ 9223372036854775807) (hnm : ms.length ≤ 1000000) (hi : ∀ m ∈ ms, m.ids.length ≤ 9223372036854775807) :
    Calls Try.prog 29 #[.slice A t.length c, .slice B ms.length d] w (TwoI x (verP t ms) w) := by
  obtain ⟨i0, hi43, hz0, hz1, hz2⟩ := info_parts info43
  have Hr := Lib.hid hr
  have Hm := Lib.hid hm
  have Hi := Lib.hid hi
  clear hr hm hi
  obtain ⟨p, Hp⟩ : ∃ p, Hid (verP t ms = p) := ⟨_, rfl⟩
  rw [Hp.out]
  go_enter Try.func29, Try.ntmps29
  go_wp2_with fail
  refine (rCheck_any x t A c _ Hr.out hn).mono ?_
  rintro e w1 ⟨rfl, hb1⟩
  have Hb1 := Lib.hid hb1
  have hs1 := hb1.size
  clear hb1
  by_cases hE : tblE t = 0
  · have HE := Lib.hid hE
    have hl4 := ((tblE_iff t).1 hE).1
    rw [hE]
    clear hE
    go_wp2_with fail
    refine (checks_any x ms B d _ (Hm.out.on Hb1.out) hnm Hi.out).mono ?_
    rintro e w2 ⟨rfl, hb2⟩
    have Hb2 : Hid (Below w.heap.size w w2) := Hb1.out.trans (hb2.mono hs1)
    clear hb2
    by_cases hM : errM ms = 0
    · have HM := Lib.hid hM
      have hp := Hp.out
      rw [verP, if_pos HE.out, if_pos hM] at hp
      have Hq : Hid ((wrongR t (ofT ms), (0 : Int)) = p) := hp
      rw [hM]
      clear hM hp
      go_wp2_with fail
      go_loopw [8, 9] (fun v8 v9 wr => ∃ (k : Nat) (V : Option Addr) (e : Nat), k ≤ ms.length ∧ v9 = .int .i64 k ∧ v8 = .slice V (ofT (ms.take k)).length e ∧ RdC wr x V (ofT (ms.take k)) ∧ (ofT (ms.take k)).length ≤ e ∧ Below w.heap.size w wr) (fun _ v9 _ => ms.length - (intOf v9).toNat)
      case atStart => exact ⟨0, none, 0, Nat.zero_le _, rfl, rfl, Rd.nil, Nat.le_refl _, Hb2.out⟩
      case round =>
        obtain ⟨k, V, ee, hk, rfl, rfl, hrB, hd, hbw⟩ := hrel
        have hsz := hbw.size
        have hil := idsOf_len (errM_take HM.out k)
        have htl := take_len ms k
        have hlen := allR_len [] (idsOf (ms.take k))
        have hbd := allR_bd (t := []) (lo := 0) (hi := 0) (by omega) (by omega) (by simp) (idsOf (ms.take k))
        rw [← ofT_eq] at hlen hbd
        simp only [List.length_nil] at hlen
        obtain ⟨T, HT⟩ : ∃ T, Hid (ofT (ms.take k) = T) := ⟨_, rfl⟩
        rw [HT.out] at hrB hd hlen hbd ⊢
        have HrB := Lib.hid hrB
        have Hbw := Lib.hid hbw
        have Hbd := Lib.hid hbd
        clear hrB hbw hbd
        by_cases hlt : k < ms.length
        · obtain ⟨rs, h1, h2, h3⟩ := Hm.out
          obtain ⟨b, o, rfl, hbB, _, hc⟩ := h1 (by omega)
          obtain ⟨l1, l2, l3, l4⟩ := h3 k hlt
          have hme := errM_mem HM.out hlt
          obtain ⟨m, HI⟩ : ∃ m, Hid (ms.getD k man0 = m) := ⟨_, rfl⟩
          obtain ⟨⟨rz, rA, rl, rc⟩, HR⟩ : ∃ r, Hid (rs.getD k mr0 = r) := ⟨_, rfl⟩
          rw [HI.out] at l1 l2 l4 hme
          rw [HR.out] at l1 l2 l3 l4
          simp only at l1 l2 l3 l4
          subst l1 l2
          have hml := manE_len hme
          have hc0 : wr.cell? ⟨b, o + k * 2, none⟩ = some (.int .i64 m.size) := B_cell Hbw.out hbB (hc k (by omega) 0 _ (by rw [HR.out]; rfl))
          have hc1 : wr.cell? ⟨b, o + k * 2 + 1, none⟩ = some (.slice rA m.ids.length rc) := B_cell Hbw.out hbB (hc k (by omega) 1 _ (by rw [HR.out]; rfl))
          have L4 := Lib.hid l4
          have HN : Hid (ofT (ms.take (k + 1)) = allR T m.ids) := by
            unfold Hid
            rw [take_snoc _ man0 _ hlt, HI.out, ofT, List.foldl_append]
            show allR (ofT (ms.take k)) m.ids = _
            rw [HT.out]
          clear h1 h2 h3 hc l4 hme
          go_wp2_with fail
          refine (all_any x T V ee m rA rc _ HrB.out (L4.out.on Hbw.out) (by omega) (by omega) hd (by omega) (fun c hc => by have := Hbd.out c hc; omega)).mono ?_
          rintro e w3 ⟨A2, c2, rfl, hr2, hc2, hb2⟩
          have Hr2 := Lib.hid hr2
          have Hb3 : Hid (Below w.heap.size w w3) := Hbw.out.trans (hb2.mono hsz)
          clear hr2 hb2
          go_wp2_with fail
          go_roundw
          case rel => exact ⟨k + 1, A2, c2, by omega, by go_num, by rw [HN.out], by rw [HN.out]; exact Hr2.out, by rw [HN.out]; exact hc2, Hb3.out⟩
          case measure => simp [intOf]; omega
        · obtain rfl : k = ms.length := by omega
          rw [List.take_length] at HT
          have hTn := (ofT_spec ms).1.nodup
          rw [HT.out] at hTn
          have HTn := Lib.hid hTn
          have hq := Hq.out
          rw [HT.out] at hq
          have Hq2 := Lib.hid hq
          clear hTn hq
          rename World => wa
          go_wp2_with fail
          refine (Copy_any x t A c _ (Hr.out.on Hbw.out) (by omega) (by omega)).mono ?_
          rintro e w3 ⟨A3, c3, rfl, hr3, hc3, hb3⟩
          have Hb3 : Hid (Below w.heap.size w w3) := Hbw.out.trans (hb3.mono hsz)
          have HrT3 : Hid (RdC w3 x V T) := HrB.out.on hb3
          have Hr3 := Lib.hid hr3
          have hs3 := Hb3.out.size
          clear hb3 hr3
          go_wp2_with fail
          go_loopw [10, 11] (fun v10 v11 wr => ∃ (k : Nat) (V2 : Option Addr) (e2 : Nat), k ≤ T.length ∧ v11 = .int .i64 k ∧ v10 = .slice V2 (bothR t (T.take k)).length e2 ∧ RdC wr x V2 (bothR t (T.take k)) ∧ (bothR t (T.take k)).length ≤ e2 ∧ RdC wr x V T ∧ Below w.heap.size w wr) (fun _ v11 _ => T.length - (intOf v11).toNat)
          case atStart => exact ⟨0, A3, c3, Nat.zero_le _, rfl, rfl, Hr3.out, hc3, HrT3.out, Hb3.out⟩
          case round =>
            obtain ⟨k, V2, e2, hk2, rfl, rfl, hrV, hd2, hrT, hbw2⟩ := hrel
            have hsz2 := hbw2.size
            have htl2 := take_len T k
            have hlen2 := bothR_len t (T.take k)
            have hbd2 := bothR_bd (t := t) (u := T.take k) (B := 1073741824) (by omega) (fun c hc => by have := tbl_bd HE.out c hc; omega)
            obtain ⟨U, HU⟩ : ∃ U, Hid (bothR t (T.take k) = U) := ⟨_, rfl⟩
            rw [HU.out] at hrV hd2 hlen2 hbd2 ⊢
            have HrV := Lib.hid hrV
            have HrT := Lib.hid hrT
            have Hbw2 := Lib.hid hbw2
            have Hbd2 := Lib.hid hbd2
            clear hrV hbw2 hbd2 hrT
            by_cases hlt2 : k < T.length
            · obtain ⟨b1, o1, rfl, hb1, hbx, hc1⟩ := HrT.out (by omega)
              obtain ⟨p0, q0, n0, HJ⟩ : ∃ p0 q0 n0, Hid (T.getD k ct0 = ((p0, q0), n0)) := ⟨_, _, _, rfl⟩
              have d0 : wr.cell? ⟨b1, o1 + k * 3, none⟩ = some (.int .u64 p0) := hc1 k hlt2 0 _ (by rw [HJ.out]; rfl)
              have d1 : wr.cell? ⟨b1, o1 + k * 3 + 1, none⟩ = some (.int .i64 q0) := hc1 k hlt2 1 _ (by rw [HJ.out]; rfl)
              have HN : Hid (bothR t (T.take (k + 1)) = putR U (p0, q0) 0) := by rw [Hid, take_snoc _ ct0 _ hlt2, bothR_snoc, HU.out, HJ.out]
              clear hc1
              go_wp2_with fail
              refine (Put_any x U V2 e2 p0 q0 0 _ HrV.out (by omega) (by omega) (by omega) (fun c hc => by have := Hbd2.out c hc; omega)).mono ?_
              rintro e w4 ⟨A4, c4, rfl, hr4, hc4, _, hb4⟩
              have Hr4 := Lib.hid hr4
              have HrT4 := Lib.hid (HrT.out.on hb4)
              have Hb4 : Hid (Below w.heap.size w w4) := Hbw2.out.trans (hb4.mono hsz2)
              clear hr4 hb4
              go_wp2_with fail
              go_roundw
              case rel => exact ⟨k + 1, A4, c4, by omega, by go_num, by rw [HN.out], by rw [HN.out]; exact Hr4.out, by rw [HN.out]; exact hc4, HrT4.out, Hb4.out⟩
              case measure => simp [intOf]; omega
            · obtain rfl : k = T.length := by omega
              rw [List.take_length] at HU
              have hq := Hq2.out
              have hwr : wrongR t T = wrL T U := by rw [← HU.out]; rfl
              rw [hwr] at hq
              have Hq3 := Lib.hid hq
              rename World => wb
              clear hwr hq
              go_wp2_with fail
              go_loopw [12, 13] (fun v12 v13 wr => ∃ (k : Nat) (V3 : Option Addr) (e3 : Nat), k ≤ U.length ∧ v13 = .int .i64 k ∧ v12 = .slice V3 (wrL T (U.take k)).length e3 ∧ wr.ownsRow wb.heap.size 43 2 (.slice V3 (wrL T (U.take k)).length e3) (wrL T (U.take k)).length ((wrL T (U.take k)).flatMap encID) ∧ Below wb.heap.size wb wr) (fun _ v13 _ => U.length - (intOf v13).toNat)
              case atStart => exact ⟨0, none, 0, Nat.zero_le _, rfl, rfl, World.ownsRow_nil _ _ _ _, Below.refl _ _⟩
              case round =>
                obtain ⟨k, V3, e3, hk3, rfl, rfl, hown, hbw3⟩ := hrel
                have hsz3 := hbw3.size
                have hlen3 := wrL_len T (U.take k)
                have htl3 := take_len U k
                obtain ⟨xs, HX⟩ : ∃ xs, Hid (wrL T (U.take k) = xs) := ⟨_, rfl⟩
                rw [HX.out] at hown hlen3 ⊢
                have Hown := Lib.hid hown
                have Hbw3 := Lib.hid hbw3
                clear hown hbw3
                by_cases hlt3 : k < U.length
                · obtain ⟨b3, o3, rfl, hb3l, _, hc3'⟩ := HrV.out (by omega)
                  obtain ⟨p1, q1, n1, HK⟩ : ∃ p1 q1 n1, Hid (U.getD k ct0 = ((p1, q1), n1)) := ⟨_, _, _, rfl⟩
                  have C0 : Hid (wb.cell? ⟨b3, o3 + k * 3, none⟩ = some (.int .u64 p1)) := hc3' k hlt3 0 _ (by rw [HK.out]; rfl)
                  have C1 : Hid (wb.cell? ⟨b3, o3 + k * 3 + 1, none⟩ = some (.int .i64 q1)) := hc3' k hlt3 1 _ (by rw [HK.out]; rfl)
                  have C2 : Hid (wb.cell? ⟨b3, o3 + k * 3 + 2, none⟩ = some (.int .i64 n1)) := hc3' k hlt3 2 _ (by rw [HK.out]; rfl)
                  rename World => wc
                  clear hc3'
                  go_wp2_with fail
                  go_loopw [14, 15] (fun v14 v15 wr => ∃ j : Nat, j ≤ T.length ∧ v15 = .int .i64 j ∧ v14 = .int .i64 (lastN (T.take j) (p1, q1)) ∧ Below wc.heap.size wc wr) (fun _ v15 _ => T.length - (intOf v15).toNat)
                  case atStart => exact ⟨0, Nat.zero_le _, rfl, rfl, Below.refl _ _⟩
                  case round =>
                    obtain ⟨j, hj, rfl, rfl, hbw4⟩ := hrel
                    have Hbw4 := Lib.hid hbw4
                    have Hbb : Hid (Below wb.heap.size wb wr) := Hbw3.out.trans (hbw4.mono hsz3)
                    have c0 := B_cell Hbb.out hb3l C0.out
                    have c1 := B_cell Hbb.out hb3l C1.out
                    have c2 := B_cell Hbb.out hb3l C2.out
                    obtain ⟨n, Hn⟩ : ∃ n, Hid (lastN (T.take j) (p1, q1) = n) := ⟨_, rfl⟩
                    rw [Hn.out]
                    clear hbw4
                    by_cases hlt4 : j < T.length
                    · obtain ⟨b4, o4, rfl, hb4l, _, hc4'⟩ := HrT.out (by omega)
                      obtain ⟨p2, q2, n2, HJ⟩ : ∃ p2 q2 n2, Hid (T.getD j ct0 = ((p2, q2), n2)) := ⟨_, _, _, rfl⟩
                      have a0 : wr.cell? ⟨b4, o4 + j * 3, none⟩ = some (.int .u64 p2) := B_cell Hbb.out hb4l (hc4' j hlt4 0 _ (by rw [HJ.out]; rfl))
                      have a1 : wr.cell? ⟨b4, o4 + j * 3 + 1, none⟩ = some (.int .i64 q2) := B_cell Hbb.out hb4l (hc4' j hlt4 1 _ (by rw [HJ.out]; rfl))
                      have a2 : wr.cell? ⟨b4, o4 + j * 3 + 2, none⟩ = some (.int .i64 n2) := B_cell Hbb.out hb4l (hc4' j hlt4 2 _ (by rw [HJ.out]; rfl))
                      have HS : Hid (lastN (T.take (j + 1)) (p1, q1) = if (p2, q2) = (p1, q1) then n2 else n) := by rw [Hid, take_snoc _ ct0 _ hlt4, lastN_snoc, HJ.out, Hn.out]
                      clear hc4'
                      by_cases e0 : p2 = p1
                      · obtain rfl := e0
                        by_cases e1 : q2 = q1
                        · obtain rfl := e1
                          have hs := HS.out
                          rw [if_pos rfl] at hs
                          have HS2 := Lib.hid hs
                          clear hs
                          go_wp2_with fail
                          go_quiet (fail)
                          go_wp2_with fail
                          go_roundw
                          case rel => exact ⟨j + 1, by omega, by go_num, by rw [HS2.out], bdrewN Hbw4.out _⟩
                          case measure => simp [intOf]; omega
                        · have hne : (q2 == q1) = false := by rw [beq_eq_false_iff_ne]; exact e1
                          have hs := HS.out
                          rw [if_neg (fun h => e1 (by injection h))] at hs
                          have HS2 := Lib.hid hs
                          clear hs e1
                          go_wp2_with fail
                          go_quiet (fail)
                          go_wp2_with fail
                          go_roundw
                          case rel => exact ⟨j + 1, by omega, by go_num, by rw [HS2.out], bdrewN Hbw4.out _⟩
                          case measure => simp [intOf]; omega
                      · have hne : (p2 == p1) = false := by rw [beq_eq_false_iff_ne]; exact e0
                        have hs := HS.out
                        rw [if_neg (fun h => e0 (by injection h))] at hs
                        have HS2 := Lib.hid hs
                        clear hs e0
                        go_wp2_with fail
                        go_quiet (fail)
                        go_wp2_with fail
                        go_roundw
                        case rel => exact ⟨j + 1, by omega, by go_num, by rw [HS2.out], bdrewN Hbw4.out _⟩
                        case measure => simp [intOf]; omega
                    · obtain rfl : j = T.length := by omega
                      rw [List.take_length, lastN_eq HTn.out] at Hn
                      have K4 : Hid (wr.ownsRow wb.heap.size 43 2 (.slice V3 xs.length e3) xs.length (xs.flatMap encID)) := own_on Hown.out Hbw4.out
                      have hs4 := Hbb.out.size
                      by_cases hz : n = n1
                      · have hbe : (n != n1) = false := by simp [hz]
                        have HN : Hid (wrL T (U.take (k + 1)) = xs) := by rw [Hid, take_snoc _ ct0 _ hlt3, wrL_snoc, HK.out, if_pos (by rw [Hn.out]; exact hz), HX.out]
                        clear hz
                        go_wp2_with fail
                        go_roundw
                        case rel => exact ⟨k + 1, V3, e3, by omega, by go_num, by rw [HN.out], by rw [HN.out]; exact K4.out, Hbb.out⟩
                        case measure => simp [intOf]; omega
                      · have hbe : (n != n1) = true := by rw [bne_iff_ne]; exact hz
                        have HN : Hid (wrL T (U.take (k + 1)) = xs ++ [(p1, q1)]) := by rw [Hid, take_snoc _ ct0 _ hlt3, wrL_snoc, HK.out, if_neg (by rw [Hn.out]; exact hz), HX.out]
                        clear hz
                        go_wp2_with (at_builtin; refine halt_ ?_)
                        unfold Hid
                        refine wpList_append_lies _ rfl _ _ _ rfl wb.heap.size 43 i0 _ 2 16 Try.underlying36 hi43 hz0 hz1 hz2 rfl (by decide) _ xs.length _ rfl (K4.out.alloc _) ⟨wr.heap.size, 0, none⟩ 1 1 [.int .u64 p1, .int .i64 q1] rfl rfl (two_new _ _ _ _ _ (by simp)) (encID_one (p1, q1)) (by omega) (by unfold maxLen; omega) (by omega) (by simp; omega) (wr.heap.size + 1) (by simp) ?_
                        intro g5 c5 w5 hown5 hgrow5 hat5 hlt5
                        have K5 := Lib.hid hown5
                        have B5 : Hid (Below wb.heap.size wb w5) := (Hbb.out.alloc Hbb.out.size _).grown hgrow5 (by simp; omega) (fun k hk => (K4.out.lt k hk).1)
                        clear hown5 hgrow5 hat5
                        go_wp2_with fail
                        go_roundw
                        case rel =>
                          refine ⟨k + 1, some ⟨g5, 0, none⟩, c5, by omega, by go_num, by rw [HN.out]; simp, ?_, B5.out⟩
                          rw [HN.out, List.length_append, List.flatMap_append]
                          exact K5.out
                        case measure => simp [intOf]; omega
                · obtain rfl : k = U.length := by omega
                  rw [List.take_length] at HX
                  have hq := Hq3.out
                  rw [HX.out] at hq
                  subst hq
                  go_wp2_with fail
                  go_ret2
                  exact ⟨V3, e3, rfl, (Rd.of_own encID_len (by omega) Hown.out (by omega)).2, Hbw2.out.trans (Hbw3.out.mono hsz2)⟩
    · have hp := Hp.out
      rw [verP, if_pos HE.out, if_neg hM] at hp
      have Hq := Lib.hid hp.symm
      have hbe : (errM ms != 0) = true := by rw [bne_iff_ne]; exact hM
      clear hM hp
      go_wp2_with fail
      go_ret2
      exact twoI_err Hq.out Hb2.out
  · have hp := Hp.out
    rw [verP, if_neg hE] at hp
    have Hq := Lib.hid hp.symm
    have hbe : (tblE t != 0) = true := by rw [bne_iff_ne]; exact hE
    clear hE hp
    go_wp2_with fail
    go_ret2
    exact twoI_err Hq.out Hb1.out
end Go.Proofs.Ytjglpmcekbjoaaa
