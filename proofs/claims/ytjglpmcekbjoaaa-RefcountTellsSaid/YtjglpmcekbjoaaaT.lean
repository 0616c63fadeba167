/- Contracts: the reference's Add, Release, Merge; the program's Merge. -/
import Derived.Test.YtjglpmcekbjoaaaS
namespace Go.Proofs.Ytjglpmcekbjoaaa
open Go.RowKit Go.MapKept Go.ChangeMaps
attribute [local go_sem] wext_cell

theorem of_drewN {B : Nat} {w w' : World} {n : Nat} (h : Below B (w.drewN n) w') : Below B w w' := ⟨h.os, h.tape, h.output, h.size, h.block⟩
theorem of_drew {B : Nat} {w w' : World} (h : Below B w.drew w') : Below B w w' := ⟨h.os, h.tape, h.output, h.size, h.block⟩
theorem twoC_below {x : Nat} {p : List CT × Int} {w : World} {e : Ending} {w' : World} (h : TwoC x p w e w') : Below w.heap.size w w' := by
  obtain ⟨_, _, _, _, _, h⟩ := h
  exact h
theorem tbl_bd {t : List CT} (h : tblE t = 0) : ∀ c ∈ t, 0 ≤ c.2 ∧ c.2 ≤ 1073741824 := fun c hc => ((rowB_iff c).1 (((tblE_iff t).1 h).2.2 c hc)).2

set_option maxHeartbeats 4000000 in
theorem rAdd_any (x : Nat) (t : List CT) (A : Option Addr) (c : Nat) (m : Man) (B : Option Addr) (d : Nat) (w : World) (hr : RdC w x A t) (hm : RdID w x B m.ids) (hx : x < w.heap.size) (hn : t.length ≤ 9223372036854775807) (hi : m.ids.length ≤ 9223372036854775807) :
    Calls Try.prog 24 #[.slice A t.length c, .agg #[.int .i64 m.size, .slice B m.ids.length d]] w (TwoC x (addP t m) w) := by
  have Hr := Lib.hid hr
  have Hm := Lib.hid hm
  clear hr hm
  obtain ⟨p, Hp⟩ : ∃ p, Hid (addP t m = p) := ⟨_, rfl⟩
  rw [Hp.out]
  go_enter Try.func24, Try.ntmps24
  go_wp2_with fail
  refine (rCheck_any x t A c _ (Hr.out.alloc _) hn).mono ?_
  rintro e w1 ⟨rfl, hb1⟩
  have Hb1 : Hid (Below w.heap.size w w1) := (bel1 w _).trans (hb1.mono (by simp))
  have HI : Hid (IsB w1 w.heap.size 38 #[.int .i64 m.size, .slice B m.ids.length d]) := (IsB.new _ _ _).on hb1
  clear hb1
  by_cases hE : tblE t = 0
  · have HE := Lib.hid hE
    rw [hE]
    clear hE
    have hm0 : w1.cell? ⟨w.heap.size, 0, none⟩ = some (.int .i64 m.size) := by rw [HI.out.cell]; rfl
    have hm1 : w1.cell? ⟨w.heap.size, 1, none⟩ = some (.slice B m.ids.length d) := by rw [HI.out.cell]; rfl
    have hs1 := Hb1.out.size
    have hl4 := ((tblE_iff t).1 HE.out).1
    have hI1 := HI.out.lt
    go_wp2_with fail
    refine (rmanCheck_any x m B d _ (Hm.out.on Hb1.out) hi).mono ?_
    rintro e w2 ⟨rfl, hb2⟩
    have Hb2 : Hid (Below w.heap.size w w2) := Hb1.out.trans (hb2.mono hs1)
    have HI2 : Hid (IsB w2 w.heap.size 38 #[.int .i64 m.size, .slice B m.ids.length d]) := HI.out.on hb2
    clear hb2 hm0 hm1
    by_cases hM : manE m = 0
    · have hp := Hp.out
      rw [← add_eq, if_pos HE.out, if_pos hM] at hp
      have Hq : Hid (limT (allR t m.ids) = p) := hp
      have hml := manE_len hM
      have hm0 : w2.cell? ⟨w.heap.size, 0, none⟩ = some (.int .i64 m.size) := by rw [HI2.out.cell]; rfl
      have hm1 : w2.cell? ⟨w.heap.size, 1, none⟩ = some (.slice B m.ids.length d) := by rw [HI2.out.cell]; rfl
      have hs2 := Hb2.out.size
      have hI2 := HI2.out.lt
      have hal := allR_len t m.ids
      have Hrw : Hid (RdC w2 x A t) := Hr.out.on Hb2.out
      have Hmw : Hid (RdID w2 x B m.ids) := Hm.out.on Hb2.out
      rw [hM]
      clear hM hp
      go_wp2_with fail
      go_region_held3 (fun w' => w'.cell? ⟨w.heap.size, 0, none⟩ = some (.int .i64 m.size) ∧ w'.cell? ⟨w.heap.size, 1, none⟩ = some (.slice B m.ids.length d))
        (first | go_keep | (exact ⟨by rw [Hk.out.cell]; rfl, by rw [Hk.out.cell]; rfl⟩))
        (first
          | (go_at_call 48; refine (Copy_any x t A c w2.drew Hrw.out (show x < w2.heap.size by omega) (by omega)).mono ?_; rintro e w3 ⟨A3, c3, rfl, hr3, hc3, hb3'⟩; have hb3 := of_drew hb3'; have Hr3 := Lib.hid hr3; have Hm3 : Hid (RdID w3 x B m.ids) := Hmw.out.on hb3; have Hb3 : Hid (Below w.heap.size w w3) := Hb2.out.trans (hb3.mono hs2); have hs3 := Hb3.out.size; have Hk : Hid (IsB w3 w.heap.size 38 #[.int .i64 m.size, .slice B m.ids.length d]) := HI2.out.on hb3; clear hr3 hb3 hb3')
          | (go_at_call 42; refine (all_any x t A3 c3 m B d _ Hr3.out Hm3.out (by omega) (by omega) hc3 (by omega) (fun c hc => by have := tbl_bd HE.out c hc; omega)).mono ?_; rintro e w4 ⟨A4, c4, rfl, hr4, hc4, hb4⟩; have Hr4 := Lib.hid hr4; have Hb4 : Hid (Below w.heap.size w w4) := Hb3.out.trans (hb4.mono hs3); have Hk3 := Hk; have Hk : Hid (IsB w4 w.heap.size 38 #[.int .i64 m.size, .slice B m.ids.length d]) := Hk3.out.on hb4; clear hr4 hb4)
          | (go_at_call 43; refine (limited_any x (allR t m.ids) A4 c4 _ Hr4.out (by omega) hc4).mono ?_; intro e w5 h5; rw [Hq.out] at h5; have hb45 := twoC_below h5; obtain ⟨A5, c5, rfl, hr5, hc5, hb5⟩ := TwoC.from Hb4.out h5; have Hk4 := Hk; have Hk : Hid (IsB w5 w.heap.size 38 #[.int .i64 m.size, .slice B m.ids.length d]) := Hk4.out.on hb45; have Hr5 := Lib.hid hr5; have Hb5 := Lib.hid hb5; clear h5 hr5 hb5 hb45))
      go_wp2_with fail
      go_ret2
      exact ⟨A5, c5, rfl, Hr5.out, hc5, Hb5.out⟩
    · have hp := Hp.out
      rw [addP, if_pos HE.out, if_neg hM] at hp
      have Hq := Lib.hid hp.symm
      have hbe : (manE m != 0) = true := by rw [bne_iff_ne]; exact hM
      clear hM hp
      go_wp2_with fail
      go_ret2
      exact twoC_err Hq.out Hb2.out
  · have hp := Hp.out
    rw [addP, if_neg hE] at hp
    have Hq := Lib.hid hp.symm
    have hbe : (tblE t != 0) = true := by rw [bne_iff_ne]; exact hE
    clear hE hp
    go_wp2_with fail
    go_ret2
    exact twoC_err Hq.out Hb1.out

set_option maxHeartbeats 4000000 in
theorem Merge_any (x : Nat) (t u : List CT) (A B : Option Addr) (c d : Nat) (w : World) (hr : RdC w x A t) (hu : RdC w x B u) (hx : x < w.heap.size) (hn : t.length ≤ 9223372036854775807) (hnu : u.length ≤ 9223372036854775807) (hot : ∀ c ∈ t, okID c.1) (hou : ∀ c ∈ u, okID c.1) :
    Calls Try.prog 26 #[.slice A t.length c, .slice B u.length d] w (TwoC x (mergeP t u) w) := by
  have Hr := Lib.hid hr
  have Hu := Lib.hid hu
  have Hot := Lib.hid hot
  have Hou := Lib.hid hou
  clear hr hu hot hou
  obtain ⟨p, Hp⟩ : ∃ p, Hid (mergeP t u = p) := ⟨_, rfl⟩
  rw [Hp.out]
  have hmm := @run_makeMap Try.prog
  have Hmm := Lib.hid hmm
  clear hmm
  go_enter Try.func26, Try.ntmps26
  go_wp2_with fail
  refine (Check_any x t A c _ Hr.out hn).mono ?_
  rintro e w1 ⟨rfl, hb1⟩
  have Hb1 := Lib.hid hb1
  have hs1 := hb1.size
  clear hb1
  by_cases hE : tblE t = 0
  · have HE := Lib.hid hE
    have hl4 := ((tblE_iff t).1 hE).1
    rw [hE]
    clear hE
    go_wp2_with fail
    refine (Check_any x u B d _ (Hu.out.on Hb1.out) hnu).mono ?_
    rintro e w2 ⟨rfl, hb2⟩
    have Hb2 : Hid (Below w.heap.size w w2) := Hb1.out.trans (hb2.mono hs1)
    have hs2 := Hb2.out.size
    clear hb2
    by_cases hU : tblE u = 0
    · have HU := Lib.hid hU
      have hp := Hp.out
      rw [mergeP, if_pos HE.out, if_pos hU] at hp
      subst hp
      have hl4u := ((tblE_iff u).1 hU).1
      have hi0 := incl_len t []
      have hi1 := incl_len u (incl [] t)
      simp only [List.length_nil] at hi0
      have hsep : ∀ (v : List CT) (V : Option Addr), RdC w x V v → 0 < v.length → ∀ b' o, V = some ⟨b', o, none⟩ → b' ≠ w2.heap.size := by
        intro v V hv h0 b' o e
        obtain ⟨b1, o1, e1, hlt, _⟩ := hv h0
        rw [e] at e1
        injection e1 with e1
        injection e1 with e1
        omega
      have hbd := incl_bd (L := []) (t := t) (B := 0) (fun i => by simp [nAt, asc]) (tbl_bd HE.out)
      have Hbd := Lib.hid hbd
      have Hsep := Lib.hid hsep
      have hmm := Hmm.out
      rw [hU]
      clear hU hbd hsep
      go_wp2_with fail
      clear hmm
      refine (include_any x w2.heap.size [] t A c _ ((Hr.out.on Hb2.out).alloc _) (by omega) (MapIs.made w2) (Hsep.out t A Hr.out) (fun i => by simp [nAt, asc]) (fun c hc => ⟨Hot.out c hc, tbl_bd HE.out c hc⟩)).mono ?_
      rintro e w3 ⟨rfl, hm3, hg3⟩
      have Hb3 : Hid (Below w.heap.size w w3) := below_own (Hb2.out.alloc Hb2.out.size _) hg3 hs2
      have Hm3 := Lib.hid hm3
      have hs3 := Hb3.out.size
      clear hm3 hg3
      go_wp2_with fail
      refine (include_any x w2.heap.size (incl [] t) u B d _ (Hu.out.on Hb3.out) (by omega) Hm3.out (Hsep.out u B Hu.out) (fun i => by have := Hbd.out i; omega) (fun c hc => ⟨Hou.out c hc, tbl_bd HU.out c hc⟩)).mono ?_
      rintro e w4 ⟨rfl, hm4, hg4⟩
      have Hb4 : Hid (Below w.heap.size w w4) := below_own Hb3.out hg4 hs2
      have Hm4 := Lib.hid hm4
      have hs4 := Hb4.out.size
      clear hm4 hg4
      go_wp2_with fail
      refine (table_any x w2.heap.size _ _ Hm4.out (by omega) (by omega)).mono ?_
      intro e w5 h5
      obtain ⟨A5, c5, rfl, hr5, hc5, hb5⟩ := TwoC.from Hb4.out (table_two (incl_spec u (incl_spec t (L := []) (by simp) (tbl_nodup HE.out)).1 (tbl_nodup HU.out)).1 h5)
      have Hr5 := Lib.hid hr5
      have Hb5 := Lib.hid hb5
      clear h5 hr5 hb5
      go_wp2_with fail
      go_ret2
      exact ⟨A5, c5, rfl, Hr5.out, hc5, Hb5.out⟩
    · have hp := Hp.out
      rw [mergeP, if_pos HE.out, if_neg hU] at hp
      have Hq := Lib.hid hp.symm
      have hbe : (tblE u != 0) = true := by rw [bne_iff_ne]; exact hU
      clear hU hp
      go_wp2_with fail
      go_ret2
      exact twoC_err Hq.out Hb2.out
  · have hp := Hp.out
    rw [mergeP, if_neg hE] at hp
    have Hq := Lib.hid hp.symm
    have hbe : (tblE t != 0) = true := by rw [bne_iff_ne]; exact hE
    clear hE hp
    go_wp2_with fail
    go_ret2
    exact twoC_err Hq.out Hb1.out

theorem mergeT_snoc (t u : List CT) (c : CT) : mergeT t (u ++ [c]) = putR (mergeT t u) c.1 c.2 := by simp [mergeT]
theorem mergeT_len (t u : List CT) : (mergeT t u).length ≤ t.length + u.length := by
  induction u generalizing t with
  | nil => simp [mergeT]
  | cons c u ih =>
    have h1 := ih (putR t c.1 c.2)
    have h2 := putR_len t c.1 c.2
    have e : mergeT t (c :: u) = mergeT (putR t c.1 c.2) u := rfl
    rw [e, List.length_cons]
    omega
theorem mergeT_bd {t u : List CT} {B : Int} (h0 : 0 ≤ B) (h : ∀ c ∈ t, -B ≤ c.2 ∧ c.2 ≤ B) (hu : ∀ c ∈ u, -1073741824 ≤ c.2 ∧ c.2 ≤ 1073741824) : ∀ c ∈ mergeT t u, -(B + 1073741824 * u.length) ≤ c.2 ∧ c.2 ≤ B + 1073741824 * u.length := by
  induction u generalizing t B with
  | nil => intro c hc; have := h c hc; simp; omega
  | cons d u ih =>
    intro c hc
    have hd := hu d (by simp)
    have := ih (t := putR t d.1 d.2) (B := B + 1073741824) (by omega) (fun c hc => by have := putR_bd (lo := -B) (hi := B) (m := 1073741824) (by omega) (by omega) h0 hd h c hc; omega) (fun c hc => hu c (by simp [hc])) c hc
    rw [List.length_cons]
    push_cast
    omega

set_option maxHeartbeats 4000000 in
theorem rMerge_any (x : Nat) (t u : List CT) (A B : Option Addr) (c d : Nat) (w : World) (hr : RdC w x A t) (hu : RdC w x B u) (hx : x < w.heap.size) (hn : t.length ≤ 9223372036854775807) (hnu : u.length ≤ 9223372036854775807) :
    Calls Try.prog 27 #[.slice A t.length c, .slice B u.length d] w (TwoC x (mergeP t u) w) := by
  have Hr := Lib.hid hr
  have Hu := Lib.hid hu
  clear hr hu
  obtain ⟨p, Hp⟩ : ∃ p, Hid (mergeP t u = p) := ⟨_, rfl⟩
  rw [Hp.out]
  go_enter Try.func27, Try.ntmps27
  go_wp2_with fail
  refine (rCheck_any x t A c _ Hr.out hn).mono ?_
  rintro e w1 ⟨rfl, hb1⟩
  have Hb1 := Lib.hid hb1
  have hs1 := hb1.size
  clear hb1
  by_cases hE : tblE t = 0
  · have HE := Lib.hid hE
    have hl4 := ((tblE_iff t).1 hE).1
    rw [hE]
    clear hE
    go_wp2_with fail
    refine (rCheck_any x u B d _ (Hu.out.on Hb1.out) hnu).mono ?_
    rintro e w2 ⟨rfl, hb2⟩
    have Hb2 : Hid (Below w.heap.size w w2) := Hb1.out.trans (hb2.mono hs1)
    have hs2 := Hb2.out.size
    clear hb2
    by_cases hU : tblE u = 0
    · have HU := Lib.hid hU
      have hp := Hp.out
      rw [← merge_eq, if_pos HE.out, if_pos hU] at hp
      have Hq : Hid (limT (mergeT t u) = p) := hp
      have hl4u := ((tblE_iff u).1 hU).1
      rw [hU]
      clear hU hp
      go_wp2_with fail
      refine (Copy_any x t A c _ (Hr.out.on Hb2.out) (by omega) (by omega)).mono ?_
      rintro e w3 ⟨A3, c3, rfl, hr3, hc3, hb3⟩
      have Hb3 : Hid (Below w.heap.size w w3) := Hb2.out.trans (hb3.mono hs2)
      have Hr3 := Lib.hid hr3
      have hs3 := Hb3.out.size
      clear hb3 hr3
      go_wp2_with fail
      go_loopw [8, 9] (fun v8 v9 wr => ∃ (k : Nat) (V : Option Addr) (e : Nat), k ≤ u.length ∧ v9 = .int .i64 k ∧ v8 = .slice V (mergeT t (u.take k)).length e ∧ RdC wr x V (mergeT t (u.take k)) ∧ (mergeT t (u.take k)).length ≤ e ∧ Below w.heap.size w wr) (fun _ v9 _ => u.length - (intOf v9).toNat)
      case atStart => exact ⟨0, A3, c3, Nat.zero_le _, rfl, rfl, Hr3.out, hc3, Hb3.out⟩
      case round =>
        obtain ⟨k, V, ee, hk, rfl, rfl, hrV, hd, hbw⟩ := hrel
        have hsz := hbw.size
        have htl := take_len u k
        have hlen := mergeT_len t (u.take k)
        have hbd := mergeT_bd (t := t) (u := u.take k) (B := 1073741824) (by omega) (fun c hc => by have := tbl_bd HE.out c hc; omega) (fun c hc => by have := tbl_bd HU.out c (List.mem_of_mem_take hc); omega)
        obtain ⟨T, HT⟩ : ∃ T, Hid (mergeT t (u.take k) = T) := ⟨_, rfl⟩
        rw [HT.out] at hrV hd hlen hbd ⊢
        have HrV := Lib.hid hrV
        have Hbw := Lib.hid hbw
        have Hbd := Lib.hid hbd
        clear hrV hbw hbd
        by_cases hlt : k < u.length
        · obtain ⟨b1, o1, rfl, hb1, _, hc1⟩ := Hu.out (by omega)
          obtain ⟨p0, q0, n0, HJ⟩ : ∃ p0 q0 n0, Hid (u.getD k ct0 = ((p0, q0), n0)) := ⟨_, _, _, rfl⟩
          have d0 : wr.cell? ⟨b1, o1 + k * 3, none⟩ = some (.int .u64 p0) := B_cell Hbw.out hb1 (hc1 k hlt 0 _ (by rw [HJ.out]; rfl))
          have d1 : wr.cell? ⟨b1, o1 + k * 3 + 1, none⟩ = some (.int .i64 q0) := B_cell Hbw.out hb1 (hc1 k hlt 1 _ (by rw [HJ.out]; rfl))
          have d2 : wr.cell? ⟨b1, o1 + k * 3 + 2, none⟩ = some (.int .i64 n0) := B_cell Hbw.out hb1 (hc1 k hlt 2 _ (by rw [HJ.out]; rfl))
          have hn0 := tbl_bd HU.out _ (getD_mem u ct0 k hlt)
          rw [HJ.out] at hn0
          simp only at hn0
          have HN : Hid (mergeT t (u.take (k + 1)) = putR T (p0, q0) n0) := by rw [Hid, take_snoc _ ct0 _ hlt, mergeT_snoc, HT.out, HJ.out]
          clear hc1
          go_wp2_with fail
          refine wp_region_draw_tail 11 (by kernel_rfl) (by kernel_rfl) ?_
          simp only [List.take_succ_cons, List.take_zero, List.drop_succ_cons, List.drop_zero]
          repeat (go_big_quiet_step (fail))
          refine wpQuiet_nil ?_
          intro q2
          go_wp2_with fail
          refine (Put_any x T V ee p0 q0 n0 _ (Rd.drewN HrV.out q2) (by show x < wr.heap.size; omega) (by omega) (by omega) (fun c hc => by have := Hbd.out c hc; omega)).mono ?_
          rintro e w4 ⟨A4, c4, rfl, hr4, hc4, _, hb4⟩
          have Hr4 := Lib.hid hr4
          have Hb4 : Hid (Below w.heap.size w w4) := Hbw.out.trans ((of_drewN hb4).mono hsz)
          clear hr4 hb4
          go_wp2_with fail
          go_roundw
          case rel => exact ⟨k + 1, A4, c4, by omega, by go_num, by rw [HN.out], by rw [HN.out]; exact Hr4.out, by rw [HN.out]; exact hc4, Hb4.out⟩
          case measure => simp [intOf]; omega
        · obtain rfl : k = u.length := by omega
          rw [List.take_length] at HT
          have hq := Hq.out
          rw [HT.out] at hq
          subst hq
          go_wp2_with fail
          refine (limited_any x T V ee _ HrV.out (by omega) hd).mono ?_
          intro e w5 h5
          obtain ⟨A5, c5, rfl, hr5, hc5, hb5⟩ := TwoC.from Hbw.out h5
          have Hr5 := Lib.hid hr5
          have Hb5 := Lib.hid hb5
          clear h5 hr5 hb5
          go_wp2_with fail
          go_ret2
          exact ⟨A5, c5, rfl, Hr5.out, hc5, Hb5.out⟩
    · have hp := Hp.out
      rw [mergeP, if_pos HE.out, if_neg hU] at hp
      have Hq := Lib.hid hp.symm
      have hbe : (tblE u != 0) = true := by rw [bne_iff_ne]; exact hU
      clear hU hp
      go_wp2_with fail
      go_ret2
      exact twoC_err Hq.out Hb2.out
  · have hp := Hp.out
    rw [mergeP, if_neg hE] at hp
    have Hq := Lib.hid hp.symm
    have hbe : (tblE t != 0) = true := by rw [bne_iff_ne]; exact hE
    clear hE hp
    go_wp2_with fail
    go_ret2
    exact twoC_err Hq.out Hb1.out
end Go.Proofs.Ytjglpmcekbjoaaa
