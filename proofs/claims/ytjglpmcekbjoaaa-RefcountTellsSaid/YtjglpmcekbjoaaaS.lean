/- Contracts: Of, Add, Merge of the program and of the reference. -/
import Derived.Test.YtjglpmcekbjoaaaR
namespace Go.Proofs.Ytjglpmcekbjoaaa
open Go.RowKit Go.MapKept Go.ChangeMaps
attribute [local go_sem] wext_cell

theorem table_two {x : Nat} {L : List CT} {w : World} {e : Ending} {w' : World} (hn : (L.map (·.1)).Nodup) (h : TablePost x L w e w') : TwoC x (limP L) w e w' := by
  obtain ⟨hb, h | h⟩ := h
  · obtain ⟨hl, T, A, c, hp, ha, rfl, hr, hc, _⟩ := h
    have := tabR_uniq hn hp ha
    subst this
    unfold limP
    rw [if_pos hl]
    exact ⟨A, c, rfl, hr, hc, hb⟩
  · obtain ⟨hl, rfl⟩ := h
    exact twoC_err (by unfold limP; rw [if_neg (by rw [hl]; simp)]) hb
theorem TwoC.from {x : Nat} {p : List CT × Int} {w0 w : World} {e : Ending} {w' : World} (hb : Below w0.heap.size w0 w) (h : TwoC x p w e w') : TwoC x p w0 e w' := by
  obtain ⟨A, c, h1, h2, h3, h4⟩ := h
  exact ⟨A, c, h1, h2, h3, hb.trans (h4.mono hb.size)⟩
theorem addIDs_len (l : List ID) : ∀ L : List CT, (addIDs L l).length ≤ L.length + l.length := by
  induction l with
  | nil => intro L; simp [addIDs]
  | cons a l ih =>
    intro L
    have h1 := ih (putN L a 1)
    have h2 : (putN L a 1).length ≤ L.length + 1 := setL_length _ _ _
    have e : addIDs L (a :: l) = addIDs (putN L a 1) l := rfl
    rw [e, List.length_cons]
    omega
theorem incl_len (u : List CT) : ∀ L : List CT, (incl L u).length ≤ L.length + u.length := by
  induction u with
  | nil => intro L; simp [incl]
  | cons a l ih =>
    intro L
    have h1 := ih (putN L a.1 a.2)
    have h2 : (putN L a.1 a.2).length ≤ L.length + 1 := setL_length _ _ _
    have e : incl L (a :: l) = incl (putN L a.1 a.2) l := rfl
    rw [e, List.length_cons]
    omega
theorem idsOf_len {ms : List Man} (h : errM ms = 0) : (idsOf ms).length ≤ 1024 * ms.length := by
  induction ms with
  | nil => simp [idsOf]
  | cons m ms ih =>
    simp only [errM] at h
    split at h
    · rename_i e
      have h1 := ih h
      have h2 := manE_len e
      have : idsOf (m :: ms) = m.ids ++ idsOf ms := by simp [idsOf]
      rw [this, List.length_append, List.length_cons]
      omega
    · rename_i e; exact absurd h e
theorem refs_len {ms : List Man} (h : errM ms = 0) : (refs ms).length ≤ 1024 * ms.length := by
  have h1 := addIDs_len (idsOf ms) []
  have h2 := idsOf_len h
  rw [refs_eq]
  simp only [List.length_nil] at h1
  omega
theorem MapIs.two {w : World} {b : Nat} {L L' : List CT} (h : Mp w b L) (e : L = L') : Mp w b L' := e ▸ h

set_option maxHeartbeats 2000000 in
theorem Of_any (x : Nat) (ms : List Man) (A : Option Addr) (c : Nat) (w : World) (hr : RdM w x A ms) (hx : x < w.heap.size) (hn : ms.length ≤ 1000000) (hi : ∀ m ∈ ms, m.ids.length ≤ 9223372036854775807) (hok : ∀ m ∈ ms, ∀ i ∈ m.ids, okID i) :
    Calls Try.prog 13 #[.slice A ms.length c] w (TwoC x (ofP ms) w) := by
  have Hr := Lib.hid hr
  have Hi := Lib.hid hi
  have Hok := Lib.hid hok
  clear hr hi hok
  obtain ⟨p, Hp⟩ : ∃ p, Hid (ofP ms = p) := ⟨_, rfl⟩
  rw [Hp.out]
  go_enter Try.func13, Try.ntmps13
  go_wp2_with fail
  refine (references_any x ms A c _ Hr.out hn Hi.out Hok.out).mono ?_
  rintro e w1 ⟨hb1, ⟨hE, b, hb, rfl, hm⟩ | ⟨hE, rfl⟩⟩
  · have hp := Hp.out
    rw [ofP, if_pos hE] at hp
    subst hp
    have hlen := refs_len hE
    have Hb1 := Lib.hid hb1
    have Hm := Lib.hid hm
    have hs1 := hb1.size
    clear hE hb1 hm
    go_wp2_with fail
    refine (table_any x b (refs ms) _ Hm.out (by omega) (by omega)).mono ?_
    intro e w2 h2
    obtain ⟨A2, c2, rfl, hr2, hc2, hb2⟩ := TwoC.from Hb1.out (table_two (refs_spec ms).1 h2)
    have Hr2 := Lib.hid hr2
    have Hb2 := Lib.hid hb2
    clear h2 hr2 hb2
    go_wp2_with fail
    go_ret2
    exact ⟨A2, c2, rfl, Hr2.out, hc2, Hb2.out⟩
  · have hp := Hp.out
    rw [ofP, if_neg hE] at hp
    have Hq := Lib.hid hp.symm
    have hbe : (errM ms != 0) = true := by rw [bne_iff_ne]; exact hE
    have Hb1 := Lib.hid hb1
    clear hE hb1 hp
    go_wp2_with fail
    go_ret2
    exact twoC_err Hq.out Hb1.out

set_option maxHeartbeats 2000000 in
theorem rOf_any (x : Nat) (ms : List Man) (A : Option Addr) (c : Nat) (w : World) (hr : RdM w x A ms) (hx : x < w.heap.size) (hn : ms.length ≤ 1000000) (hi : ∀ m ∈ ms, m.ids.length ≤ 9223372036854775807) :
    Calls Try.prog 14 #[.slice A ms.length c] w (TwoC x (ofP ms) w) := by
  have Hr := Lib.hid hr
  have Hi := Lib.hid hi
  clear hr hi
  obtain ⟨p, Hp⟩ : ∃ p, Hid (ofP ms = p) := ⟨_, rfl⟩
  rw [Hp.out]
  go_enter Try.func14, Try.ntmps14
  go_wp2_with fail
  refine (checks_any x ms A c _ Hr.out hn Hi.out).mono ?_
  rintro e w1 ⟨rfl, hb1⟩
  have Hb1 := Lib.hid hb1
  clear hb1
  by_cases hE : errM ms = 0
  · have HE := Lib.hid hE
    have hp := Hp.out
    rw [← of_eq, if_pos hE] at hp
    have Hq : Hid (limT (ofT ms) = p) := hp
    rw [hE]
    clear hE hp
    go_wp2_with fail
    go_loopw [5, 6] (fun v5 v6 wr => ∃ (k : Nat) (B : Option Addr) (d : Nat), k ≤ ms.length ∧ v6 = .int .i64 k ∧ v5 = .slice B (ofT (ms.take k)).length d ∧ RdC wr x B (ofT (ms.take k)) ∧ (ofT (ms.take k)).length ≤ d ∧ Below w.heap.size w wr) (fun _ v6 _ => ms.length - (intOf v6).toNat)
    case atStart => exact ⟨0, none, 0, Nat.zero_le _, rfl, rfl, Rd.nil, Nat.le_refl _, Hb1.out⟩
    case round =>
      obtain ⟨k, B, d, hk, rfl, rfl, hrB, hd, hbw⟩ := hrel
      have hsz := hbw.size
      have he0 : errM (ms.take k) = 0 := by
        refine Classical.byContradiction (fun hh => ?_)
        have := errM_more (ms.take k) (ms.drop k) hh
        rw [List.take_append_drop, HE.out] at this
        exact hh this.symm
      have hil := idsOf_len he0
      have htl := take_len ms k
      have hlen := allR_len [] (idsOf (ms.take k))
      have hbd := allR_bd (t := []) (lo := 0) (hi := 0) (by omega) (by omega) (by simp) (idsOf (ms.take k))
      rw [← ofT_eq] at hlen hbd
      simp only [List.length_nil] at hlen
      obtain ⟨T, HT⟩ : ∃ T, Hid (ofT (ms.take k) = T) := ⟨_, rfl⟩
      rw [HT.out] at hrB hd hlen hbd ⊢
      have HrB := Lib.hid hrB
      have Hbw := Lib.hid hbw
      have Hbd := Lib.hid hbd
      clear hrB hbw he0 hbd
      by_cases hlt : k < ms.length
      · obtain ⟨rs, h1, h2, h3⟩ := Hr.out
        obtain ⟨b, o, rfl, hbB, _, hc⟩ := h1 (by omega)
        obtain ⟨l1, l2, l3, l4⟩ := h3 k hlt
        obtain ⟨m, HI⟩ : ∃ m, Hid (ms.getD k man0 = m) := ⟨_, rfl⟩
        obtain ⟨⟨rz, rA, rl, rc⟩, HR⟩ : ∃ r, Hid (rs.getD k mr0 = r) := ⟨_, rfl⟩
        rw [HI.out] at l1 l2 l4
        rw [HR.out] at l1 l2 l3 l4
        simp only at l1 l2 l3 l4
        subst l1 l2
        have hml : m.ids.length ≤ 1024 := by
          have he1 : errM (ms.take (k + 1)) = 0 := by
            refine Classical.byContradiction (fun hh => ?_)
            have := errM_more (ms.take (k + 1)) (ms.drop (k + 1)) hh
            rw [List.take_append_drop, HE.out] at this
            exact hh this.symm
          have he0 : errM (ms.take k) = 0 := by
            refine Classical.byContradiction (fun hh => ?_)
            have := errM_more (ms.take k) (ms.drop k) hh
            rw [List.take_append_drop, HE.out] at this
            exact hh this.symm
          rw [take_snoc _ man0 _ hlt, errM_snoc _ _ he0, HI.out] at he1
          exact manE_len he1
        have hc0 : wr.cell? ⟨b, o + k * 2, none⟩ = some (.int .i64 m.size) := B_cell Hbw.out hbB (hc k (by omega) 0 _ (by rw [HR.out]; rfl))
        have hc1 : wr.cell? ⟨b, o + k * 2 + 1, none⟩ = some (.slice rA m.ids.length rc) := B_cell Hbw.out hbB (hc k (by omega) 1 _ (by rw [HR.out]; rfl))
        have L4 := Lib.hid l4
        have HN : Hid (ofT (ms.take (k + 1)) = allR T m.ids) := by
          unfold Hid
          rw [take_snoc _ man0 _ hlt, HI.out, ofT, List.foldl_append]
          show allR (ofT (ms.take k)) m.ids = _
          rw [HT.out]
        clear h1 h2 h3 hc l4
        go_wp2_with fail
        refine (all_any x T B d m rA rc _ HrB.out (L4.out.on Hbw.out) (by omega) (by omega) hd (by omega) (fun c hc => by have := Hbd.out c hc; omega)).mono ?_
        rintro e w2 ⟨A2, c2, rfl, hr2, hc2, hb2⟩
        have Hr2 := Lib.hid hr2
        have Hb2 : Hid (Below w.heap.size w w2) := Hbw.out.trans (hb2.mono hsz)
        clear hr2 hb2
        go_wp2_with fail
        go_roundw
        case rel => exact ⟨k + 1, A2, c2, by omega, by go_num, by rw [HN.out], by rw [HN.out]; exact Hr2.out, by rw [HN.out]; exact hc2, Hb2.out⟩
        case measure => simp [intOf]; omega
      · obtain rfl : k = ms.length := by omega
        rw [List.take_length] at HT
        have hq := Hq.out
        rw [HT.out] at hq
        subst hq
        go_wp2_with fail
        refine (limited_any x T B d _ HrB.out (by omega) hd).mono ?_
        intro e w2 h2
        obtain ⟨A2, c2, rfl, hr2, hc2, hb2⟩ := TwoC.from Hbw.out h2
        have Hr2 := Lib.hid hr2
        have Hb2 := Lib.hid hb2
        clear h2 hr2 hb2
        go_wp2_with fail
        go_ret2
        exact ⟨A2, c2, rfl, Hr2.out, hc2, Hb2.out⟩
  · have hp := Hp.out
    rw [ofP, if_neg hE] at hp
    have Hq := Lib.hid hp.symm
    have hbe : (errM ms != 0) = true := by rw [bne_iff_ne]; exact hE
    clear hE hp
    go_wp2_with fail
    go_ret2
    exact twoC_err Hq.out Hb1.out

theorem rdm_one {W : World} {x : Nat} {m : Man} {B : Option Addr} {d : Nat} {g : Nat} {t : TypeId} (hg : IsB W g t #[.int .i64 m.size, .slice B m.ids.length d]) (hm : RdID W x B m.ids) (hd : m.ids.length ≤ d) (hx : g ≠ x) : RdM W x (some ⟨g, 0, none⟩) [m] := by
  refine ⟨[⟨m.size, B, m.ids.length, d⟩], fun _ => ⟨g, 0, rfl, hg.lt, hx, fun j hj i v hi => ?_⟩, rfl, fun j hj => ?_⟩
  · have : j = 0 := by simpa using hj
    subst this
    rw [hg.cell]
    match i, hi with
    | 0, hi => simpa [encMR] using hi
    | 1, hi => simpa [encMR] using hi
    | i + 2, hi => simp [encMR] at hi
  · have : j = 0 := by simpa using hj
    subst this
    exact ⟨rfl, rfl, hd, hm⟩

set_option maxHeartbeats 4000000 in
theorem Add_any (x : Nat) (t : List CT) (A : Option Addr) (c : Nat) (m : Man) (B : Option Addr) (d : Nat) (w : World) (hr : RdC w x A t) (hm : RdID w x B m.ids) (hd : m.ids.length ≤ d) (hx : x < w.heap.size) (hn : t.length ≤ 9223372036854775807) (hi : m.ids.length ≤ 9223372036854775807) (hok : ∀ i ∈ m.ids, okID i) (hot : ∀ c ∈ t, okID c.1) :
    Calls Try.prog 23 #[.slice A t.length c, .agg #[.int .i64 m.size, .slice B m.ids.length d]] w (TwoC x (addP t m) w) := by
  have Hr := Lib.hid hr
  have Hm := Lib.hid hm
  have Hok := Lib.hid hok
  have Hot := Lib.hid hot
  clear hr hm hok hot
  obtain ⟨p, Hp⟩ : ∃ p, Hid (addP t m = p) := ⟨_, rfl⟩
  rw [Hp.out]
  go_enter Try.func23, Try.ntmps23
  go_wp2_with fail
  refine (Check_any x t A c _ (Hr.out.alloc _) hn).mono ?_
  rintro e w1 ⟨rfl, hb1⟩
  have Hb1 : Hid (Below w.heap.size w w1) := (bel1 w _).trans (hb1.mono (by simp))
  have HI : Hid (IsB w1 w.heap.size 38 #[.int .i64 m.size, .slice B m.ids.length d]) := (IsB.new _ _ _).on hb1
  clear hb1
  by_cases hE : tblE t = 0
  · have HE := Lib.hid hE
    rw [hE]
    clear hE
    have hm0 : w1.cell? ⟨w.heap.size, 0, none⟩ = some (.int .i64 m.size) := by rw [HI.out.cell]; rfl
    have hm1 : w1.cell? ⟨w.heap.size, 1, none⟩ = some (.slice B m.ids.length d) := by rw [HI.out.cell]; rfl
    have hs1 := Hb1.out.size
    have hl4 := ((tblE_iff t).1 HE.out).1
    go_wp2_with fail
    refine (references_any x [m] _ _ _ (rdm_one (newAt _ _ _ _ rfl) ((Hm.out.on Hb1.out).alloc _) hd (by omega)) (by simp) (by simp; omega) (by simpa using Hok.out)).mono ?_
    rintro e w2 ⟨hb2, ⟨hM, b, hb, rfl, hmp⟩ | ⟨hM, rfl⟩⟩
    · have Hb2 : Hid (Below w.heap.size w w2) := (Hb1.out.alloc Hb1.out.size _).trans (hb2.mono (by simp; omega))
      rw [errM_one] at hM
      have hp := Hp.out
      rw [addP, if_pos HE.out, if_pos hM] at hp
      subst hp
      have hlen := refs_len (ms := [m]) (by rw [errM_one]; exact hM)
      have hbd := refs_bd (ms := [m]) (by rw [errM_one]; exact hM)
      have hil := incl_len t (refs [m])
      have hbig : w.heap.size ≤ b := by simp at hb; omega
      have hsep : 0 < t.length → ∀ b' o, A = some ⟨b', o, none⟩ → b' ≠ b := by
        intro h0 b' o e
        obtain ⟨b1, o1, e1, hlt, _⟩ := Hr.out h0
        rw [e] at e1
        injection e1 with e1
        injection e1 with e1
        omega
      have Hbd := Lib.hid hbd
      have Hsep := Lib.hid hsep
      have Hmp := Lib.hid hmp
      have HM := Lib.hid hM
      have hs2 := Hb2.out.size
      clear hM hb2 hmp hbd hsep hb
      simp only [List.length_singleton] at hlen
      go_wp2_with fail
      refine (include_any x b (refs [m]) t A c _ (Hr.out.on Hb2.out) (by omega) Hmp.out Hsep.out (fun i => by have := Hbd.out i; simp at this; omega) (fun c hc => ⟨Hot.out c hc, ((rowB_iff c).1 (((tblE_iff t).1 HE.out).2.2 c hc)).2⟩)).mono ?_
      rintro e w3 ⟨rfl, hm3, hg3⟩
      have Hb3 : Hid (Below w.heap.size w w3) := below_own Hb2.out hg3 hbig
      have Hm3 := Lib.hid hm3
      have hs3 := Hb3.out.size
      clear hm3 hg3
      go_wp2_with fail
      refine (table_any x b _ _ Hm3.out (by omega) (by omega)).mono ?_
      intro e w4 h4
      obtain ⟨A2, c2, rfl, hr2, hc2, hb4⟩ := TwoC.from Hb3.out (table_two (incl_spec t (refs_spec [m]).1 (tbl_nodup HE.out)).1 h4)
      have Hr2 := Lib.hid hr2
      have Hb4 := Lib.hid hb4
      clear h4 hr2 hb4
      go_wp2_with fail
      go_ret2
      exact ⟨A2, c2, rfl, Hr2.out, hc2, Hb4.out⟩
    · have Hb2 : Hid (Below w.heap.size w w2) := (Hb1.out.alloc Hb1.out.size _).trans (hb2.mono (by simp; omega))
      rw [errM_one] at hM ⊢
      have hp := Hp.out
      rw [addP, if_pos HE.out, if_neg hM] at hp
      have Hq := Lib.hid hp.symm
      have hbe : (manE m != 0) = true := by rw [bne_iff_ne]; exact hM
      clear hM hb2 hp
      go_wp2_with fail
      go_ret2
      exact twoC_err Hq.out Hb2.out
  · have hp := Hp.out
    rw [addP, if_neg hE] at hp
    have Hq := Lib.hid hp.symm
    have hbe : (tblE t != 0) = true := by rw [bne_iff_ne]; exact hE
    clear hE hp
    go_wp2_with fail
    go_ret2
    exact twoC_err Hq.out Hb1.out
end Go.Proofs.Ytjglpmcekbjoaaa
