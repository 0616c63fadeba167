/- Contracts: Add and Release, with the word that their table lies in new memory. -/
import Derived.Test.YtjglpmcekbjoaaaV
namespace Go.Proofs.Ytjglpmcekbjoaaa
open Go.RowKit Go.MapKept Go.ChangeMaps
attribute [local go_sem] wext_cell

def TwoF (x : Nat) (p : List CT × Int) (w : World) (e : Ending) (w' : World) : Prop :=
  ∃ (A : Option Addr) (c : Nat), e = .returned (.tuple #[.slice A p.1.length c, .int .i64 p.2]) ∧ RdC w' x A p.1 ∧ p.1.length ≤ c ∧ (∀ ad, A = some ad → w.heap.size ≤ ad.block) ∧ Below w.heap.size w w'
theorem twoF_err {x : Nat} {n : Int} {p : List CT × Int} {w w' : World} (h : p = ([], n)) (hb : Below w.heap.size w w') : TwoF x p w (.returned (.tuple #[.slice none 0 0, .int .i64 n])) w' := by
  subst h
  exact ⟨none, 0, rfl, Rd.nil, Nat.le_refl _, by simp, hb⟩
theorem TwoF.from {x : Nat} {p : List CT × Int} {w0 w : World} {e : Ending} {w' : World} (hb : Below w0.heap.size w0 w) (h : TwoF x p w e w') : TwoF x p w0 e w' := by
  obtain ⟨A, c, h1, h2, h3, h5, h4⟩ := h
  exact ⟨A, c, h1, h2, h3, fun ad had => Nat.le_trans hb.size (h5 ad had), hb.trans (h4.mono hb.size)⟩
theorem table_twoF {x : Nat} {L : List CT} {w : World} {e : Ending} {w' : World} (hn : (L.map (·.1)).Nodup) (h : TablePost x L w e w') : TwoF x (limP L) w e w' := by
  obtain ⟨hb, h | h⟩ := h
  · obtain ⟨hl, T, A, c, hp, ha, rfl, hr, hc, hf⟩ := h
    have := tabR_uniq hn hp ha
    subst this
    unfold limP
    rw [if_pos hl]
    exact ⟨A, c, rfl, hr, hc, fun ad had => (hf ad had).1, hb⟩
  · obtain ⟨hl, rfl⟩ := h
    exact twoF_err (by unfold limP; rw [if_neg (by rw [hl]; simp)]) hb

set_option maxHeartbeats 4000000 in
theorem Add_fr (x : Nat) (t : List CT) (A : Option Addr) (c : Nat) (m : Man) (B : Option Addr) (d : Nat) (w : World) (hr : RdC w x A t) (hm : RdID w x B m.ids) (hd : m.ids.length ≤ d) (hx : x < w.heap.size) (hn : t.length ≤ 9223372036854775807) (hi : m.ids.length ≤ 9223372036854775807) (hok : ∀ i ∈ m.ids, okID i) (hot : ∀ c ∈ t, okID c.1) :
    Calls Try.prog 23 #[.slice A t.length c, .agg #[.int .i64 m.size, .slice B m.ids.length d]] w (TwoF x (addP t m) w) := by
  have Hr := Lib.hid hr
  have Hm := Lib.hid hm
  have Hok := Lib.hid hok
  have Hot := Lib.hid hot
  clear hr hm hok hot
  obtain ⟨p, Hp⟩ : ∃ p, Hid (addP t m = p) := ⟨_, rfl⟩
  rw [Hp.out]
  go_enter Try.func23, Try.ntmps23
  go_wp2_with fail
  refine (Check_any x t A c _ (Hr.out.alloc _) hn).mono ?_
  rintro e w1 ⟨rfl, hb1⟩
  have Hb1 : Hid (Below w.heap.size w w1) := (bel1 w _).trans (hb1.mono (by simp))
  have HI : Hid (IsB w1 w.heap.size 38 #[.int .i64 m.size, .slice B m.ids.length d]) := (IsB.new _ _ _).on hb1
  clear hb1
  by_cases hE : tblE t = 0
  · have HE := Lib.hid hE
    rw [hE]
    clear hE
    have hm0 : w1.cell? ⟨w.heap.size, 0, none⟩ = some (.int .i64 m.size) := by rw [HI.out.cell]; rfl
    have hm1 : w1.cell? ⟨w.heap.size, 1, none⟩ = some (.slice B m.ids.length d) := by rw [HI.out.cell]; rfl
    have hs1 := Hb1.out.size
    have hl4 := ((tblE_iff t).1 HE.out).1
    go_wp2_with fail
    refine (references_any x [m] _ _ _ (rdm_one (newAt _ _ _ _ rfl) ((Hm.out.on Hb1.out).alloc _) hd (by omega)) (by simp) (by simp; omega) (by simpa using Hok.out)).mono ?_
    rintro e w2 ⟨hb2, ⟨hM, b, hb, rfl, hmp⟩ | ⟨hM, rfl⟩⟩
    · have Hb2 : Hid (Below w.heap.size w w2) := (Hb1.out.alloc Hb1.out.size _).trans (hb2.mono (by simp; omega))
      rw [errM_one] at hM
      have hp := Hp.out
      rw [addP, if_pos HE.out, if_pos hM] at hp
      subst hp
      have hlen := refs_len (ms := [m]) (by rw [errM_one]; exact hM)
      have hbd := refs_bd (ms := [m]) (by rw [errM_one]; exact hM)
      have hil := incl_len t (refs [m])
      have hbig : w.heap.size ≤ b := by simp at hb; omega
      have hsep : 0 < t.length → ∀ b' o, A = some ⟨b', o, none⟩ → b' ≠ b := by
        intro h0 b' o e
        obtain ⟨b1, o1, e1, hlt, _⟩ := Hr.out h0
        rw [e] at e1
        injection e1 with e1
        injection e1 with e1
        omega
      have Hbd := Lib.hid hbd
      have Hsep := Lib.hid hsep
      have Hmp := Lib.hid hmp
      have HM := Lib.hid hM
      have hs2 := Hb2.out.size
      clear hM hb2 hmp hbd hsep hb
      simp only [List.length_singleton] at hlen
      go_wp2_with fail
      refine (include_any x b (refs [m]) t A c _ (Hr.out.on Hb2.out) (by omega) Hmp.out Hsep.out (fun i => by have := Hbd.out i; simp at this; omega) (fun c hc => ⟨Hot.out c hc, ((rowB_iff c).1 (((tblE_iff t).1 HE.out).2.2 c hc)).2⟩)).mono ?_
      rintro e w3 ⟨rfl, hm3, hg3⟩
      have Hb3 : Hid (Below w.heap.size w w3) := below_own Hb2.out hg3 hbig
      have Hm3 := Lib.hid hm3
      have hs3 := Hb3.out.size
      clear hm3 hg3
      go_wp2_with fail
      refine (table_any x b _ _ Hm3.out (by omega) (by omega)).mono ?_
      intro e w4 h4
      obtain ⟨A2, c2, rfl, hr2, hc2, hfr, hb4⟩ := TwoF.from Hb3.out (table_twoF (incl_spec t (refs_spec [m]).1 (tbl_nodup HE.out)).1 h4)
      have Hr2 := Lib.hid hr2
      have Hb4 := Lib.hid hb4
      have Hfr := Lib.hid hfr
      clear h4 hr2 hb4 hfr
      go_wp2_with fail
      go_ret2
      exact ⟨A2, c2, rfl, Hr2.out, hc2, Hfr.out, Hb4.out⟩
    · have Hb2 : Hid (Below w.heap.size w w2) := (Hb1.out.alloc Hb1.out.size _).trans (hb2.mono (by simp; omega))
      rw [errM_one] at hM ⊢
      have hp := Hp.out
      rw [addP, if_pos HE.out, if_neg hM] at hp
      have Hq := Lib.hid hp.symm
      have hbe : (manE m != 0) = true := by rw [bne_iff_ne]; exact hM
      clear hM hb2 hp
      go_wp2_with fail
      go_ret2
      exact twoF_err Hq.out Hb2.out
  · have hp := Hp.out
    rw [addP, if_neg hE] at hp
    have Hq := Lib.hid hp.symm
    have hbe : (tblE t != 0) = true := by rw [bne_iff_ne]; exact hE
    clear hE hp
    go_wp2_with fail
    go_ret2
    exact twoF_err Hq.out Hb1.out

set_option maxRecDepth 100000 in
set_option maxHeartbeats 8000000 in
theorem Release_fr (x : Nat) (t : List CT) (A : Option Addr) (c : Nat) (m : Man) (B : Option Addr) (d : Nat) (w : World) (hr : RdC w x A t) (hm : RdID w x B m.ids) (hd : m.ids.length ≤ d) (hx : x < w.heap.size) (hn : t.length ≤ 9223372036854775807) (hi : m.ids.length ≤ 9223372036854775807) (hok : ∀ i ∈ m.ids, okID i) (hot : ∀ c ∈ t, okID c.1) :
    Calls Try.prog 18 #[.slice A t.length c, .agg #[.int .i64 m.size, .slice B m.ids.length d]] w (TwoF x (relP t m) w) := by
  have Hr := Lib.hid hr
  have Hm := Lib.hid hm
  have Hok := Lib.hid hok
  have Hot := Lib.hid hot
  clear hr hm hok hot
  obtain ⟨p, Hp⟩ : ∃ p, Hid (relP t m = p) := ⟨_, rfl⟩
  rw [Hp.out]
  go_enter Try.func18, Try.ntmps18
  go_wp2_with fail
  refine (Check_any x t A c _ (Hr.out.alloc _) hn).mono ?_
  rintro e w1 ⟨rfl, hb1⟩
  have Hb1 : Hid (Below w.heap.size w w1) := (bel1 w _).trans (hb1.mono (by simp))
  have HI : Hid (IsB w1 w.heap.size 38 #[.int .i64 m.size, .slice B m.ids.length d]) := (IsB.new _ _ _).on hb1
  clear hb1
  by_cases hE : tblE t = 0
  · have HE := Lib.hid hE
    rw [hE]
    clear hE
    have hm0 : w1.cell? ⟨w.heap.size, 0, none⟩ = some (.int .i64 m.size) := by rw [HI.out.cell]; rfl
    have hm1 : w1.cell? ⟨w.heap.size, 1, none⟩ = some (.slice B m.ids.length d) := by rw [HI.out.cell]; rfl
    have hs1 := Hb1.out.size
    have hl4 := ((tblE_iff t).1 HE.out).1
    go_wp2_with fail
    refine (references_any x [m] _ _ _ (rdm_one (newAt _ _ _ _ rfl) ((Hm.out.on Hb1.out).alloc _) hd (by omega)) (by simp) (by simp; omega) (by simpa using Hok.out)).mono ?_
    rintro e w2 ⟨hb2, ⟨hM, b, hb, rfl, hmp⟩ | ⟨hM, rfl⟩⟩
    · have Hb2 : Hid (Below w.heap.size w w2) := (Hb1.out.alloc Hb1.out.size _).trans (hb2.mono (by simp; omega))
      rw [errM_one] at hM
      have hp := Hp.out
      rw [relP, if_pos HE.out, if_pos hM] at hp
      have Hq := Lib.hid hp
      have hml := manE_len hM
      have hlen := refs_len (ms := [m]) (by rw [errM_one]; exact hM)
      have hbig : w.heap.size ≤ b := by simp at hb; omega
      have Hmp := Lib.hid hmp
      have HM := Lib.hid hM
      have hs2 := Hb2.out.size
      clear hM hb2 hmp hb hp
      simp only [List.length_singleton] at hlen
      go_wp2_with fail
      refine (Clone_any x t A c _ (Hr.out.on Hb2.out) (by omega)).mono ?_
      rintro e w3 ⟨R, cR, rfl, hown3, hb3⟩
      have Hb3 : Hid (Below w.heap.size w w3) := Hb2.out.trans (hb3.mono hs2)
      have Hm3 : Hid (Mp w3 b (refs [m])) := Hmp.out.on hb3
      have Hown3 := Lib.hid (own_le hown3 hs2)
      clear hb3 hown3
      go_wp2_with fail
      go_loopw [10, 33] (fun v10 v33 wr => ∃ k : Nat, k ≤ t.length ∧ v33 = .int .i64 k ∧ v10 = .int .i64 (fndL (t.take k) m.ids) ∧ Hid (∀ c ∈ t.take k, c.1 ∈ m.ids → ((m.ids.count c.1 : Nat) : Int) ≤ c.2) ∧ wr.ownsRow w.heap.size 66 3 (.slice R t.length cR) t.length ((midR t m.ids k).flatMap encC) ∧ Mp wr b (refs [m]) ∧ Below w.heap.size w wr) (fun _ v33 _ => t.length - (intOf v33).toNat)
      case atStart => exact ⟨0, Nat.zero_le _, rfl, rfl, by simp [Hid], by simpa [midR, restR] using Hown3.out, Hm3.out, Hb3.out⟩
      case round =>
        obtain ⟨k, hk, rfl, rfl, Hall, hown, hmw, hbw⟩ := hrel
        have hsz := hbw.size
        have hfl := fndL_le (t.take k) m.ids
        have htl := take_len t k
        obtain ⟨fd, HF⟩ : ∃ fd, Hid (fndL (t.take k) m.ids = fd) := ⟨_, rfl⟩
        rw [HF.out] at hfl ⊢
        have Hown := Lib.hid hown
        have Hmw := Lib.hid hmw
        have Hbw := Lib.hid hbw
        clear hown hmw hbw
        by_cases hlt : k < t.length
        · obtain ⟨g, cap, hv, hgb, hgl⟩ := Hown.out.form (by omega)
          injection hv with hv1 hv2 hv3
          subst hv1 hv3
          obtain ⟨p0, q0, n0, HJ⟩ : ∃ p0 q0 n0, Hid (t.getD k ct0 = ((p0, q0), n0)) := ⟨_, _, _, rfl⟩
          have hml2 := midR_len t m.ids k hk
          have cell : ∀ i v, i < 3 → (encC ((p0, q0), n0))[i]? = some v → wr.cell? ⟨g, k * 3 + i, none⟩ = some v := by
            intro i v hi3 hv
            rw [Hown.out.cellAt (k * 3 + i) (by omega), flat_at encC_len ct0 _ k i (by omega) hi3, List.getD_eq_getElem?_getD, midR_at hlt, HJ.out]
            exact hv
          have d0 : wr.cell? ⟨g, k * 3, none⟩ = some (.int .u64 p0) := cell 0 _ (by omega) rfl
          have d1 : wr.cell? ⟨g, k * 3 + 1, none⟩ = some (.int .i64 q0) := cell 1 _ (by omega) rfl
          have d2 : wr.cell? ⟨g, k * 3 + 2, none⟩ = some (.int .i64 n0) := cell 2 _ (by omega) rfl
          have f2 : wr.frozen? ⟨g, k * 3 + 2, none⟩ = false := Hown.out.frozenAt _
          have hmem := getD_mem t ct0 k hlt
          rw [HJ.out] at hmem
          have hn0 := tbl_bd HE.out _ hmem
          simp only at hn0
          have hok0 := Hot.out _ hmem
          have hlook := Mp.look2 (Hmw.out.alloc (.cells #[.int .u64 p0, .int .i64 q0, .int .i64 n0] 66)) p0 q0 hok0
          rw [nAt_refs, refs_some, ids_one] at hlook
          have hcl : m.ids.count (p0, q0) ≤ m.ids.length := List.count_le_length
          have Hmem := Lib.hid hmem
          have hgne : some b ≠ some g := Hmw.out.own_ne Hown.out
          have Hgne := Lib.hid hgne
          clear cell hmem hok0 hgne hv2 hml2
          by_cases hin : (p0, q0) ∈ m.ids
          · have HN : Hid (fndL (t.take (k + 1)) m.ids = fd + 1) := by rw [Hid, take_snoc _ ct0 _ hlt, fndL_snoc, HJ.out, if_pos hin, HF.out]
            have Hin := Lib.hid hin
            rw [decide_eq_true hin] at hlook
            obtain ⟨cn, HC⟩ : ∃ cn, Hid (m.ids.count (p0, q0) = cn) := ⟨_, rfl⟩
            rw [HC.out] at hlook hcl
            clear hin
            by_cases hlow : n0 < cn
            · have hq := Hq.out
              rw [if_neg (by
                rw [enough_iff (tbl_nodup HE.out)]
                rintro ⟨h1, _⟩
                have := h1 _ Hmem.out Hin.out
                simp only [HC.out] at this
                omega)] at hq
              have HQ := Lib.hid hq.symm
              clear hq
              go_wp2_with fail
              go_ret2
              exact twoF_err HQ.out (Hbw.out.alloc Hbw.out.size _)
            · have HA : Hid (∀ c ∈ t.take (k + 1), c.1 ∈ m.ids → ((m.ids.count c.1 : Nat) : Int) ≤ c.2) := by
                intro c hc
                rw [take_snoc _ ct0 _ hlt, HJ.out] at hc
                rcases List.mem_append.1 hc with hc | hc
                · exact Hall.out c hc
                · simp at hc; subst hc; intro _; simp only [HC.out]; omega
              have HO : Hid (((wr.setCell ⟨g, k * 3 + 2, none⟩ (.int .i64 (n0 - cn))).alloc (.cells #[.int .u64 p0, .int .i64 q0, .int .i64 n0] 66)).ownsRow w.heap.size 66 3 (.slice (some ⟨g, 0, none⟩) t.length cR) t.length ((midR t m.ids (k + 1)).flatMap encC)) := by
                have h1 := (Hown.out.stored (k * 3 + 2) (.int .i64 (n0 - cn))).1
                have h2 := midR_at (l := m.ids) hlt
                rw [HJ.out] at h2
                rw [flat_set h2] at h1
                have h3 := midR_next (l := m.ids) hlt HJ.out
                rw [HC.out] at h3
                rw [h3] at h1
                exact h1.alloc _
              have HMm : Hid (Mp ((wr.setCell ⟨g, k * 3 + 2, none⟩ (.int .i64 (n0 - cn))).alloc (.cells #[.int .u64 p0, .int .i64 q0, .int .i64 n0] 66)) b (refs [m])) := (Hmw.out.kept (row := some g) (g_set (g_refl _ _) (.inl rfl) _) Hgne.out).alloc _
              have HBb : Hid (Below w.heap.size w ((wr.setCell ⟨g, k * 3 + 2, none⟩ (.int .i64 (n0 - cn))).alloc (.cells #[.int .u64 p0, .int .i64 q0, .int .i64 n0] 66))) := (Hbw.out.setCell (by simp; omega) _).alloc (by simpa [World.setCell] using hsz) _
              go_wp2_with fail
              go_roundw
              case rel => exact ⟨k + 1, by omega, by go_num, by rw [HN.out]; go_num, HA, HO.out, HMm.out, HBb.out⟩
              case measure => simp [intOf]; omega
          · have HN : Hid (fndL (t.take (k + 1)) m.ids = fd) := by rw [Hid, take_snoc _ ct0 _ hlt, fndL_snoc, HJ.out, if_neg hin, HF.out]
            have HA : Hid (∀ c ∈ t.take (k + 1), c.1 ∈ m.ids → ((m.ids.count c.1 : Nat) : Int) ≤ c.2) := by
              intro c hc
              rw [take_snoc _ ct0 _ hlt, HJ.out] at hc
              rcases List.mem_append.1 hc with hc | hc
              · exact Hall.out c hc
              · simp at hc; subst hc; intro h; exact absurd h hin
            have HMs : Hid (midR t m.ids (k + 1) = midR t m.ids k) := midR_same hlt HJ.out hin
            rw [decide_eq_false hin] at hlook
            clear hin
            go_wp2_with fail
            go_roundw
            case rel => exact ⟨k + 1, by omega, by go_num, by rw [HN.out], HA, by rw [HMs.out]; exact Hown.out.alloc _, Hmw.out.alloc _, Hbw.out.alloc Hbw.out.size _⟩
            case measure => simp [intOf]; omega
        · obtain rfl : k = t.length := by omega
          rw [List.take_length] at HF Hall
          rw [midR_end] at Hown
          have hlen2 : (Builtin.len_ #[58] 3 #[.map (some b)]).run Try.prog wr = .ok (.int .i64 (refs [m]).length) wr := Hmw.out.len Try.underlying58 3
          by_cases hlow : fd < (refs [m]).length
          · have hq := Hq.out
            have hex := (fnd_all (tbl_nodup HE.out) m).1 (by rw [HF.out]; exact hlow)
            rw [if_neg (by
              rw [enough_iff (tbl_nodup HE.out)]
              rintro ⟨_, h2⟩
              obtain ⟨i, h3, h4⟩ := hex
              exact h4 (h2 i h3))] at hq
            have HQ := Lib.hid hq.symm
            clear hq hex
            go_wp2_with fail
            go_ret2
            exact twoF_err HQ.out Hbw.out
          · have hq := Hq.out
            have hex : ¬ ∃ i ∈ m.ids, i ∉ t.map (·.1) := fun h => hlow (by have := (fnd_all (tbl_nodup HE.out) m).2 h; rwa [HF.out] at this)
            rw [if_pos (by
              rw [enough_iff (tbl_nodup HE.out)]
              exact ⟨Hall.out, fun i h3 => Classical.byContradiction (fun h4 => hex ⟨i, h3, h4⟩)⟩)] at hq
            subst hq
            have hrl : t.length = (restR t m.ids).length := by simp [restR]
            have HO2 := Hown.out
            rw [hrl] at HO2
            have HR := Lib.hid (Rd.of_own (x := x) (d := ct0) encC_len (by omega) HO2 hx).2
            have HCp := Lib.hid (own_cap HO2)
            have HFr : Hid (∀ ad, R = some ad → w.heap.size ≤ ad.block) := fun ad had => by subst had; exact (HO2.lt ad.block rfl).1
            have hrl' := Lib.hid hrl
            clear hex HO2 hrl
            go_wp2_with fail
            go_ret2
            exact ⟨R, cR, by show Ending.returned (.tuple #[.slice R t.length cR, .int .i64 0]) = Ending.returned (.tuple #[.slice R (restR t m.ids).length cR, .int .i64 0]); rw [← hrl'.out], HR.out, HCp.out, HFr.out, Hbw.out⟩
    · have Hb2 : Hid (Below w.heap.size w w2) := (Hb1.out.alloc Hb1.out.size _).trans (hb2.mono (by simp; omega))
      rw [errM_one] at hM ⊢
      have hp := Hp.out
      rw [relP, if_pos HE.out, if_neg hM] at hp
      have Hq := Lib.hid hp.symm
      have hbe : (manE m != 0) = true := by rw [bne_iff_ne]; exact hM
      clear hM hb2 hp
      go_wp2_with fail
      go_ret2
      exact twoF_err Hq.out Hb2.out
  · have hp := Hp.out
    rw [relP, if_neg hE] at hp
    have Hq := Lib.hid hp.symm
    have hbe : (tblE t != 0) = true := by rw [bne_iff_ne]; exact hE
    clear hE hp
    go_wp2_with fail
    go_ret2
    exact twoF_err Hq.out Hb1.out
end Go.Proofs.Ytjglpmcekbjoaaa
