/- Contracts: Release of the program. -/
import Derived.Test.YtjglpmcekbjoaaaU
namespace Go.Proofs.Ytjglpmcekbjoaaa
open Go.RowKit Go.MapKept Go.ChangeMaps
attribute [local go_sem] wext_cell

theorem own_le {w : World} {base base' size n : Nat} {e : TypeId} {v : Value} {xs : List Value} (h : w.ownsRow base e size v n xs) (hb : base' ≤ base) : w.ownsRow base' e size v n xs :=
  ⟨h.1, h.2.imp id fun ⟨g, cap, cur, e, hg, r⟩ => ⟨g, cap, cur, e, Nat.le_trans hb hg, r⟩⟩
theorem flat_set {xs : List CT} {k : Nat} {p q n : Int} (h : xs[k]? = some ((p, q), n)) (n' : Int) : (xs.flatMap encC).set (k * 3 + 2) (.int .i64 n') = (xs.set k ((p, q), n')).flatMap encC := by
  induction xs generalizing k with
  | nil => simp at h
  | cons c xs ih =>
    cases k with
    | zero => simp at h; subst h; simp [encC]
    | succ k =>
      simp only [List.getElem?_cons_succ] at h
      have := ih h
      rw [List.flatMap_cons, List.set_cons_succ, List.flatMap_cons, ← this, show (k + 1) * 3 + 2 = k * 3 + 2 + 3 by omega]
      simp [encC]
def midR (t : List CT) (l : List ID) (k : Nat) : List CT := restR (t.take k) l ++ t.drop k
theorem midR_len (t : List CT) (l : List ID) (k : Nat) (h : k ≤ t.length) : (midR t l k).length = t.length := by
  unfold midR restR
  rw [List.length_append, List.length_map, List.length_take, List.length_drop]
  omega
theorem midR_at {t : List CT} {l : List ID} {k : Nat} (h : k < t.length) : (midR t l k)[k]? = some (t.getD k ct0) := by
  unfold midR
  have : (restR (t.take k) l).length = k := by simp [restR]; omega
  rw [List.getElem?_append_right (by omega), this, Nat.sub_self, drop_cons_getD t ct0 k h]
  rfl
theorem midR_next {t : List CT} {l : List ID} {k : Nat} (h : k < t.length) {i : ID} {n : Int} (he : t.getD k ct0 = (i, n)) : (midR t l k).set k (i, n - (l.count i : Nat)) = midR t l (k + 1) := by
  unfold midR
  have hl : (restR (t.take k) l).length = k := by simp [restR]; omega
  rw [List.set_append_right _ _ (by omega), hl, Nat.sub_self, drop_cons_getD t ct0 k h, take_snoc _ ct0 _ h, he, List.set_cons_zero]
  simp [restR]
theorem midR_same {t : List CT} {l : List ID} {k : Nat} (h : k < t.length) {i : ID} {n : Int} (he : t.getD k ct0 = (i, n)) (hi : i ∉ l) : midR t l (k + 1) = midR t l k := by
  rw [← midR_next h he, List.count_eq_zero_of_not_mem hi]
  have := midR_at (l := l) h
  rw [he] at this
  have hz : (i, n - ((0 : Nat) : Int)) = (i, n) := by simp
  rw [hz]
  exact WideElems.set_self _ _ _ this
theorem midR_end (t : List CT) (l : List ID) : midR t l t.length = restR t l := by simp [midR]
def fndL (t : List CT) (l : List ID) : Nat := (t.filter (fun c => decide (c.1 ∈ l))).length
theorem fndL_snoc (t : List CT) (l : List ID) (c : CT) : fndL (t ++ [c]) l = if c.1 ∈ l then fndL t l + 1 else fndL t l := by
  unfold fndL
  rw [List.filter_append]
  by_cases h : c.1 ∈ l <;> simp [h]
theorem fndL_le (t : List CT) (l : List ID) : fndL t l ≤ t.length := List.length_filter_le _ _
theorem fnd_all {t : List CT} (ht : (t.map (·.1)).Nodup) (m : Man) : (fndL t m.ids < (refs [m]).length ↔ ∃ i ∈ m.ids, i ∉ t.map (·.1)) := by
  have hk := refs_spec [m]
  have hkk := refs_keys [m]
  rw [ids_one] at hkk
  have d2 : ((refs [m]).map (·.1)).Nodup := hk.1
  have e1 : fndL t m.ids = ((t.map (·.1)).filter (fun i => decide (i ∈ m.ids))).length := by
    unfold fndL
    rw [List.filter_map, List.length_map]
    rfl
  have e2 : ((t.map (·.1)).filter (fun i => decide (i ∈ m.ids))).Perm (((refs [m]).map (·.1)).filter (fun i => decide (i ∈ t.map (·.1)))) := by
    refine (List.perm_ext_iff_of_nodup (ht.filter _) (d2.filter _)).2 (fun i => ?_)
    simp only [List.mem_filter, decide_eq_true_eq, hkk]
    exact ⟨fun h => ⟨h.2, h.1⟩, fun h => ⟨h.2, h.1⟩⟩
  have e3 : (refs [m]).length = ((refs [m]).map (·.1)).length := by simp
  rw [e1, e2.length_eq, e3, List.length_filter_lt_length_iff_exists]
  constructor
  · rintro ⟨i, hi, hn⟩
    exact ⟨i, (hkk i).1 hi, by simpa using hn⟩
  · rintro ⟨i, hi, hn⟩
    exact ⟨i, (hkk i).2 hi, by simpa using hn⟩
theorem enough_iff {t : List CT} (ht : (t.map (·.1)).Nodup) (l : List ID) : enoughB t l = true ↔ (∀ c ∈ t, c.1 ∈ l → ((l.count c.1 : Nat) : Int) ≤ c.2) ∧ ∀ i ∈ l, i ∈ t.map (·.1) := by
  unfold enoughB
  simp only [List.all_eq_true, decide_eq_true_eq]
  constructor
  · intro h
    refine ⟨fun c hc hl => ?_, fun i hi => ?_⟩
    · have := h c.1 hl
      rwa [nAt_row ht hc] at this
    · refine Classical.byContradiction (fun hh => ?_)
      have := h i hi
      rw [nAt_none hh] at this
      have hp : 0 < l.count i := List.count_pos_iff.2 hi
      omega
  · rintro ⟨h1, h2⟩ i hi
    obtain ⟨c, hc, rfl⟩ := List.mem_map.1 (h2 i hi)
    rw [nAt_row ht hc]
    exact h1 c hc hi
theorem Mp.look2 {w : World} {b : Nat} {L : List CT} (h : Mp w b L) (s z : Int) (ha : okID (s, z)) : (Instr.lookup 58 (.map (some b)) (.agg #[.int .u64 s, .int .i64 z]) true).run Try.prog w = .ok (.tuple #[.int .i64 (nAt L (s, z)), .bool (asc L (s, z)).isSome]) w := by
  have := MapIs.look mk28 Try.underlying58 (zero3 w) h ha true
  rw [show (Value.agg #[.int .u64 s, .int .i64 z]) = vID (s, z) from rfl, this]
  unfold nAt
  cases asc L (s, z) <;> simp
theorem refs_some (m : Man) (i : ID) : (asc (refs [m]) i).isSome = decide (i ∈ m.ids) := by
  rw [(refs_spec [m]).2, ids_one]
  by_cases h : i ∈ m.ids <;> simp [h]

set_option maxRecDepth 100000 in
set_option maxHeartbeats 8000000 in
theorem Release_any (x : Nat) (t : List CT) (A : Option Addr) (c : Nat) (m : Man) (B : Option Addr) (d : Nat) (w : World) (hr : RdC w x A t) (hm : RdID w x B m.ids) (hd : m.ids.length ≤ d) (hx : x < w.heap.size) (hn : t.length ≤ 9223372036854775807) (hi : m.ids.length ≤ 9223372036854775807) (hok : ∀ i ∈ m.ids, okID i) (hot : ∀ c ∈ t, okID c.1) :
    Calls Try.prog 18 #[.slice A t.length c, .agg #[.int .i64 m.size, .slice B m.ids.length d]] w (TwoC x (relP t m) w) := by
  have Hr := Lib.hid hr
  have Hm := Lib.hid hm
  have Hok := Lib.hid hok
  have Hot := Lib.hid hot
  clear hr hm hok hot
  obtain ⟨p, Hp⟩ : ∃ p, Hid (relP t m = p) := ⟨_, rfl⟩
  rw [Hp.out]
  go_enter Try.func18, Try.ntmps18
  go_wp2_with fail
  refine (Check_any x t A c _ (Hr.out.alloc _) hn).mono ?_
  rintro e w1 ⟨rfl, hb1⟩
  have Hb1 : Hid (Below w.heap.size w w1) := (bel1 w _).trans (hb1.mono (by simp))
  have HI : Hid (IsB w1 w.heap.size 38 #[.int .i64 m.size, .slice B m.ids.length d]) := (IsB.new _ _ _).on hb1
  clear hb1
  by_cases hE : tblE t = 0
  · have HE := Lib.hid hE
    rw [hE]
    clear hE
    have hm0 : w1.cell? ⟨w.heap.size, 0, none⟩ = some (.int .i64 m.size) := by rw [HI.out.cell]; rfl
    have hm1 : w1.cell? ⟨w.heap.size, 1, none⟩ = some (.slice B m.ids.length d) := by rw [HI.out.cell]; rfl
    have hs1 := Hb1.out.size
    have hl4 := ((tblE_iff t).1 HE.out).1
    go_wp2_with fail
    refine (references_any x [m] _ _ _ (rdm_one (newAt _ _ _ _ rfl) ((Hm.out.on Hb1.out).alloc _) hd (by omega)) (by simp) (by simp; omega) (by simpa using Hok.out)).mono ?_
    rintro e w2 ⟨hb2, ⟨hM, b, hb, rfl, hmp⟩ | ⟨hM, rfl⟩⟩
    · have Hb2 : Hid (Below w.heap.size w w2) := (Hb1.out.alloc Hb1.out.size _).trans (hb2.mono (by simp; omega))
      rw [errM_one] at hM
      have hp := Hp.out
      rw [relP, if_pos HE.out, if_pos hM] at hp
      have Hq := Lib.hid hp
      have hml := manE_len hM
      have hlen := refs_len (ms := [m]) (by rw [errM_one]; exact hM)
      have hbig : w.heap.size ≤ b := by simp at hb; omega
      have Hmp := Lib.hid hmp
      have HM := Lib.hid hM
      have hs2 := Hb2.out.size
      clear hM hb2 hmp hb hp
      simp only [List.length_singleton] at hlen
      go_wp2_with fail
      refine (Clone_any x t A c _ (Hr.out.on Hb2.out) (by omega)).mono ?_
      rintro e w3 ⟨R, cR, rfl, hown3, hb3⟩
      have Hb3 : Hid (Below w.heap.size w w3) := Hb2.out.trans (hb3.mono hs2)
      have Hm3 : Hid (Mp w3 b (refs [m])) := Hmp.out.on hb3
      have Hown3 := Lib.hid (own_le hown3 hs2)
      clear hb3 hown3
      go_wp2_with fail
      go_loopw [10, 33] (fun v10 v33 wr => ∃ k : Nat, k ≤ t.length ∧ v33 = .int .i64 k ∧ v10 = .int .i64 (fndL (t.take k) m.ids) ∧ Hid (∀ c ∈ t.take k, c.1 ∈ m.ids → ((m.ids.count c.1 : Nat) : Int) ≤ c.2) ∧ wr.ownsRow w.heap.size 66 3 (.slice R t.length cR) t.length ((midR t m.ids k).flatMap encC) ∧ Mp wr b (refs [m]) ∧ Below w.heap.size w wr) (fun _ v33 _ => t.length - (intOf v33).toNat)
      case atStart => exact ⟨0, Nat.zero_le _, rfl, rfl, by simp [Hid], by simpa [midR, restR] using Hown3.out, Hm3.out, Hb3.out⟩
      case round =>
        obtain ⟨k, hk, rfl, rfl, Hall, hown, hmw, hbw⟩ := hrel
        have hsz := hbw.size
        have hfl := fndL_le (t.take k) m.ids
        have htl := take_len t k
        obtain ⟨fd, HF⟩ : ∃ fd, Hid (fndL (t.take k) m.ids = fd) := ⟨_, rfl⟩
        rw [HF.out] at hfl ⊢
        have Hown := Lib.hid hown
        have Hmw := Lib.hid hmw
        have Hbw := Lib.hid hbw
        clear hown hmw hbw
        by_cases hlt : k < t.length
        · obtain ⟨g, cap, hv, hgb, hgl⟩ := Hown.out.form (by omega)
          injection hv with hv1 hv2 hv3
          subst hv1 hv3
          obtain ⟨p0, q0, n0, HJ⟩ : ∃ p0 q0 n0, Hid (t.getD k ct0 = ((p0, q0), n0)) := ⟨_, _, _, rfl⟩
          have hml2 := midR_len t m.ids k hk
          have cell : ∀ i v, i < 3 → (encC ((p0, q0), n0))[i]? = some v → wr.cell? ⟨g, k * 3 + i, none⟩ = some v := by
            intro i v hi3 hv
            rw [Hown.out.cellAt (k * 3 + i) (by omega), flat_at encC_len ct0 _ k i (by omega) hi3, List.getD_eq_getElem?_getD, midR_at hlt, HJ.out]
            exact hv
          have d0 : wr.cell? ⟨g, k * 3, none⟩ = some (.int .u64 p0) := cell 0 _ (by omega) rfl
          have d1 : wr.cell? ⟨g, k * 3 + 1, none⟩ = some (.int .i64 q0) := cell 1 _ (by omega) rfl
          have d2 : wr.cell? ⟨g, k * 3 + 2, none⟩ = some (.int .i64 n0) := cell 2 _ (by omega) rfl
          have f2 : wr.frozen? ⟨g, k * 3 + 2, none⟩ = false := Hown.out.frozenAt _
          have hmem := getD_mem t ct0 k hlt
          rw [HJ.out] at hmem
          have hn0 := tbl_bd HE.out _ hmem
          simp only at hn0
          have hok0 := Hot.out _ hmem
          have hlook := Mp.look2 (Hmw.out.alloc (.cells #[.int .u64 p0, .int .i64 q0, .int .i64 n0] 66)) p0 q0 hok0
          rw [nAt_refs, refs_some, ids_one] at hlook
          have hcl : m.ids.count (p0, q0) ≤ m.ids.length := List.count_le_length
          have Hmem := Lib.hid hmem
          have hgne : some b ≠ some g := Hmw.out.own_ne Hown.out
          have Hgne := Lib.hid hgne
          clear cell hmem hok0 hgne hv2 hml2
          by_cases hin : (p0, q0) ∈ m.ids
          · have HN : Hid (fndL (t.take (k + 1)) m.ids = fd + 1) := by rw [Hid, take_snoc _ ct0 _ hlt, fndL_snoc, HJ.out, if_pos hin, HF.out]
            have Hin := Lib.hid hin
            rw [decide_eq_true hin] at hlook
            obtain ⟨cn, HC⟩ : ∃ cn, Hid (m.ids.count (p0, q0) = cn) := ⟨_, rfl⟩
            rw [HC.out] at hlook hcl
            clear hin
            by_cases hlow : n0 < cn
            · have hq := Hq.out
              rw [if_neg (by
                rw [enough_iff (tbl_nodup HE.out)]
                rintro ⟨h1, _⟩
                have := h1 _ Hmem.out Hin.out
                simp only [HC.out] at this
                omega)] at hq
              have HQ := Lib.hid hq.symm
              clear hq
              go_wp2_with fail
              go_ret2
              exact twoC_err HQ.out (Hbw.out.alloc Hbw.out.size _)
            · have HA : Hid (∀ c ∈ t.take (k + 1), c.1 ∈ m.ids → ((m.ids.count c.1 : Nat) : Int) ≤ c.2) := by
                intro c hc
                rw [take_snoc _ ct0 _ hlt, HJ.out] at hc
                rcases List.mem_append.1 hc with hc | hc
                · exact Hall.out c hc
                · simp at hc; subst hc; intro _; simp only [HC.out]; omega
              have HO : Hid (((wr.setCell ⟨g, k * 3 + 2, none⟩ (.int .i64 (n0 - cn))).alloc (.cells #[.int .u64 p0, .int .i64 q0, .int .i64 n0] 66)).ownsRow w.heap.size 66 3 (.slice (some ⟨g, 0, none⟩) t.length cR) t.length ((midR t m.ids (k + 1)).flatMap encC)) := by
                have h1 := (Hown.out.stored (k * 3 + 2) (.int .i64 (n0 - cn))).1
                have h2 := midR_at (l := m.ids) hlt
                rw [HJ.out] at h2
                rw [flat_set h2] at h1
                have h3 := midR_next (l := m.ids) hlt HJ.out
                rw [HC.out] at h3
                rw [h3] at h1
                exact h1.alloc _
              have HMm : Hid (Mp ((wr.setCell ⟨g, k * 3 + 2, none⟩ (.int .i64 (n0 - cn))).alloc (.cells #[.int .u64 p0, .int .i64 q0, .int .i64 n0] 66)) b (refs [m])) := (Hmw.out.kept (row := some g) (g_set (g_refl _ _) (.inl rfl) _) Hgne.out).alloc _
              have HBb : Hid (Below w.heap.size w ((wr.setCell ⟨g, k * 3 + 2, none⟩ (.int .i64 (n0 - cn))).alloc (.cells #[.int .u64 p0, .int .i64 q0, .int .i64 n0] 66))) := (Hbw.out.setCell (by simp; omega) _).alloc (by simpa [World.setCell] using hsz) _
              go_wp2_with fail
              go_roundw
              case rel => exact ⟨k + 1, by omega, by go_num, by rw [HN.out]; go_num, HA, HO.out, HMm.out, HBb.out⟩
              case measure => simp [intOf]; omega
          · have HN : Hid (fndL (t.take (k + 1)) m.ids = fd) := by rw [Hid, take_snoc _ ct0 _ hlt, fndL_snoc, HJ.out, if_neg hin, HF.out]
            have HA : Hid (∀ c ∈ t.take (k + 1), c.1 ∈ m.ids → ((m.ids.count c.1 : Nat) : Int) ≤ c.2) := by
              intro c hc
              rw [take_snoc _ ct0 _ hlt, HJ.out] at hc
              rcases List.mem_append.1 hc with hc | hc
              · exact Hall.out c hc
              · simp at hc; subst hc; intro h; exact absurd h hin
            have HMs : Hid (midR t m.ids (k + 1) = midR t m.ids k) := midR_same hlt HJ.out hin
            rw [decide_eq_false hin] at hlook
            clear hin
            go_wp2_with fail
            go_roundw
            case rel => exact ⟨k + 1, by omega, by go_num, by rw [HN.out], HA, by rw [HMs.out]; exact Hown.out.alloc _, Hmw.out.alloc _, Hbw.out.alloc Hbw.out.size _⟩
            case measure => simp [intOf]; omega
        · obtain rfl : k = t.length := by omega
          rw [List.take_length] at HF Hall
          rw [midR_end] at Hown
          have hlen2 : (Builtin.len_ #[58] 3 #[.map (some b)]).run Try.prog wr = .ok (.int .i64 (refs [m]).length) wr := Hmw.out.len Try.underlying58 3
          by_cases hlow : fd < (refs [m]).length
          · have hq := Hq.out
            have hex := (fnd_all (tbl_nodup HE.out) m).1 (by rw [HF.out]; exact hlow)
            rw [if_neg (by
              rw [enough_iff (tbl_nodup HE.out)]
              rintro ⟨_, h2⟩
              obtain ⟨i, h3, h4⟩ := hex
              exact h4 (h2 i h3))] at hq
            have HQ := Lib.hid hq.symm
            clear hq hex
            go_wp2_with fail
            go_ret2
            exact twoC_err HQ.out Hbw.out
          · have hq := Hq.out
            have hex : ¬ ∃ i ∈ m.ids, i ∉ t.map (·.1) := fun h => hlow (by have := (fnd_all (tbl_nodup HE.out) m).2 h; rwa [HF.out] at this)
            rw [if_pos (by
              rw [enough_iff (tbl_nodup HE.out)]
              exact ⟨Hall.out, fun i h3 => Classical.byContradiction (fun h4 => hex ⟨i, h3, h4⟩)⟩)] at hq
            subst hq
            have hrl : t.length = (restR t m.ids).length := by simp [restR]
            have HO2 := Hown.out
            rw [hrl] at HO2
            have HR := Lib.hid (Rd.of_own (x := x) (d := ct0) encC_len (by omega) HO2 hx).2
            have HCp := Lib.hid (own_cap HO2)
            have hrl' := Lib.hid hrl
            clear hex HO2 hrl
            go_wp2_with fail
            go_ret2
            exact ⟨R, cR, by show Ending.returned (.tuple #[.slice R t.length cR, .int .i64 0]) = Ending.returned (.tuple #[.slice R (restR t m.ids).length cR, .int .i64 0]); rw [← hrl'.out], HR.out, HCp.out, Hbw.out⟩
    · have Hb2 : Hid (Below w.heap.size w w2) := (Hb1.out.alloc Hb1.out.size _).trans (hb2.mono (by simp; omega))
      rw [errM_one] at hM ⊢
      have hp := Hp.out
      rw [relP, if_pos HE.out, if_neg hM] at hp
      have Hq := Lib.hid hp.symm
      have hbe : (manE m != 0) = true := by rw [bne_iff_ne]; exact hM
      clear hM hb2 hp
      go_wp2_with fail
      go_ret2
      exact twoC_err Hq.out Hb2.out
  · have hp := Hp.out
    rw [relP, if_neg hE] at hp
    have Hq := Lib.hid hp.symm
    have hbe : (tblE t != 0) = true := by rw [bne_iff_ne]; exact hE
    clear hE hp
    go_wp2_with fail
    go_ret2
    exact twoC_err Hq.out Hb1.out
end Go.Proofs.Ytjglpmcekbjoaaa
