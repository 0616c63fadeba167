/- Contracts of the walk, part 27. -/
import Derived.BigRegion
import Derived.ChangeSlices
import Derived.ProofKit
import Derived.Deep.SlicePairs
import Derived.Test.YtmiknfneeipkeaaGreatQ23
import Derived.Test.YtmiknfneeipkeaaGreatQ26
import Derived.Test.YtmiknfneeipkeaaGreatQ03
import Derived.Test.YtmiknfneeipkeaaGreatQ09
import Derived.Test.YtmiknfneeipkeaaGreatQ04
namespace Go.Proofs.YtmiknfneeipkeaaGreat
open Go.RowKit Go.MapKept Go.ChangeMaps Go.Shelf Go.Sort
attribute [local go_sem] wext_cell
/-- Numbers that are read. -/
def inOb (A : Option Addr) (L : List Int) : Ob where
  own := fun _ => False
  rd := fun i => 0 < L.length ∧ ∃ o, A = some ⟨i, o, none⟩
  holds := fun w => RdT w w.heap.size A L ∧ L.length ≤ 9223372036854775807
  stable := fun w w' h hs hk => by
    refine ⟨fun hp => ?_, h.2⟩
    obtain ⟨b, o, e, hlt, hc⟩ := h.1 hp
    have h2 := hk b (.inr ⟨hp, o, e⟩)
    refine ⟨b, o, e, Nat.lt_of_lt_of_le hlt hs.2.2.2, fun j hj => ?_⟩
    rw [← hc j hj]
    simp [World.cell?, h2]
section
variable {b : Nat} {w0 w w' : World} {l t : List Ob} {o o' : Ob}
/-- A new tape. -/
theorem SW.newTape {A : Option Addr} {L : List Int} (h : SW b w0 l w) (hm : inOb A L ∈ l) (c : Nat) {H : Nat} (hH : w.heap.size = H) : SW b w0 (tpOb H A c L 0 :: l) (w.alloc (.cells #[.slice A L.length c, .int .i64 0] 26)) := by
  subst hH
  have hh : RdT w w.heap.size A L ∧ L.length ≤ 9223372036854775807 := h.1.holds _ hm
  have hb : Below w.heap.size w (w.alloc (.cells #[.slice A L.length c, .int .i64 0] 26)) := (Below.refl _ _).alloc (Nat.le_refl _) _
  have := h.1.add (o' := tpOb w.heap.size A c L 0) hb ⟨IsB.new _ _ _, fun hp => ?_, hh.2⟩ (fun i hi => ?_) (fun i hi => ?_) (fun i hi hlt => h.noOwn hm (fun _ h => h) hi)
  · exact ⟨this.1, h.2.trans this.2⟩
  · obtain ⟨q, o, e, hlt, hc⟩ := hh.1 hp
    exact ⟨q, o, e, by simp; omega, by omega, fun j hj => (hb.cell hlt).trans (hc j hj)⟩
  · have hi : i = w.heap.size := hi
    rw [hi]
    exact ⟨Nat.le_refl _, by simp⟩
  · obtain ⟨hp, o, e⟩ := hi
    obtain ⟨q, o', e', hlt, _⟩ := hh.1 hp
    rw [e] at e'
    injection e' with e'
    injection e' with e' _
    rw [e']
    exact Nat.lt_of_lt_of_le hlt (by simp)
theorem SW.startIn {w : World} {A : Option Addr} {L : List Int} (hr : RdT w w.heap.size A L) (hl : L.length ≤ 9223372036854775807) : SW w.heap.size w [inOb A L] w :=
  SW.start (o := inOb A L) ⟨hr, hl⟩ (fun _ h => h) (fun i hi => by
    obtain ⟨hp, o, e⟩ := hi
    obtain ⟨q, o', e', hlt, _⟩ := hr hp
    rw [e] at e'
    injection e' with e'
    injection e' with e' _
    rw [e']
    exact hlt)
/-- The contents of the tape as a list of manifests. -/
theorem SW.takeMans {MA CA : Option Addr} {mc cc n' g c : Nat} {A : Option Addr} {L : List Int} {Ps : List (List BS)} {rs : List MR} (h : SW b w0 (rowOb 33 2 (.slice MA Ps.length mc) Ps.length (rs.flatMap encMR) :: rowOb 42 3 (.slice CA (chsT Ps).length cc) (chsT Ps).length ((chsT Ps).flatMap encCH) :: msOb rs (mansT Ps) :: bufsOb (allT Ps) :: tpOb g A c L n' :: l) w) : SW b w0 (tpOb g A c L n' :: imOb MA rs (mansT Ps) :: l) w := by
  have h1 : SW b w0 (rowOb 33 2 (.slice MA Ps.length mc) Ps.length (rs.flatMap encMR) :: msOb rs (mansT Ps) :: tpOb g A c L n' :: l) w := h.sub (.cons_cons _ (.cons _ (.cons_cons _ (.cons _ (.cons_cons _ (List.Sublist.refl _))))))
  rw [← mansT_len Ps] at h1
  exact SW.front (pre := [_, _]) (SW.fuseIm h1) [1, 0] (n := 2) rfl (by decide)
/-- A block that the tape owns is read by no other. -/
theorem SW.linkM {g n c : Nat} {A R : Option Addr} {L : List Int} {rs : List MR} {ms : List Man} (h : SW b w0 l w) (ht : tpOb g A c L n ∈ l) (hm : imOb R rs ms ∈ l) {j : Nat} (hj : j < ms.length) : Link w g (rs.getD j mr0) (ms.getD j man0) := by
  obtain ⟨h1, h2, h3⟩ := h.1.holds _ hm
  have hno : ∀ i, (imOb R rs ms).rd i → i ≠ g := fun i hi e => by
    exact h.noOwn hm (fun _ h => h) hi _ ht e
  obtain ⟨l1, l2, l3, l4⟩ := h3 j hj
  refine ⟨l1, l2, l3, fun hp => ?_⟩
  obtain ⟨q, o, e, hb, _, hc⟩ := l4 hp
  exact ⟨q, o, e, hb, hno q (.inr ⟨j, hj, hp, o, e⟩), hc⟩
theorem SW.rdM {g n c : Nat} {A R : Option Addr} {L : List Int} {rs : List MR} {ms : List Man} (h : SW b w0 l w) (ht : tpOb g A c L n ∈ l) (hm : imOb R rs ms ∈ l) : RdM w g R ms := by
  obtain ⟨h1, h2, h3⟩ := h.1.holds _ hm
  have hno : ∀ i, (imOb R rs ms).rd i → i ≠ g := fun i hi e => by
    exact h.noOwn hm (fun _ h => h) hi _ ht e
  refine ⟨rs, fun hp => ?_, h2, fun j hj => ?_⟩
  · obtain ⟨q, o, e, hb, _, hc⟩ := h1 hp
    exact ⟨q, o, e, hb, hno q (.inl ⟨hp, o, e⟩), hc⟩
  · obtain ⟨l1, l2, l3, l4⟩ := h3 j hj
    refine ⟨l1, l2, l3, fun hp => ?_⟩
    obtain ⟨q, o, e, hb, _, hc⟩ := l4 hp
    exact ⟨q, o, e, hb, hno q (.inr ⟨j, hj, hp, o, e⟩), hc⟩
theorem getD_left {α : Type} {a b : List α} {d : α} {j : Nat} (h : j < a.length) : (a ++ b).getD j d = a.getD j d := by
  rw [List.getD_eq_getElem?_getD, List.getD_eq_getElem?_getD, List.getElem?_append_left h]
theorem getD_right {α : Type} {a b : List α} {d : α} {j : Nat} (h : a.length ≤ j) : (a ++ b).getD j d = b.getD (j - a.length) d := by
  rw [List.getD_eq_getElem?_getD, List.getD_eq_getElem?_getD, List.getElem?_append_right h]
theorem row_rdM {D : Option Addr} {rs : List MR} {q dc : Nat} (hr : w.ownsRow 0 33 2 (.slice D q dc) q (rs.flatMap encMR)) (hq : rs.length = q) : Rd encMR 2 mr0 w w.heap.size D rs := by
  intro hp
  have hx : ∀ g, D = some ⟨g, 0, none⟩ → g < w.heap.size := fun g e => (hr.lt g (by rw [e]; rfl)).2
  rcases hr.2 with ⟨hv, h0⟩ | ⟨g, cap, cur, hv, _⟩
  · omega
  · injection hv with e1 e2 e3
    subst e1
    subst e3
    refine ⟨g, 0, rfl, hx g rfl, by have := hx g rfl; omega, fun j hj i v hi => ?_⟩
    have hi2 : i < 2 := by
      have := (List.getElem?_eq_some_iff.1 hi).1
      rwa [encMR_len] at this
    rw [Nat.zero_add, hr.cellAt (j * 2 + i) (by rw [← hq]; omega), flat_at encMR_len mr0 rs j i hj hi2]
    exact hi
/-- Two lists of manifests behind each other. -/
theorem SW.joinM {R S : Option Addr} {rs qs : List MR} {ms ns : List Man} {D : Option Addr} {q dc : Nat} (h : SW b w0 (rowOb 33 2 (.slice D q dc) q ((rs ++ qs).flatMap encMR) :: l) w) (hm : imOb R rs ms ∈ l) (hn : imOb S qs ns ∈ l) (hq : q = ms.length + ns.length) : SW b w0 (imOb D (rs ++ qs) (ms ++ ns) :: l) w := by
  have hM := h.1.holds _ (List.mem_cons_of_mem _ hm)
  have hN := h.1.holds _ (List.mem_cons_of_mem _ hn)
  have h1 : SW b w0 (imOb R rs ms :: rowOb 33 2 (.slice D q dc) q ((rs ++ qs).flatMap encMR) :: l) w := h.again (List.mem_cons_of_mem _ hm) (fun _ h => h) hM (fun _ h => h) (fun _ h => h)
  have h2 : SW b w0 (imOb S qs ns :: imOb R rs ms :: rowOb 33 2 (.slice D q dc) q ((rs ++ qs).flatMap encMR) :: l) w := h1.again (List.mem_cons_of_mem _ (List.mem_cons_of_mem _ hn)) (fun _ h => h) hN (fun _ h => h) (fun _ h => h)
  have hrow : w.ownsRow 0 33 2 (.slice D q dc) q ((rs ++ qs).flatMap encMR) := h.get 0 rfl
  have hl : (rs ++ qs).length = (ms ++ ns).length := by rw [List.length_append, List.length_append, hM.2.1, hN.2.1]
  refine SW.fuse (pre := [_, _, _]) h2 ⟨row_rdM hrow (by rw [hl, List.length_append]; omega), hl, fun j hj => ?_⟩ (fun _ h => h) (fun i hi => ?_)
  · by_cases hj1 : j < ms.length
    · rw [getD_left (by rw [hM.2.1]; exact hj1), getD_left hj1]
      exact hM.2.2 j hj1
    · rw [List.length_append] at hj
      rw [getD_right (by rw [hM.2.1]; omega), getD_right (by omega), hM.2.1]
      exact hN.2.2 _ (by omega)
  · rcases hi with ⟨hp, o, e⟩ | ⟨j, hj, hp, o, e⟩
    · refine ⟨_, .tail _ (.tail _ (.head _)), .inl ?_⟩
      show (Value.slice D q dc).ownBlock = some i
      rw [e]
      rfl
    · by_cases hj1 : j < ms.length
      · rw [getD_left hj1] at hp
        rw [getD_left (by rw [hM.2.1]; exact hj1)] at e
        exact ⟨_, .tail _ (.head _), .inr (.inr ⟨j, hj1, hp, o, e⟩)⟩
      · rw [List.length_append] at hj
        rw [getD_right (by omega)] at hp
        rw [getD_right (by rw [hM.2.1]; omega), hM.2.1] at e
        exact ⟨_, .head _, .inr (.inr ⟨j - ms.length, by omega, hp, o, e⟩)⟩
theorem freeL_len {ms ns : List Man} (hn : ms.length ≤ 90) : (freeL ms ns).length ≤ 92160 := by
  unfold freeL
  by_cases h : errM ms = 0 ∧ errM ns = 0
  · rw [if_pos h]
    exact Nat.le_trans (lessR_len _ _) (setR_small h.1 hn)
  · rw [if_neg h]
    exact Nat.zero_le _
/-- Few valid manifests. -/
def FewM (gs : List Man) : Prop := gs.length ≤ 3 ∧ errM gs = 0 ∧ (∀ m ∈ gs, manE m = 0) ∧ (∀ m ∈ gs, m.ids.length ≤ 3) ∧ ∀ m ∈ gs, ∀ i ∈ m.ids, okID i
theorem few_of {Ps : List (List BS)} (h : GoodPs Ps) : FewM (mansT Ps) := ⟨by rw [mansT_len]; exact h.1, good_err h, good_man h, good_ids h, good_ok h⟩
theorem few_ids {gs ns : List Man} (h : FewM gs) (h' : FewM ns) : (idsOf (gs ++ ns)).length ≤ 4096 := by
  have h1 := idsOf_few h.2.2.2.1
  have h2 := idsOf_few h'.2.2.2.1
  have := h.1
  have := h'.1
  rw [idsOf_app, List.length_append]
  omega
/-- The table when k of the manifests are released. -/
def tabK (gs ns : List Man) (k : Nat) : List CT := restR (tab0 gs ns) (idsOf (gs.take k))
theorem tabK_zero (gs ns : List Man) : tabK gs ns 0 = tab0 gs ns := restR_nil _
theorem tabK_next {gs ns : List Man} (h : FewM gs) (h' : FewM ns) {k : Nat} (hk : k < gs.length) : relP (tabK gs ns k) (gs.getD k man0) = (tabK gs ns (k + 1), 0) := rel_step h.2.1 h'.2.1 (few_ids h h') hk (h.2.2.1 _ (getD_mem _ _ _ hk))
theorem tabK_len {gs ns : List Man} (h : FewM gs) (h' : FewM ns) (k : Nat) : (tabK gs ns k).length ≤ 4096 := by
  have hp := (tabR_perm (refs_spec (gs ++ ns)).1).length_eq
  have : (tabK gs ns k).length = (tab0 gs ns).length := by simp [tabK, restR]
  rw [this, tab0, hp]
  exact ((limB_iff _).1 (limB_few (few_ids h h'))).1
theorem tabK_ok {gs ns : List Man} (h : FewM gs) (h' : FewM ns) (k : Nat) : ∀ c ∈ tabK gs ns k, okID c.1 := by
  intro c hc
  obtain ⟨d, hd, rfl⟩ := List.mem_map.1 hc
  obtain ⟨hm, _⟩ := tab0_mem hd
  obtain ⟨m, hm1, hm2⟩ := List.mem_flatMap.1 hm
  rcases List.mem_append.1 hm1 with h1 | h1
  · exact h.2.2.2.2 m h1 _ hm2
  · exact h'.2.2.2.2 m h1 _ hm2
theorem tabK_dead {gs ns : List Man} (h : FewM gs) (h' : FewM ns) : deadP (tabK gs ns gs.length) = freeL gs ns := by
  rw [tabK, List.take_length]
  exact dead_free h.2.1 h'.2.1 (few_ids h h')
/-- A table that reads as t. -/
abbrev TabP (x : Nat) (t : List CT) (w : World) (e : Ending) (w' : World) : Prop := ∃ (A : Option Addr) (c : Nat), e = .returned (.tuple #[.slice A t.length c, .int .i64 0]) ∧ RdC w' x A t ∧ Below w.heap.size w w'
theorem tabP_of {x : Nat} {p : List CT × Int} {t : List CT} {w : World} {e : Ending} {w' : World} (hp : p = (t, 0)) (h : TwoC x p w e w') : TabP x t w e w' := by
  subst hp
  obtain ⟨A, c, h1, h2, _, h4⟩ := h
  exact ⟨A, c, h1, h2, h4⟩
theorem encMR_all (rs : List MR) : ∀ u ∈ rs.flatMap encMR, u.oneCell' = true := fun u hu => by
  obtain ⟨r, _, hr⟩ := List.mem_flatMap.1 hu
  exact encMR_one r u hr
theorem im_src {A : Option Addr} {rs : List MR} {ms : List Man} (h : (imOb A rs ms).holds w) : 0 < ms.length → ∃ ad, A = some ad ∧ ∀ j u, (rs.flatMap encMR)[j]? = some u → w.cell? (ad.add j) = some u := fun hp => by
  obtain ⟨b, o, e, _, _, hc⟩ := h.1 (by rw [h.2.1]; exact hp)
  refine ⟨_, e, fun j u hu => ?_⟩
  have hj := (List.getElem?_eq_some_iff.1 hu).1
  rw [flat_len encMR_len] at hj
  have hj1 : j / 2 < rs.length := by omega
  have e1 := flat_at encMR_len mr0 rs (j / 2) (j % 2) hj1 (by omega)
  rw [show j / 2 * 2 + j % 2 = j by omega, hu] at e1
  have h2 := hc (j / 2) hj1 (j % 2) u e1.symm
  rw [show o + j / 2 * 2 + j % 2 = o + j by omega] at h2
  rw [show (⟨b, o, none⟩ : Addr).add j = ⟨b, o + j, none⟩ by unfold Addr.add; split <;> simp_all]
  exact h2
set_option maxRecDepth 100000 in
set_option maxHeartbeats 8000000 in
/-- ArchiveFrees (4). -/
theorem law4_any (h : SW w.heap.size w l w) {A : Option Addr} {L : List Int} (hin : inOb A L ∈ l) (cap : Nat) {R : Option Addr} {rs : List MR} {ms : List Man} (hraw : imOb R rs ms ∈ l) (rc : Nat) (hml : ms.length ≤ 9223372036854775807) (hmi : ∀ m ∈ ms, m.ids.length ≤ 9223372036854775807) :
    Calls Tryz.prog 4 #[.slice A L.length cap, .slice R ms.length rc] w (fun e w' => e = .returned (.bool true) ∧ Below w.heap.size w w') := by
  have S0 := Lib.hid h
  have HIN := Lib.hid hin
  have HRAW := Lib.hid hraw
  have HMI := Lib.hid hmi
  clear h hin hraw hmi
  go_enter Tryz.func4, Tryz.ntmps4
  by_cases h6 : 6 < ms.length
  · have hd : decide ((ms.length : Int) > 6) = true := decide_eq_true (by omega)
    go_wp2_with fail
    go_ret
    exact ⟨rfl, S0.out.2⟩
  · have hd : decide ((ms.length : Int) > 6) = false := decide_eq_false (by omega)
    have S1 := Lib.hid (S0.out.newTape HIN.out cap (H := w.heap.size) rfl)
    have HC := Lib.hid (contents_any S1.out (by omega))
    clear S0
    go_wp2_with (go_at_call 8; (with_reducible refine HC.out.mono ?_); refine halt_ ?_)
    rintro e w1 ⟨Ps, p1, PA, CA, pc, cc, n1, rfl, hG, _, hn1, s1⟩
    have HG := Lib.hid hG
    have S2 := Lib.hid (SW.takeMans s1)
    have HC2 := Lib.hid (contents_any S2.out (by omega))
    clear S1 HC s1 hG
    go_wp2_with (go_at_call 8; (with_reducible refine HC2.out.mono ?_); refine halt_ ?_)
    rintro e w2 ⟨Qs, q1, QA, DA, qc, dc, n2, rfl, hK, _, hn2, s2⟩
    have HK := Lib.hid hK
    have S3 := Lib.hid (SW.takeMans s2)
    clear S2 HC2 s2 hK
    have HFg := Lib.hid (few_of HG.out)
    have HFn := Lib.hid (few_of HK.out)
    rw [← mansT_len Ps, ← mansT_len Qs]
    obtain ⟨gs, HGS⟩ : ∃ x, Hid (mansT Ps = x) := ⟨_, rfl⟩
    obtain ⟨ns, HNS⟩ : ∃ x, Hid (mansT Qs = x) := ⟨_, rfl⟩
    rw [HGS.out] at S3 HFg ⊢
    rw [HNS.out] at S3 HFn ⊢
    have hg3 := HFg.out.1
    have hn3 := HFn.out.1
    have HIg : Hid (∀ m ∈ gs, m.ids.length ≤ 9223372036854775807) := fun m hm => by have := HFg.out.2.2.2.1 m hm; omega
    have HIn : Hid (∀ m ∈ ns, m.ids.length ≤ 9223372036854775807) := fun m hm => by have := HFn.out.2.2.2.1 m hm; omega
    clear HG HK HGS HNS
    have HF1 := Lib.hid (Freed_any S3.out (.tail _ (.tail _ (.tail _ HRAW.out))) (.tail _ (.head _)) (by omega) (by omega) HMI.out HIn.out rc qc)
    go_wp2_with (go_at_call 14; (with_reducible refine HF1.out.mono ?_); refine halt_ ?_)
    rintro e w3 ⟨F1, f1, rfl, s3⟩
    have S4 := Lib.hid s3
    clear S3 HF1 s3
    have HF2 := Lib.hid (rFreed_any S4.out (.tail _ (.tail _ (.tail _ (.tail _ HRAW.out)))) (.tail _ (.tail _ (.head _))) (by omega) (by omega) HMI.out HIn.out rc qc)
    go_wp2_with (go_at_call 15; (with_reducible refine HF2.out.mono ?_); refine halt_ ?_)
    rintro e w4 ⟨F2, f2, rfl, s4⟩
    have S5 := Lib.hid s4
    clear S4 HF2 s4
    have HXL := Lib.hid (freeL_len (ms := ms) (ns := ns) (by omega))
    obtain ⟨X, HX⟩ : ∃ x, Hid (freeL ms ns = x) := ⟨_, rfl⟩
    obtain ⟨E, HE⟩ : ∃ x, Hid (freeE ms ns = x) := ⟨_, rfl⟩
    rw [HX.out] at S5 HXL ⊢
    rw [HE.out]
    have HF3 := Lib.hid (Freed_any S5.out (.tail _ (.tail _ (.tail _ (.tail _ (.head _))))) (.tail _ (.tail _ (.tail _ (.head _)))) (by omega) (by omega) HIg.out HIn.out pc qc)
    go_wp2_with (go_at_call 14; (with_reducible refine HF3.out.mono ?_); refine halt_ ?_)
    rintro e w5 ⟨F3, f3, rfl, s5⟩
    have S6 := Lib.hid (s5.newRow 33 2)
    clear S5 HF3 s5
    have HYL := Lib.hid (freeL_len (ms := gs) (ns := ns) (by omega))
    have HYD := Lib.hid (tabK_dead HFg.out HFn.out)
    obtain ⟨Y, HY⟩ : ∃ x, Hid (freeL gs ns = x) := ⟨_, rfl⟩
    rw [HY.out] at S6 HYL HYD ⊢
    rw [freeE_good HFg.out.2.1 HFn.out.2.1]
    obtain ⟨i1, gi, gz0, gz1, gz2⟩ := info_parts info33'
    have HIM := Lib.hid (S6.out.1.holds (imOb PA p1 gs) (.tail _ (.tail _ (.tail _ (.tail _ (.tail _ (.tail _ (.head _))))))))
    have hpl : p1.length = gs.length := HIM.out.2.1
    go_wp2_with (at_builtin; (refine wpList_rowMO (t := 27) (e := 33) (size := 2) (bytes := 32) (i := i1) S6.out 0 rfl (by rfl) (.const (.slice none 0 0)) (.tmp 54) (by rfl) Tryz.underlying27 gi gz0 gz1 gz2 rfl (by omega) (by rfl) PA gs.length pc (p1.flatMap encMR) (by rfl) (by rw [flat_len encMR_len, hpl]) (im_src HIM.out) (encMR_all p1) (by unfold maxLen; omega) (by omega) ?_); refine halt_ ?_)
    intro v6 w6 s6
    have S7 := Lib.hid s6
    have HIN2 := Lib.hid (s6.1.holds (imOb QA q1 ns) (.tail _ (.tail _ (.tail _ (.tail _ (.tail _ (.head _)))))))
    have hql : q1.length = ns.length := HIN2.out.2.1
    clear S6 s6 HIM
    go_wp2_with (at_builtin; (refine wpList_rowMO (t := 27) (e := 33) (size := 2) (bytes := 32) (i := i1) S7.out 0 rfl (by rfl) (.tmp 55) (.tmp 56) (by rfl) Tryz.underlying27 gi gz0 gz1 gz2 rfl (by omega) (by rfl) QA ns.length qc (q1.flatMap encMR) (by rfl) (by rw [flat_len encMR_len, hql]) (im_src HIN2.out) (encMR_all q1) (by unfold maxLen; omega) (by omega) ?_); refine halt_ ?_)
    intro v8 w8 s8
    rw [← List.flatMap_append] at s8
    obtain ⟨D, dc, rfl⟩ := own_slL (s8.get 0 rfl)
    have S8 := Lib.hid (SW.joinM s8 (.tail _ (.tail _ (.tail _ (.tail _ (.tail _ (.head _)))))) (.tail _ (.tail _ (.tail _ (.tail _ (.head _))))) rfl)
    clear S7 s8 HIN2
    have hg8 : w.heap.size < w8.heap.size := (S8.out.1.holds (tpOb w.heap.size A cap L n2) (.tail _ (.tail _ (.tail _ (.tail _ (.head _)))))).1.lt
    have HOf := Lib.hid (mOf_any w.heap.size (gs ++ ns) D dc w8 (SW.rdM S8.out (.tail _ (.tail _ (.tail _ (.tail _ (.head _))))) (.head _)) hg8 (by rw [List.length_append]; omega) (fun m hm => by
      rcases List.mem_append.1 hm with h | h
      · exact HIg.out m h
      · exact HIn.out m h) (fun m hm => by
      rcases List.mem_append.1 hm with h | h
      · exact HFg.out.2.2.2.2 m h
      · exact HFn.out.2.2.2.2 m h))
    rw [List.length_append] at HOf
    go_wp2_with (go_at_call 16; (with_reducible refine HOf.out.mono ?_); refine halt_ ?_)
    intro e w9 h9
    obtain ⟨T, tc, rfl, hr9, hb9⟩ := tabP_of (of_tab0 HFg.out.2.1 HFn.out.2.1 (few_ids HFg.out HFn.out)) h9
    have S9 := Lib.hid (S8.out.on hb9)
    rw [← tabK_zero] at hr9 ⊢
    have HR9 := Lib.hid hr9
    clear S8 HOf h9 hb9 hr9
    go_wp2_with fail
    go_loopw [16, 17, 18] (fun v16 v17 v18 wr => ∃ (k : Nat) (B : Option Addr) (bc : Nat), k ≤ gs.length ∧ v18 = .int .i64 (k : Int) ∧ v17 = .int .i64 0 ∧ v16 = .slice B (tabK gs ns k).length bc ∧ RdC wr w.heap.size B (tabK gs ns k) ∧ SW w.heap.size w (imOb D (p1 ++ q1) (gs ++ ns) :: riOb F3 Y :: riOb F2 X :: riOb F1 X :: tpOb w.heap.size A cap L n2 :: imOb QA q1 ns :: imOb PA p1 gs :: l) wr) (fun _ _ v18 _ => gs.length - (intOf v18).toNat)
    case atStart => exact ⟨0, T, tc, Nat.zero_le _, rfl, rfl, rfl, HR9.out, S9.out⟩
    case round =>
      obtain ⟨k, B, bc, hk, rfl, rfl, rfl, hrb, hs⟩ := hrel
      have SA := Lib.hid hs
      have HRB := Lib.hid hrb
      clear hrb hs S9 HR9
      by_cases hlt : k < gs.length
      · have hmM := SA.out.1.holds (imOb PA p1 gs) (.tail _ (.tail _ (.tail _ (.tail _ (.tail _ (.tail _ (.head _)))))))
        obtain ⟨h1, h2, h3⟩ := hmM
        obtain ⟨g, o, rfl, hgB, _, hc⟩ := h1 (by omega)
        obtain ⟨l1, l2, l3, l4⟩ := SW.linkM SA.out (.tail _ (.tail _ (.tail _ (.tail _ (.head _))))) (.tail _ (.tail _ (.tail _ (.tail _ (.tail _ (.tail _ (.head _))))))) hlt
        have hmem := getD_mem gs man0 k hlt
        have HT := Lib.hid (tabK_next HFg.out HFn.out hlt)
        obtain ⟨m, HMK⟩ : ∃ m, Hid (gs.getD k man0 = m) := ⟨_, rfl⟩
        obtain ⟨⟨rz, rA, rl, rd⟩, HR⟩ : ∃ r, Hid (p1.getD k mr0 = r) := ⟨_, rfl⟩
        rw [HMK.out] at l1 l2 l4 hmem HT
        rw [HR.out] at l1 l2 l3 l4
        simp only at l1 l2 l3 l4
        subst l1 l2
        have hil := HIg.out m hmem
        have c0 : wr.cell? ⟨g, o + k * 2, none⟩ = some (.int .i64 m.size) := hc k (by omega) 0 _ (by rw [HR.out]; rfl)
        have c1 : wr.cell? ⟨g, o + k * 2 + 1, none⟩ = some (.slice rA m.ids.length rd) := hc k (by omega) 1 _ (by rw [HR.out]; rfl)
        have hgr : w.heap.size < wr.heap.size := (SA.out.1.holds (tpOb w.heap.size A cap L n2) (.tail _ (.tail _ (.tail _ (.tail _ (.head _)))))).1.lt
        have htl := tabK_len HFg.out HFn.out k
        have HRel := Lib.hid (Release_any w.heap.size (tabK gs ns k) B bc m rA rd wr HRB.out l4 l3 hgr (by omega) hil (HFg.out.2.2.2.2 m hmem) (tabK_ok HFg.out HFn.out k))
        clear h1 h2 h3 hc l4 hmem
        go_wp2_with (go_at_call 17; (with_reducible refine HRel.out.mono ?_); refine halt_ ?_)
        intro e w10 h10
        obtain ⟨B2, b2, rfl, r10, hb10⟩ := tabP_of HT.out h10
        have SB := Lib.hid (SA.out.on hb10)
        have HR10 := Lib.hid r10
        clear HRel h10 r10 hb10 SA HRB c0 c1 HT
        go_wp2_with fail
        go_roundw
        case rel => exact ⟨k + 1, B2, b2, by omega, by go_num, rfl, rfl, HR10.out, SB.out⟩
        case measure => simp [intOf]; omega
      · obtain rfl : k = gs.length := by omega
        have hgr : w.heap.size < wr.heap.size := (SA.out.1.holds (tpOb w.heap.size A cap L n2) (.tail _ (.tail _ (.tail _ (.tail _ (.head _)))))).1.lt
        have htl := tabK_len HFg.out HFn.out gs.length
        have hEE : (E == E) = true := beq_self_eq_true E
        go_wp2_with (go_at_call 13; (with_reducible refine (known_any _).mono ?_); refine halt_ ?_)
        rintro e w10 ⟨rfl, hb10⟩
        have SB := Lib.hid (SA.out.on hb10)
        have HRB2 : Hid (RdC w10 w.heap.size B (tabK gs ns gs.length)) := HRB.out.on hb10
        have hg10 := Nat.lt_of_lt_of_le hgr hb10.size
        clear SA HRB hb10 hgr
        have HS1 := Lib.hid (SameIDs_any w10.heap.size w10.heap.size X X F1 F2 f1 f2 w10 (rdID_of (SB.out.1.holds (riOb F1 X) (.tail _ (.tail _ (.tail _ (.head _)))))) (rdID_of (SB.out.1.holds (riOb F2 X) (.tail _ (.tail _ (.head _))))) (by have := HXL.out; omega) (by have := HXL.out; omega))
        rw [decide_eq_true (p := X = X) rfl] at HS1
        go_wp2_with (go_at_call 18; (with_reducible refine HS1.out.mono ?_); refine halt_ ?_)
        rintro e w11 ⟨rfl, hb11⟩
        have SC := Lib.hid (SB.out.on hb11)
        have HRB3 : Hid (RdC w11 w.heap.size B (tabK gs ns gs.length)) := HRB2.out.on hb11
        have hg11 := Nat.lt_of_lt_of_le hg10 hb11.size
        clear SB HRB2 hb11 HS1 hg10
        have HD := Lib.hid (Dead_any w.heap.size (tabK gs ns gs.length) B bc w11 HRB3.out hg11 (by omega))
        rw [HYD.out] at HD
        go_wp2_with (go_at_call 19; (with_reducible refine HD.out.mono ?_); refine halt_ ?_)
        rintro e w12 ⟨DA2, d2, rfl, r12, hb12⟩
        have SD := Lib.hid (SC.out.on hb12)
        have HS2 := Lib.hid (SameIDs_any w12.heap.size w.heap.size Y Y F3 DA2 f3 d2 w12 (rdID_of (SD.out.1.holds (riOb F3 Y) (.tail _ (.head _)))) r12 (by have := HYL.out; omega) (by have := HYL.out; omega))
        rw [decide_eq_true (p := Y = Y) rfl] at HS2
        clear SC HRB3 hb12 HD hg11 r12
        go_wp2_with (go_at_call 18; (with_reducible refine HS2.out.mono ?_); refine halt_ ?_)
        rintro e w13 ⟨rfl, hb13⟩
        have SE := Lib.hid (SD.out.on hb13)
        clear SD hb13 HS2
        go_wp2_with fail
        go_ret
        exact ⟨rfl, SE.out.2⟩
theorem law4 {A : Option Addr} {L : List Int} {n : Nat} (e : L.length = n) (cap : Nat) {R : Option Addr} {ms : List Man} {q : Nat} (e2 : ms.length = q) (rc : Nat) (w : World) (hr : RdT w w.heap.size A L) (hm : RdM w w.heap.size R ms) (hl : n ≤ 9223372036854775807) (hq : q ≤ 9223372036854775807) (hmi : ∀ m ∈ ms, m.ids.length ≤ 9223372036854775807) :
    Calls Tryz.prog 4 #[.slice A n cap, .slice R q rc] w (fun e w' => e = .returned (.bool true) ∧ Below w.heap.size w w') := by
  subst e
  subst e2
  obtain ⟨rs, h1, h2, h3⟩ := hm
  have S0 := SW.startIn hr hl
  have S2 : SW w.heap.size w [imOb R rs ms, inOb A L] w := S0.also ⟨h1, h2, h3⟩ (fun _ h => h) (fun i hi => by
    rcases hi with ⟨hq, o, e⟩ | ⟨j, hj, hq, o, e⟩
    · obtain ⟨g, o2, e2, hb, _⟩ := h1 hq
      rw [e] at e2
      injection e2 with e2
      injection e2 with e2
      omega
    · obtain ⟨g, o2, e2, hb, _⟩ := (h3 j hj).2.2.2 hq
      rw [e] at e2
      injection e2 with e2
      injection e2 with e2
      omega) (fun i _ y hy => by
    rw [List.mem_singleton.1 hy]
    exact fun h => h)
  exact law4_any S2 (by simp) cap (rs := rs) (by simp) rc hq hmi

end
end Go.Proofs.YtmiknfneeipkeaaGreat
namespace Go.Proofs.YtmiknfneeipkeaaGreat
open Go.RowKit Go.ChangeShapes

theorem cell_lt {W : World} {b o : Nat} {v : Value} (h : W.cell? ⟨b, o, none⟩ = some v) : b < W.heap.size := by
  rcases Nat.lt_or_ge b W.heap.size with h1 | h1
  · exact h1
  · exfalso
    simp [World.cell?, Array.getElem?_eq_none h1] at h
theorem open_nums {H : Type} {enc : TypeId × Value → H} {W : World} {base : Nat} {spare : Nat → Bool} {held : Bool} {A : Option Addr} {len cap : Nat} {d : DataW H} {p : List MemPlace}
    (h : DataW.Trod enc Tryz.prog W base spare held 22 (.slice A len cap) d p) : ∃ xs : List Int, xs.length = len ∧ RdT W W.heap.size A xs ∧ len ≤ 9223372036854775807 := by
  obtain ⟨fuel, hf⟩ := h
  rcases Go.ChangeShapes.open_ints Tryz.underlying22 Tryz.underlying3 (by kernel_rfl) hf with ⟨hcs, _⟩ | ⟨a, l, c, zs, hcs, _, hl, hm, hz, _, hx, _⟩
  · simp [Value.cells] at hcs
    obtain ⟨rfl, rfl, rfl⟩ := hcs
    exact ⟨[], rfl, fun hp => absurd hp (by simp), by omega⟩
  · simp [Value.cells] at hcs
    obtain ⟨rfl, rfl, rfl⟩ := hcs
    have hlz : len ≤ zs.length := by rw [hz]; split <;> omega
    unfold maxLen at hm
    refine ⟨zs.take len, by rw [List.length_take]; omega, fun hp => ?_, by omega⟩
    have hp' : 0 < len := by rw [List.length_take] at hp; omega
    obtain ⟨b, off, spot⟩ := a
    have h0 := hx 0 (by omega)
    have hspot : spot = none := by simpa [Addr.add] using World.cell?_spot h0
    subst hspot
    have hadd : ∀ j, (⟨b, off, none⟩ : Addr).add j = ⟨b, off + j, none⟩ := fun j => by unfold Addr.add; split <;> simp_all
    rw [hadd] at h0
    refine ⟨b, off, rfl, cell_lt h0, fun j hj => ?_⟩
    rw [List.length_take] at hj
    have := hx j (by omega)
    rw [hadd] at this
    rw [this, List.getD_eq_getElem?_getD, List.getD_eq_getElem?_getD, List.getElem?_take_of_lt (by omega)]
theorem open_bytes {H : Type} {enc : TypeId × Value → H} {W : World} {base : Nat} {spare : Nat → Bool} {held : Bool} {A : Option Addr} {len cap : Nat} {d : DataW H} {p : List MemPlace}
    (h : DataW.Trod enc Tryz.prog W base spare held 40 (.slice A len cap) d p) : ∃ bs : List UInt8, bs.length = len ∧ (SB W A bs ∧ len ≤ cap ∧ (A = none → cap = 0)) ∧ len ≤ 9223372036854775807 := by
  obtain ⟨fuel, hf⟩ := h
  rcases Go.ChangeShapes.open_ints Tryz.underlying40 Tryz.underlying5 (by kernel_rfl) hf with ⟨hcs, _⟩ | ⟨a, l, c, zs, hcs, _, hl, hm, hz, _, hx, hwf⟩
  · simp [Value.cells] at hcs
    obtain ⟨rfl, rfl, rfl⟩ := hcs
    exact ⟨[], rfl, ⟨⟨fun _ => rfl, (fun ad e => by cases e)⟩, Nat.le_refl _, fun _ => rfl⟩, by omega⟩
  · simp [Value.cells] at hcs
    obtain ⟨rfl, rfl, rfl⟩ := hcs
    have hlz : len ≤ zs.length := by rw [hz]; split <;> omega
    unfold maxLen at hm
    refine ⟨(zs.take len).map (fun n => UInt8.ofNat n.toNat), by rw [List.length_map, List.length_take]; omega, ⟨⟨(fun e => by cases e), fun ad e j u hu => ?_⟩, hl, (fun e => by cases e)⟩, by omega⟩
    injection e with e
    subst e
    have hj : j < len := by
      have := (List.getElem?_eq_some_iff.1 hu).1
      simp at this
      omega
    rw [hx j (by omega)]
    rw [List.map_map, List.getElem?_map, List.getElem?_take_of_lt hj, List.getElem?_eq_getElem (by omega)] at hu
    have hm' := hwf zs[j] (List.getElem_mem (by omega))
    simp only [Lit.wf] at hm'
    rw [List.getD_eq_getElem?_getD, List.getElem?_eq_getElem (by omega), ← hu]
    simp only [Option.getD_some, Option.map_some, Function.comp_def, encU]
    have : 0 ≤ zs[j] ∧ zs[j] < 256 := by
      rw [Bool.and_eq_true, decide_eq_true_eq, decide_eq_true_eq, show IntKind.u8.min = 0 from rfl, show IntKind.u8.max = 255 from rfl] at hm'
      omega
    congr 2
    rw [UInt8.toNat_ofNat']
    omega
end Go.Proofs.YtmiknfneeipkeaaGreat
namespace Go.Proofs.YtmiknfneeipkeaaGreat
open Go.RowKit Go.ChangeShapes Go.Deep
theorem two_of {α : Type} {l : List α} (h : l.length = 2) : ∃ a b, l = [a, b] := by
  match l, h with
  | [a, b], _ => exact ⟨a, b, rfl⟩
theorem three_of {α : Type} {l : List α} (h : l.length = 3) : ∃ a b c, l = [a, b, c] := by
  match l, h with
  | [a, b, c], _ => exact ⟨a, b, c, rfl⟩

theorem open_list {α H : Type} {enc' : TypeId × Value → H} {W : World} {base : Nat} {spare : Nat → Bool} {held : Bool} {t e : TypeId} {A : Option Addr} {len cap : Nat} {d : DataW H} {p : List MemPlace} (enc : α → List Value) (k : Nat) (dd : α) (ht : Tryz.prog.underlying t = some (.slice e)) (ce : Tryz.prog.cellsOf e = k) (hk0 : 0 < k) (hk : ∀ y, (enc y).length = k) (ok : α → Prop)
    (elem : ∀ n cs x, DataW.trod enc' Tryz.prog W base spare held n e cs = some x → ∃ y, ok y ∧ cs = enc y)
    (h : DataW.Trod enc' Tryz.prog W base spare held t (.slice A len cap) d p) : ∃ xs : List α, xs.length = len ∧ Rd enc k dd W W.heap.size A xs ∧ (∀ y ∈ xs, ok y) ∧ len ≤ cap ∧ len ≤ 9223372036854775807 := by
  obtain ⟨fuel, hf⟩ := h
  rcases open_slice ht hf with ⟨hcs, _⟩ | ⟨a, l, c, m, n, D, Pl, hcs, hb, hl, hm, hmm, _, hx⟩
  · simp [Value.cells] at hcs
    obtain ⟨rfl, rfl, rfl⟩ := hcs
    exact ⟨[], rfl, Rd.nil, by simp, Nat.le_refl _, by omega⟩
  · simp [Value.cells] at hcs
    obtain ⟨rfl, rfl, rfl⟩ := hcs
    have hlm : len ≤ m := by rw [hmm]; split <;> omega
    unfold maxLen at hm
    have each : ∀ i, i < len → ∃ y, ok y ∧ ∀ j v, (enc y)[j]? = some v → W.cell? (a.add (i * k + j)) = some v := by
      intro i hi
      obtain ⟨cs', h1, h2⟩ := hx i (by omega)
      obtain ⟨y, hy, rfl⟩ := elem _ _ _ h2
      rw [ce] at h1
      obtain ⟨_, _, hcell⟩ := World.cells?_some h1
      refine ⟨y, hy, fun j v hv => ?_⟩
      have hj : j < k := by
        have := (List.getElem?_eq_some_iff.1 hv).1
        rwa [hk] at this
      have := hcell j hj
      rw [add_add] at this
      rw [this, hv]
    haveI : Inhabited α := ⟨dd⟩
    obtain ⟨q, hq⟩ := choose_lt each
    refine ⟨(List.range len).map q, by simp, fun hp => ?_, ?_, hl, by omega⟩
    · have hp' : 0 < len := by simpa using hp
      obtain ⟨b, off, spot⟩ := a
      have hne : 0 < (enc (q 0)).length := by rw [hk]; exact hk0
      have h0 := (hq 0 hp').2 0 _ (List.getElem?_eq_getElem hne)
      have hspot : spot = none := by simpa [Addr.add] using World.cell?_spot h0
      subst hspot
      have hadd : ∀ j, (⟨b, off, none⟩ : Addr).add j = ⟨b, off + j, none⟩ := fun j => by unfold Addr.add; split <;> simp_all
      rw [hadd] at h0
      have hbl := cell_lt h0
      refine ⟨b, off, rfl, hbl, by omega, fun j hj i v hi => ?_⟩
      have hj' : j < len := by simpa using hj
      have e9 : ((List.range len).map q).getD j dd = q j := by
        rw [List.getD_eq_getElem?_getD, List.getElem?_map, List.getElem?_range hj']; rfl
      rw [e9] at hi
      have := (hq j hj').2 i v hi
      rw [hadd] at this
      rw [Nat.add_assoc]
      exact this
    · intro y hy
      obtain ⟨i, hi, rfl⟩ := List.mem_map.1 hy
      exact (hq i (List.mem_range.1 hi)).1
theorem elem36 {H : Type} {enc' : TypeId × Value → H} {W : World} {base : Nat} {spare : Nat → Bool} {held : Bool} (n : Nat) (cs : List Value) (x : DataW H × List MemPlace) (h : DataW.trod enc' Tryz.prog W base spare held n 36 cs = some x) : ∃ y : ID, okID y ∧ cs = encID y := by
  obtain ⟨y0, y1, n', _, hl, h0, h1⟩ := trod_struct2 Tryz.underlying36 h
  rw [cellsOf36] at hl
  obtain ⟨v0, v1, rfl⟩ := two_of hl
  simp [cellsOf34, cellsOf3] at h0 h1
  obtain ⟨a, e0, w0⟩ := DataW.trod_int Tryz.underlying34 h0
  obtain ⟨b, e1, w1⟩ := DataW.trod_int Tryz.underlying3 h1
  simp at e0 e1
  subst e0 e1
  exact ⟨(a, b), ⟨w0.2, w1.2⟩, rfl⟩
theorem cellsOf125 : Tryz.prog.cellsOf 125 = 3 := by kernel_rfl
theorem cellsOf33 : Tryz.prog.cellsOf 33 = 2 := by kernel_rfl
theorem cellsOf31 : Tryz.prog.cellsOf 31 = 1 := by kernel_rfl
theorem elem125 {H : Type} {enc' : TypeId × Value → H} {W : World} {base : Nat} {spare : Nat → Bool} {held : Bool} (n : Nat) (cs : List Value) (x : DataW H × List MemPlace) (h : DataW.trod enc' Tryz.prog W base spare held n 125 cs = some x) : ∃ y : CT, okID y.1 ∧ cs = encC y := by
  obtain ⟨y0, y1, n', _, hl, h0, h1⟩ := trod_struct2 Tryz.underlying125 h
  rw [cellsOf125] at hl
  obtain ⟨v0, v1, v2, rfl⟩ := three_of hl
  simp [cellsOf36, cellsOf3] at h0 h1
  obtain ⟨i, hi, e0⟩ := elem36 _ _ _ h0
  obtain ⟨b, e1, w1⟩ := DataW.trod_int Tryz.underlying3 h1
  simp [encID] at e0 e1
  obtain ⟨rfl, rfl⟩ := e0
  subst e1
  exact ⟨(i, b), hi, rfl⟩
theorem open_counts {H : Type} {enc' : TypeId × Value → H} {W : World} {base : Nat} {spare : Nat → Bool} {held : Bool} {A : Option Addr} {len cap : Nat} {d : DataW H} {p : List MemPlace}
    (h : DataW.Trod enc' Tryz.prog W base spare held 49 (.slice A len cap) d p) : ∃ xs : List CT, xs.length = len ∧ RdC W W.heap.size A xs ∧ (∀ c ∈ xs, okID c.1) ∧ len ≤ cap ∧ len ≤ 9223372036854775807 :=
  open_list encC 3 ct0 Tryz.underlying49 cellsOf125 (by omega) encC_len (fun c => okID c.1) elem125 h
/-- A manifest as it lies, and what it is. -/
def MRis (W : World) (x : Nat) (r : MR) : Prop := ∃ m : Man, Link W x r m ∧ (∀ i ∈ m.ids, okID i) ∧ m.ids.length ≤ 9223372036854775807
theorem elem33 {H : Type} {enc' : TypeId × Value → H} {W : World} {base : Nat} {spare : Nat → Bool} {held : Bool} (n : Nat) (cs : List Value) (x : DataW H × List MemPlace) (h : DataW.trod enc' Tryz.prog W base spare held n 33 cs = some x) : ∃ y : MR, MRis W W.heap.size y ∧ cs = encMR y := by
  obtain ⟨y0, y1, n', _, hl, h0, h1⟩ := trod_struct2 Tryz.underlying33 h
  rw [cellsOf33] at hl
  obtain ⟨v0, v1, rfl⟩ := two_of hl
  simp [cellsOf31, cellsOf3] at h0 h1
  obtain ⟨a, e0, w0⟩ := DataW.trod_int Tryz.underlying3 h0
  simp at e0
  subst e0
  obtain ⟨A, len, cap, rfl⟩ : ∃ A len cap, v1 = .slice A len cap := by
    rcases open_slice Tryz.underlying31 h1 with ⟨hcs, _⟩ | ⟨a, l, c, m, n, D, Pl, hcs, _⟩
    · simp at hcs; exact ⟨none, 0, 0, hcs⟩
    · simp at hcs; exact ⟨some a, l, c, hcs⟩
  obtain ⟨xs, hx1, hx2, hx3, hx4, hx5⟩ := open_list (d := y1.1) (p := y1.2) encID 2 (0, 0) Tryz.underlying31 cellsOf36 (by omega) encID_len okID elem36 ⟨n', by simpa [Value.cells] using h1⟩
  exact ⟨⟨a, A, len, cap⟩, ⟨⟨a, xs⟩, ⟨rfl, hx1.symm, hx4, hx2⟩, hx3, by simp only [hx1]; exact hx5⟩, rfl⟩
theorem open_mans {H : Type} {enc' : TypeId × Value → H} {W : World} {base : Nat} {spare : Nat → Bool} {held : Bool} {A : Option Addr} {len cap : Nat} {d : DataW H} {p : List MemPlace}
    (h : DataW.Trod enc' Tryz.prog W base spare held 27 (.slice A len cap) d p) : ∃ ms : List Man, ms.length = len ∧ RdM W W.heap.size A ms ∧ (∀ m ∈ ms, m.ids.length ≤ 9223372036854775807) ∧ (∀ m ∈ ms, ∀ i ∈ m.ids, okID i) ∧ len ≤ cap ∧ len ≤ 9223372036854775807 := by
  obtain ⟨rs, h1, h2, h3, h4, h5⟩ := open_list encMR 2 mr0 Tryz.underlying27 cellsOf33 (by omega) encMR_len (MRis W W.heap.size) elem33 h
  have each : ∀ i, i < rs.length → ∃ m : Man, Link W W.heap.size (rs.getD i mr0) m ∧ (∀ i ∈ m.ids, okID i) ∧ m.ids.length ≤ 9223372036854775807 := fun i hi => h3 _ (getD_mem rs mr0 i hi)
  haveI : Inhabited Man := ⟨man0⟩
  obtain ⟨q, hq⟩ := choose_lt each
  have e9 : ∀ j, j < rs.length → ((List.range rs.length).map q).getD j man0 = q j := fun j hj => by
    rw [List.getD_eq_getElem?_getD, List.getElem?_map, List.getElem?_range hj]; rfl
  refine ⟨(List.range rs.length).map q, by simpa using h1, ⟨rs, h2, by simp, fun j hj => ?_⟩, ?_, ?_, h4, h5⟩
  · have hj' : j < rs.length := by simpa using hj
    rw [e9 j hj']
    exact (hq j hj').1
  · intro m hm
    obtain ⟨i, hi, rfl⟩ := List.mem_map.1 hm
    exact (hq i (List.mem_range.1 hi)).2.2
  · intro m hm
    obtain ⟨i, hi, rfl⟩ := List.mem_map.1 hm
    exact (hq i (List.mem_range.1 hi)).2.1
theorem open_id {H : Type} {enc' : TypeId × Value → H} {W : World} {base : Nat} {spare : Nat → Bool} {held : Bool} {v : Value} {d : DataW H} {p : List MemPlace}
    (h : DataW.Trod enc' Tryz.prog W base spare held 36 v d p) : ∃ s z : Int, v = .agg #[.int .u64 s, .int .i64 z] := by
  obtain ⟨fuel, hf⟩ := h
  obtain ⟨⟨s, z⟩, _, e⟩ := elem36 _ _ _ hf
  refine ⟨s, z, ?_⟩
  cases v with
  | agg xs =>
    simp only [Value.cells, encID] at e
    congr 1
    apply Array.ext'
    exact e
  | _ => simp [Value.cells, encID] at e
theorem open_ids {H : Type} {enc' : TypeId × Value → H} {W : World} {base : Nat} {spare : Nat → Bool} {held : Bool} {A : Option Addr} {len cap : Nat} {d : DataW H} {p : List MemPlace}
    (h : DataW.Trod enc' Tryz.prog W base spare held 31 (.slice A len cap) d p) : ∃ xs : List ID, xs.length = len ∧ RdID W W.heap.size A xs ∧ (∀ c ∈ xs, okID c) ∧ len ≤ cap ∧ len ≤ 9223372036854775807 :=
  open_list encID 2 (0, 0) Tryz.underlying31 cellsOf36 (by omega) encID_len okID elem36 h
end Go.Proofs.YtmiknfneeipkeaaGreat
