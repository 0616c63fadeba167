/- Contracts: the maker of tables. -/
import Derived.Test.YtjglpmcekbjoaaaXC
namespace Go.Proofs.Ytjglpmcekbjoaaa
open Go.RowKit Go.MapKept Go.ChangeMaps
attribute [local go_sem] wext_cell

theorem okID_of {s z : Int} (h : 0 ≤ s ∧ s < 18446744073709551616 ∧ -9223372036854775808 ≤ z ∧ z < 9223372036854775808) : okID (s, z) := by
  simp [okID, Lit.wf, IntKind.min, IntKind.max, IntKind.signed, IntKind.bits]
  omega
theorem few_ok {i : ID} (h : Few i) : okID i := by
  obtain ⟨s, z⟩ := i
  unfold Few at h
  simp only at h
  exact okID_of (by omega)
/-- The rows made so far, all ahead of (s, z). -/
def GoodT (out : List CT) (s z : Int) : Prop := (out.length : Int) ≤ 2 * (s - 1) + (z - 1) ∧ Asc out ∧ ∀ c ∈ out, rowB c = true ∧ okID c.1 ∧ ltID c.1 (s, z) = true
theorem GoodT.nil : GoodT [] 1 1 := ⟨by simp, List.Pairwise.nil, by simp⟩
theorem GoodT.skip {out : List CT} {s z : Int} (h : GoodT out s z) : GoodT out s (z + 1) := by
  obtain ⟨h1, h2, h3⟩ := h
  refine ⟨by omega, h2, fun c hc => ?_⟩
  obtain ⟨a, b, d⟩ := h3 c hc
  refine ⟨a, b, ?_⟩
  simp [ltID] at d ⊢
  omega
theorem GoodT.row {out : List CT} {s : Int} (h : GoodT out s 3) : GoodT out (s + 1) 1 := by
  obtain ⟨h1, h2, h3⟩ := h
  refine ⟨by omega, h2, fun c hc => ?_⟩
  obtain ⟨a, b, d⟩ := h3 c hc
  refine ⟨a, b, ?_⟩
  simp [ltID] at d ⊢
  omega
theorem GoodT.add {out : List CT} {s z n : Int} (h : GoodT out s z) (hs : 1 ≤ s ∧ s ≤ 4) (hz : 1 ≤ z ∧ z ≤ 2) (hn : 0 ≤ n ∧ n ≤ 1073741824) : GoodT (out ++ [((s, z), n)]) s (z + 1) := by
  obtain ⟨h1, h2, h3⟩ := h
  refine ⟨by simp; omega, ?_, fun c hc => ?_⟩
  · refine List.pairwise_append.2 ⟨h2, by simp, fun a ha b hb => ?_⟩
    simp at hb
    subst hb
    exact (h3 a ha).2.2
  · rcases List.mem_append.1 hc with hc | hc
    · obtain ⟨a, b, d⟩ := h3 c hc
      refine ⟨a, b, ?_⟩
      simp [ltID] at d ⊢
      omega
    · simp at hc
      subst hc
      refine ⟨?_, okID_of (by omega), ?_⟩
      · simp [rowB, chunkB, validB]
        omega
      · simp [ltID]
        omega
theorem GoodT.tbl {out : List CT} {s z : Int} (h : GoodT out s z) (hs : s ≤ 5) (hz : z ≤ 3) : tblE out = 0 := by
  obtain ⟨h1, h2, h3⟩ := h
  exact (tblE_iff out).2 ⟨by omega, h2, fun c hc => (h3 c hc).1⟩
def TabPost (wrong : Bool) (x N : Nat) (w : World) (e : Ending) (w' : World) : Prop :=
  ∃ (t : List CT) (A : Option Addr) (c : Nat), (∀ c ∈ t, okID c.1) ∧ t.length ≤ 9 ∧ (wrong = false → tblE t = 0) ∧ e = .returned (.slice A t.length c) ∧ RdC w' x A t ∧ t.length ≤ c ∧ Tp w' x (N + 40) ∧ w.grownBy w' (some x)
def TabIn (x N : Nat) (w : World) (s z : Nat) (v5 : Value) (wr : World) : Prop :=
  ∃ (out : List CT) (A : Option Addr) (c : Nat), v5 = .slice A out.length c ∧ GoodT out s z ∧ wr.ownsRow w.heap.size 66 3 (.slice A out.length c) out.length (out.flatMap encC) ∧ Tp wr x (N + 4 * (2 * (s - 1) + (z - 1))) ∧ w.grownBy wr (some x)
theorem tab_end {wrong : Bool} {x N M : Nat} {w wr : World} {t : List CT} {A : Option Addr} {c : Nat} (h1 : ∀ c ∈ t, okID c.1) (h2 : t.length ≤ 9) (h3 : wrong = false → tblE t = 0) (h4 : wr.ownsRow w.heap.size 66 3 (.slice A t.length c) t.length (t.flatMap encC)) (hx : x < w.heap.size) (h5 : Tp wr x M) (hM : M ≤ N + 40) (h6 : w.grownBy wr (some x)) : TabPost wrong x N w (.returned (.slice A t.length c)) wr :=
  ⟨t, A, c, h1, h2, h3, rfl, (Rd.of_own encC_len (by omega) h4 hx).2, own_cap h4, h5.more hM, h6⟩
theorem flat_set1 {xs : List CT} {k : Nat} {p q n : Int} (h : xs[k]? = some ((p, q), n)) (q' : Int) : (xs.flatMap encC).set (k * 3 + 1) (.int .i64 q') = (xs.set k ((p, q'), n)).flatMap encC := by
  induction xs generalizing k with
  | nil => simp at h
  | cons c xs ih =>
    cases k with
    | zero => simp at h; subst h; simp [encC]
    | succ k =>
      simp only [List.getElem?_cons_succ] at h
      have := ih h
      rw [List.flatMap_cons, List.set_cons_succ, List.flatMap_cons, ← this, show (k + 1) * 3 + 1 = k * 3 + 1 + 3 by omega]
      simp [encC]
theorem set_ok {t : List CT} (h : ∀ c ∈ t, okID c.1) (k : Nat) {c : CT} (hc : okID c.1) : ∀ d ∈ t.set k c, okID d.1 := by
  intro d hd
  rcases List.mem_or_eq_of_mem_set hd with hd | rfl
  · exact h d hd
  · exact hc

set_option maxRecDepth 100000 in
set_option maxHeartbeats 8000000 in
theorem tabM_any (wrong : Bool) (x N : Nat) (w : World) (hN : N ≤ 900000) (ht : Tp w x N) :
    Calls Try.prog 21 #[.pointer (some ⟨x, 0, none⟩), .bool wrong] w (TabPost wrong x N w) := by
  obtain ⟨i0, hi, hz0, hz1, hz2⟩ := info_parts info66
  have Ht := Lib.hid ht
  have hxlt := ht.lt
  clear ht
  go_enter Try.func21, Try.ntmps21
  go_wp2_with fail
  go_loopw [5, 6] (fun v5 v6 wr => ∃ s : Nat, 1 ≤ s ∧ s ≤ 5 ∧ v6 = .int .i64 s ∧ TabIn x N w s 1 v5 wr) (fun _ v6 _ => 5 - (intOf v6).toNat)
  case atStart => exact ⟨1, by omega, by omega, rfl, [], none, 0, rfl, GoodT.nil, World.ownsRow_nil _ _ _ _, Ht.out, g_refl _ _⟩
  case round =>
    obtain ⟨s, hs1, hs5, rfl, out, A, c, rfl, hgood, hown, htp, hg⟩ := hrel
    have Hgood := Lib.hid hgood
    have Hown := Lib.hid hown
    have Htp := Lib.hid htp
    have Hg := Lib.hid hg
    clear hgood hown htp hg
    by_cases hlt : s < 5
    · rename World => wa
      have hds : decide ((s : Int) < 5) = true := by simp; omega
      go_wp2_with fail
      go_loopw [5, 7] (fun v5 v7 wr => ∃ z : Nat, 1 ≤ z ∧ z ≤ 3 ∧ v7 = .int .i64 z ∧ TabIn x N w s z v5 wr) (fun _ v7 _ => 3 - (intOf v7).toNat)
      case atStart => exact ⟨1, by omega, by omega, rfl, out, A, c, rfl, Hgood.out, Hown.out, Htp.out, Hg.out⟩
      case round =>
        obtain ⟨z, hz1', hz3, rfl, out, A, c, rfl, hgood, hown, htp, hg⟩ := hrel
        have hgl := hgood.1
        have Hgood := Lib.hid hgood
        have Hown := Lib.hid hown
        have Htp := Lib.hid htp
        have Hg := Lib.hid hg
        clear hgood hown htp hg
        by_cases hlz : z < 3
        · go_wp2_with fail
          refine (Next_any 2 x _ _ (by omega) (by omega) Htp.out).mono ?_
          rintro e w1 ⟨r1, hr1, rfl, ht1, hg1⟩
          have Ht1 := Lib.hid ht1
          have Ho1 := Lib.hid (own_x Hown.out hg1 hxlt)
          have Hg1 := Lib.hid (g_trans Hg.out hg1)
          clear ht1 hg1
          by_cases hr0 : r1 = 0
          · have hb0 : (r1 == 0) = true := by rw [beq_iff_eq]; exact hr0
            clear hr0 hr1
            go_wp2_with fail
            refine (Next_any 4 x _ _ (by omega) (by omega) Ht1.out).mono ?_
            rintro e w2 ⟨r2, hr2, rfl, ht2, hg2⟩
            obtain ⟨p1, p2, _⟩ := hr2
            have p3 := p2 (by omega)
            have Ht2 := Lib.hid ht2
            have Ho2 := Lib.hid (own_x Ho1.out hg2 hxlt)
            have Hg2 := Lib.hid (g_trans Hg1.out hg2)
            clear ht2 hg2 p2
            go_wp2_with fail
            refine (Next_any 12 x _ _ (by omega) (by omega) Ht2.out).mono ?_
            rintro e w3 ⟨r3, hr3, rfl, ht3, hg3⟩
            have Ht3 := Lib.hid ht3
            have Ho3 := Lib.hid (own_x Ho2.out hg3 hxlt)
            have Hg3 := Lib.hid (g_trans Hg2.out hg3)
            clear ht3 hg3
            by_cases hr30 : r3 = 0
            · have hb30 : (r3 == 0) = true := by rw [beq_iff_eq]; exact hr30
              clear hr30 hr3
              go_wp2_with fail
              refine (Next_any 2 x _ _ (by omega) (by omega) Ht3.out).mono ?_
              rintro e w4 ⟨r4, hr4, rfl, ht4, hg4⟩
              obtain ⟨q1, q2, _⟩ := hr4
              have q3 := q2 (by omega)
              have Ht4 := Lib.hid ht4
              have Ho4 := Lib.hid (own_x Ho3.out hg4 hxlt)
              have Hg4 := Lib.hid (g_trans Hg3.out hg4)
              have hs4 := Hg4.out.size
              clear ht4 hg4 q2
              go_wp2_with (at_builtin; refine halt_ ?_)
              unfold Hid
              refine wpList_append_lies _ rfl _ _ _ rfl w.heap.size 66 i0 _ 3 24 Try.underlying28 hi hz0 hz1 hz2 rfl (by decide) _ out.length _ rfl (Ho4.out.alloc _) ⟨w4.heap.size, 0, none⟩ 1 1 [.int .u64 s, .int .i64 z, .int .i64 (1073741824 - r4)] rfl rfl (three_new _ _ _ _ _ _ (by simp)) (encC_one ((s, z), 1073741824 - r4)) (by omega) (by unfold maxLen; omega) (by omega) (by simp; omega) (w4.heap.size + 1) (by simp) ?_
              intro g5 c5 w5 hown5 hgrow5 hat5 hlt5
              have K5 := Lib.hid hown5
              have G5 : Hid (w.grownBy w5 (some x)) := g_own (g_alloc Hg4.out _) hgrow5 (Ho4.out.alloc _) (Nat.le_refl _)
              have T5 : Hid (Tp w5 x _) := (Ht4.out.alloc _).kept hgrow5 (fun k hk => by have := (Ho4.out.lt k hk).1; omega)
              clear hown5 hgrow5 hat5
              go_wp2_with fail
              go_roundw
              case rel =>
                refine ⟨z + 1, by omega, by omega, by go_num, out ++ [(((s : Int), (z : Int)), 1073741824 - r4)], some ⟨g5, 0, none⟩, c5, by simp, ?_, ?_, T5.out.more (by omega), G5.out⟩
                · have := Hgood.out.add (n := 1073741824 - r4) (by omega) (by omega) (by omega)
                  simpa using this
                · rw [List.length_append, List.flatMap_append]
                  exact K5.out
              case measure => simp [intOf]; omega
            · have hb30 : (r3 == 0) = false := by rw [beq_eq_false_iff_ne]; exact hr30
              have hs3 := Hg3.out.size
              clear hr30 hr3
              go_wp2_with (at_builtin; refine halt_ ?_)
              unfold Hid
              refine wpList_append_lies _ rfl _ _ _ rfl w.heap.size 66 i0 _ 3 24 Try.underlying28 hi hz0 hz1 hz2 rfl (by decide) _ out.length _ rfl (Ho3.out.alloc _) ⟨w3.heap.size, 0, none⟩ 1 1 [.int .u64 s, .int .i64 z, .int .i64 r2] rfl rfl (three_new _ _ _ _ _ _ (by simp)) (encC_one ((s, z), r2)) (by omega) (by unfold maxLen; omega) (by omega) (by simp; omega) (w3.heap.size + 1) (by simp) ?_
              intro g5 c5 w5 hown5 hgrow5 hat5 hlt5
              have K5 := Lib.hid hown5
              have G5 : Hid (w.grownBy w5 (some x)) := g_own (g_alloc Hg3.out _) hgrow5 (Ho3.out.alloc _) (Nat.le_refl _)
              have T5 : Hid (Tp w5 x _) := (Ht3.out.alloc _).kept hgrow5 (fun k hk => by have := (Ho3.out.lt k hk).1; omega)
              clear hown5 hgrow5 hat5
              go_wp2_with fail
              go_roundw
              case rel =>
                refine ⟨z + 1, by omega, by omega, by go_num, out ++ [(((s : Int), (z : Int)), r2)], some ⟨g5, 0, none⟩, c5, by simp, ?_, ?_, T5.out.more (by omega), G5.out⟩
                · have := Hgood.out.add (n := r2) (by omega) (by omega) (by omega)
                  simpa using this
                · rw [List.length_append, List.flatMap_append]
                  exact K5.out
              case measure => simp [intOf]; omega
          · have hb0 : (r1 == 0) = false := by rw [beq_eq_false_iff_ne]; exact hr0
            clear hr0 hr1
            go_wp2_with fail
            go_roundw
            case rel => exact ⟨z + 1, by omega, by omega, by go_num, out, A, c, rfl, by have := Hgood.out.skip; simpa using this, Ho1.out, Ht1.out.more (by omega), Hg1.out⟩
            case measure => simp [intOf]; omega
        · obtain rfl : z = 3 := by omega
          go_wp2_with fail
          go_roundw
          case rel => exact ⟨s + 1, by omega, by omega, by go_num, out, A, c, rfl, by have := GoodT.row (s := s) Hgood.out; simpa using this, Hown.out, Htp.out.more (by omega), Hg.out⟩
          case measure => simp [intOf]; omega
    · obtain rfl : s = 5 := by omega
      have Hall : Hid (∀ c ∈ out, okID c.1) := fun c hc => (Hgood.out.2.2 c hc).2.1
      have hlen : out.length ≤ 8 := by have := Hgood.out.1; omega
      have Htbl : Hid (tblE out = 0) := Hgood.out.tbl (by omega) (by omega)
      have hsg := Hg.out.size
      cases wrong with
      | false =>
        go_wp2_with fail
        go_ret
        exact tab_end Hall.out (by omega) (fun _ => Htbl.out) Hown.out hxlt Htp.out (by omega) Hg.out
      | true =>
        by_cases h0 : 0 < out.length
        · have hd0 : decide (0 < out.length) = true := by simp; omega
          obtain ⟨g, cap, hv, hgb, hgl⟩ := Hown.out.form h0
          injection hv with hv1 hv2 hv3
          subst hv1 hv3
          clear hv2
          go_wp2_with fail
          refine (Next_any out.length x _ _ (by omega) (by omega) Htp.out).mono ?_
          rintro e w1 ⟨rk, hrk, rfl, ht1, hg1⟩
          have hrk' : 0 ≤ rk ∧ rk < out.length := by
            obtain ⟨a, b, d⟩ := hrk
            by_cases h1 : 1 < (out.length : Int)
            · exact ⟨a, b h1⟩
            · rw [d (by omega)]; omega
          obtain ⟨k, rfl⟩ : ∃ k : Nat, rk = k := ⟨rk.toNat, by omega⟩
          have hk : k < out.length := by omega
          have Ht1 := Lib.hid ht1
          have Ho1 := Lib.hid (own_x Hown.out hg1 hxlt)
          have Hg1 := Lib.hid (g_trans Hg.out hg1)
          clear ht1 hg1 hrk hrk'
          go_wp2_with fail
          refine (Next_any 9 x _ _ (by omega) (by omega) Ht1.out).mono ?_
          rintro e w2 ⟨r2, hr2, rfl, ht2, hg2⟩
          have Ht2 := Lib.hid ht2
          have Ho2 := Lib.hid (own_x Ho1.out hg2 hxlt)
          have Hg2 := Lib.hid (g_trans Hg1.out hg2)
          have hs2 := Hg2.out.size
          obtain ⟨p0, q0, n0, HJ⟩ : ∃ p0 q0 n0, Hid (out.getD k ct0 = ((p0, q0), n0)) := ⟨_, _, _, rfl⟩
          have HJ' : Hid (out[k]? = some ((p0, q0), n0)) := by
            have := HJ.out
            unfold Hid
            rw [List.getD_eq_getElem?_getD, List.getElem?_eq_getElem hk] at this
            rw [List.getElem?_eq_getElem hk]
            simpa using this
          have Hok0 : Hid (okID (p0, q0)) := Hall.out _ (List.mem_of_getElem? HJ'.out)
          have cellAt : ∀ (W : World), W.ownsRow w.heap.size 66 3 (.slice (some ⟨g, 0, none⟩) out.length c) out.length (out.flatMap encC) → ∀ i v, i < 3 → (encC ((p0, q0), n0))[i]? = some v → W.cell? ⟨g, k * 3 + i, none⟩ = some v := by
            intro W hW i v hi3 hv
            rw [hW.cellAt (k * 3 + i) (by omega), flat_at encC_len ct0 _ k i hk hi3, HJ.out]
            exact hv
          have Hcell := Lib.hid cellAt
          clear ht2 hg2 cellAt hr2
          have d0 : w2.cell? ⟨g, k * 3, none⟩ = some (.int .u64 p0) := Hcell.out _ Ho2.out 0 _ (by omega) rfl
          have d1 : w2.cell? ⟨g, k * 3 + 1, none⟩ = some (.int .i64 q0) := Hcell.out _ Ho2.out 1 _ (by omega) rfl
          have d2 : w2.cell? ⟨g, k * 3 + 2, none⟩ = some (.int .i64 n0) := Hcell.out _ Ho2.out 2 _ (by omega) rfl
          have f1 : w2.frozen? ⟨g, k * 3 + 1, none⟩ = false := Ho2.out.frozenAt _
          have f2 : w2.frozen? ⟨g, k * 3 + 2, none⟩ = false := Ho2.out.frozenAt _
          have setN : ∀ n' : Int, TabPost true x N w (.returned (.slice (some ⟨g, 0, none⟩) out.length c)) (w2.setCell ⟨g, k * 3 + 2, none⟩ (.int .i64 n')) := by
            intro n'
            have h1 := (Ho2.out.stored (k * 3 + 2) (.int .i64 n')).1
            rw [flat_set HJ'.out] at h1
            have hl : (out.set k ((p0, q0), n')).length = out.length := by simp
            have := tab_end (wrong := true) (N := N) (set_ok Hall.out k (c := ((p0, q0), n')) Hok0.out) (by rw [hl]; omega) (by simp) (by rw [hl]; exact h1) hxlt (Ht2.out.set_ (p := ⟨g, k * 3 + 2, none⟩) (by simp; omega) (.int .i64 n')) (by omega) (g_set Hg2.out (.inr (by simpa using hgb)) _)
            rwa [hl] at this
          have HsetN := Lib.hid setN
          clear setN
          by_cases e0 : r2 = 0
          · subst e0
            go_wp2_with fail
            go_ret
            exact HsetN.out _
          · have b0 : (r2 == 0) = false := by rw [beq_eq_false_iff_ne]; exact e0
            by_cases e1 : r2 = 1
            · subst e1
              clear e0 b0
              go_wp2_with fail
              go_ret
              exact HsetN.out _
            · have b1 : (r2 == 1) = false := by rw [beq_eq_false_iff_ne]; exact e1
              by_cases e2 : r2 = 2
              · subst e2
                clear e0 e1 b0 b1
                go_wp2_with fail
                refine (Next_any 2 x _ _ (by omega) (by omega) Ht2.out).mono ?_
                rintro e w3 ⟨r3, hr3, rfl, ht3, hg3⟩
                obtain ⟨q1, q2, _⟩ := hr3
                have q3 := q2 (by omega)
                have Ht3 := Lib.hid ht3
                have Ho3 := Lib.hid (own_x Ho2.out hg3 hxlt)
                have Hg3 := Lib.hid (g_trans Hg2.out hg3)
                have d1 : w3.cell? ⟨g, k * 3 + 1, none⟩ = some (.int .i64 q0) := Hcell.out _ Ho3.out 1 _ (by omega) rfl
                have f1 : w3.frozen? ⟨g, k * 3 + 1, none⟩ = false := Ho3.out.frozenAt _
                clear ht3 hg3 q2
                have fin : TabPost true x N w (.returned (.slice (some ⟨g, 0, none⟩) out.length c)) (w3.setCell ⟨g, k * 3 + 1, none⟩ (.int .i64 (r3 * 8193))) := by
                  have h1 := (Ho3.out.stored (k * 3 + 1) (.int .i64 (r3 * 8193))).1
                  rw [flat_set1 HJ'.out] at h1
                  have hl : (out.set k ((p0, r3 * 8193), n0)).length = out.length := by simp
                  have hok : okID (p0, r3 * 8193) := ⟨Hok0.out.1, by simp [Lit.wf, IntKind.min, IntKind.max, IntKind.signed, IntKind.bits]; omega⟩
                  have := tab_end (wrong := true) (N := N) (set_ok Hall.out k (c := ((p0, r3 * 8193), n0)) hok) (by rw [hl]; omega) (by simp) (by rw [hl]; exact h1) hxlt (Ht3.out.set_ (p := ⟨g, k * 3 + 1, none⟩) (by simp; omega) (.int .i64 (r3 * 8193))) (by omega) (g_set Hg3.out (.inr (by simpa using hgb)) _)
                  rwa [hl] at this
                have Fin := Lib.hid fin
                clear fin
                go_wp2_with fail
                go_ret
                exact Fin.out
              · have b2 : (r2 == 2) = false := by rw [beq_eq_false_iff_ne]; exact e2
                by_cases e3 : r2 = 3
                · subst e3
                  clear e0 e1 e2 b0 b1 b2
                  go_wp2_with (at_builtin; refine halt_ ?_)
                  unfold Hid
                  refine wpList_append_lies _ rfl _ _ _ rfl w.heap.size 66 i0 _ 3 24 Try.underlying28 hi hz0 hz1 hz2 rfl (by decide) _ out.length _ rfl (Ho2.out.alloc _) ⟨w2.heap.size, 0, none⟩ 1 1 [.int .u64 p0, .int .i64 q0, .int .i64 n0] rfl rfl (three_new _ _ _ _ _ _ (by simp)) (encC_one ((p0, q0), n0)) (by omega) (by unfold maxLen; omega) (by omega) (by simp; omega) (w2.heap.size + 1) (by simp) ?_
                  intro g5 c5 w5 hown5 hgrow5 hat5 hlt5
                  have K5 := Lib.hid hown5
                  have G5 : Hid (w.grownBy w5 (some x)) := g_own (g_alloc Hg2.out _) hgrow5 (Ho2.out.alloc _) (Nat.le_refl _)
                  have T5 : Hid (Tp w5 x _) := (Ht2.out.alloc _).kept hgrow5 (fun k hk => by have := (Ho2.out.lt k hk).1; omega)
                  clear hown5 hgrow5 hat5
                  go_wp2_with fail
                  go_ret
                  have hl : (out ++ [((p0, q0), n0)]).length = out.length + 1 := by simp
                  have := tab_end (wrong := true) (N := N) (t := out ++ [((p0, q0), n0)]) (A := some ⟨g5, 0, none⟩) (c := c5) (fun c hc => by
                    rcases List.mem_append.1 hc with hc | hc
                    · exact Hall.out c hc
                    · simp at hc; subst hc; exact Hok0.out) (by rw [hl]; omega) (by simp) (by rw [hl, List.flatMap_append]; exact K5.out) hxlt T5.out (by omega) G5.out
                  rw [hl] at this
                  exact this
                · have b3 : (r2 == 3) = false := by rw [beq_eq_false_iff_ne]; exact e3
                  clear e0 e1 e2 e3
                  go_wp2_with fail
                  go_ret
                  exact tab_end Hall.out (by omega) (by simp) Ho2.out hxlt Ht2.out (by omega) Hg2.out
        · have hd0 : decide (0 < out.length) = false := decide_eq_false h0
          have H9 : Hid (out.length ≤ 9) := by unfold Hid; omega
          go_wp2_with fail
          go_ret
          exact tab_end Hall.out H9.out (by simp) Hown.out hxlt Htp.out (by omega) Hg.out
end Go.Proofs.Ytjglpmcekbjoaaa
