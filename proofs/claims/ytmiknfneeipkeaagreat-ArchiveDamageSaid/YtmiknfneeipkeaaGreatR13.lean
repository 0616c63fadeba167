/- Contracts of the walk, part 13. -/
import Derived.Test.YtmiknfneeipkeaaGreatR12
namespace Go.Proofs.YtmiknfneeipkeaaGreat
open Go.RowKit Go.MapKept Go.ChangeMaps Go.Shelf Go.Sort
def dd (l : List ID) : List ID := l.foldl (fun a x => if a.getLast? = some x then a else a ++ [x]) []
theorem dd_snoc (l : List ID) (x : ID) : dd (l ++ [x]) = if (dd l).getLast? = some x then dd l else dd l ++ [x] := by
  unfold dd
  rw [List.foldl_append]
  rfl
theorem snocRec {p : List ID → Prop} (h0 : p []) (h1 : ∀ l x, p l → p (l ++ [x])) (l : List ID) : p l := by
  have h : ∀ l : List ID, p l.reverse := fun l => by
    induction l with
    | nil => exact h0
    | cons x l ih =>
      rw [List.reverse_cons]
      exact h1 _ _ ih
  have := h l.reverse
  rwa [List.reverse_reverse] at this
theorem dd_last (l : List ID) : (dd l).getLast? = l.getLast? := by
  refine snocRec (p := fun l => (dd l).getLast? = l.getLast?) rfl (fun l x ih => ?_) l
  show (dd (l ++ [x])).getLast? = _
  rw [dd_snoc]
  split
  · rename_i h
    rw [h]
    simp
  · simp
theorem dd_mem (l : List ID) (i : ID) : i ∈ dd l ↔ i ∈ l := by
  refine snocRec (p := fun l => i ∈ dd l ↔ i ∈ l) (by simp [dd]) (fun l x ih => ?_) l
  show i ∈ dd (l ++ [x]) ↔ _
  rw [dd_snoc]
  split
  · rename_i h
    have hx : x ∈ l := by
      rw [dd_last] at h
      exact List.mem_of_getLast? h
    rw [ih]
    simp only [List.mem_append, List.mem_singleton]
    exact ⟨.inl, fun h => h.elim id (fun e => e ▸ hx)⟩
  · rw [List.mem_append, ih, List.mem_append]
theorem dd_len (l : List ID) : (dd l).length ≤ l.length := by
  refine snocRec (p := fun l => (dd l).length ≤ l.length) (Nat.le_refl _) (fun l x ih => ?_) l
  show (dd (l ++ [x])).length ≤ _
  rw [dd_snoc]
  split
  · simp; omega
  · simp; omega
theorem dd_snoc_same {l : List ID} {x : ID} (h : l.getLast? = some x) : dd (l ++ [x]) = dd l := by rw [dd_snoc, dd_last, if_pos h]
theorem dd_snoc_other {l : List ID} {x : ID} (h : l.getLast? ≠ some x) : dd (l ++ [x]) = dd l ++ [x] := by rw [dd_snoc, dd_last, if_neg h]
theorem dd_strict {l : List ID} : l.Pairwise (fun a b => ltOf cmpID b a = false) → (dd l).Pairwise (fun a b => ltID a b = true) := by
  refine snocRec (p := fun l => l.Pairwise (fun a b => ltOf cmpID b a = false) → (dd l).Pairwise (fun a b => ltID a b = true)) (fun _ => List.Pairwise.nil) (fun l x ih h => ?_) l
  · obtain ⟨h1, _, h3⟩ := List.pairwise_append.1 h
    show (dd (l ++ [x])).Pairwise _
    rw [dd_snoc]
    split
    · exact ih h1
    · rename_i hne
      refine List.pairwise_append.2 ⟨ih h1, List.pairwise_singleton _ _, fun a ha b hb => ?_⟩
      rw [List.mem_singleton.1 hb]
      have ha' := (dd_mem l a).1 ha
      have hle := h3 a ha' x (by simp)
      rw [lt_cmpID] at hle
      refine ltID_tri hle (fun e => ?_)
      -- x = a: then a is the last one
      subst e
      obtain ⟨b, hb⟩ : ∃ b, l.getLast? = some b := by
        cases hl : l.getLast? with
        | none => rw [List.getLast?_eq_none_iff] at hl; subst hl; cases ha'
        | some b => exact ⟨b, rfl⟩
      have hb2 := h3 b (List.mem_of_getLast? hb) x (by simp)
      rw [lt_cmpID] at hb2
      -- b is not above x, and x, which is in the list, is not above b
      have : ltID b x = false := by
        obtain ⟨l', rfl⟩ : ∃ l', l = l' ++ [b] := by
          rw [List.getLast?_eq_some_iff] at hb
          exact hb
        rcases List.mem_append.1 ha' with hm | hm
        · have := (List.pairwise_append.1 h1).2.2 x hm b (by simp)
          rwa [lt_cmpID] at this
        · rw [List.mem_singleton.1 hm]
          exact ltID_irrefl b
      rw [dd_last, hb] at hne
      refine hne ?_
      by_cases e : b = x
      · rw [e]
      · have := ltID_tri this e
        rw [this] at hb2
        cases hb2
theorem clear2 (w : World) (b o n c : Nat) (ty : TypeId) (hn : 0 < n) (hc : ∀ j, j < n * 2 → (w.cell? ⟨b, o + j, none⟩).isSome = true) (hf : ∀ j, j < n * 2 → w.frozen? ⟨b, o + j, none⟩ = false) :
    ∃ L : List Value, (Builtin.clear_ #[31] ty #[.slice (some ⟨b, o, none⟩) n c]).run Tryz.prog w = .ok (.tuple #[]) (w.setCells b o L) := by
  refine ⟨(Builtin.zeroCells #[.int .u64 0, .int .i64 0] n).toList, ?_⟩
  have hlen : (Builtin.zeroCells #[.int .u64 0, .int .i64 0] n).toList.length = n * 2 := by simp [Builtin.zeroCells]
  have h1 : ∀ v ∈ (Builtin.zeroCells #[.int .u64 0, .int .i64 0] n).toList, v.oneCell' = true := by
    intro v hv
    simp [Builtin.zeroCells] at hv
    obtain ⟨i, hi, rfl⟩ := hv
    have : i % 2 = 0 ∨ i % 2 = 1 := by omega
    rcases this with h | h <;> simp [h, Value.oneCell']
  have hst := run_storeCells_cells (P := Tryz.prog) b o (Builtin.zeroCells #[.int .u64 0, .int .i64 0] n).toList 0 w (by rw [hlen]; simpa using hc) (by rw [hlen]; simpa using hf) h1
  simp only [Nat.add_zero] at hst
  obtain ⟨m, rfl⟩ : ∃ m, n = m + 1 := ⟨n - 1, by omega⟩
  simp [Builtin.clear_, run_underlying Tryz.underlying31, Result.andThen, Value.cells, hst]
theorem grown_setCells {a : World} {g : Nat} : ∀ (vs : List Value) (o : Nat) (w : World), a.grownBy w (some g) → a.grownBy (w.setCells g o vs) (some g)
  | [], _, _, h => h
  | v :: r, o, _, h => grown_setCells r (o + 1) _ (g_set (p := ⟨g, o, none⟩) h (.inl rfl) v)
theorem isB_setCells {g : Nat} {t : TypeId} : ∀ (vs : List Value) (o : Nat) (w : World) (cs : Array Value), IsB w g t cs → ∃ cs', IsB (w.setCells g o vs) g t cs' ∧ cs'.size = cs.size
  | [], _, _, cs, h => ⟨cs, h, rfl⟩
  | v :: r, o, _, cs, h => by
    obtain ⟨cs', h1, h2⟩ := isB_setCells r (o + 1) _ _ (h.set_ o v)
    exact ⟨cs', h1, h2.trans (by simp)⟩
theorem RowI.cleared {w : World} {g : Nat} {X : List ID} (h : RowI w g X) {k : Nat} (hk : k ≤ X.length) (L : List Value) : RowI (w.setCells g (k * 2) L) g (X.take k) := by
  obtain ⟨cur, h1, h2, h3⟩ := h
  obtain ⟨cs', h4, h5⟩ := isB_setCells L (k * 2) w cur h1
  refine ⟨cs', h4, by rw [List.length_take, h5]; omega, fun j hj => ?_⟩
  rw [List.length_take] at hj
  have e1 : (X.take k).getD j id0 = X.getD j id0 := by rw [List.getD_eq_getElem?_getD, List.getElem?_take_of_lt (by omega), List.getD_eq_getElem?_getD]
  rw [e1]
  obtain ⟨c0, c1⟩ := h3 j (by omega)
  rw [← h4.cell, ← h4.cell, World.cell?_setCells_out g L (k * 2) w _ (fun _ _ => .inl (by simp only; omega)), World.cell?_setCells_out g L (k * 2) w _ (fun _ _ => .inl (by simp only; omega)), h1.cell, h1.cell]
  exact ⟨c0, c1⟩
theorem take_last {l : List ID} {k : Nat} (hk : k < l.length) : (l.take (k + 1)).getLast? = some (l.getD k id0) := by
  rw [take_snoc _ id0 _ hk]
  simp
set_option maxRecDepth 100000 in
set_option maxHeartbeats 8000000 in
theorem compact_any (g c : Nat) (xs : List ID) (w : World) (h : RowI w g xs) (hn : xs.length ≤ 4294967296) (hg : g < w.heap.size) (hc : xs.length ≤ c) :
    Calls Tryz.prog 83 #[.slice (some ⟨g, 0, none⟩) xs.length c] w (fun e w' => e = .returned (.slice (some ⟨g, 0, none⟩) (dd xs).length c) ∧ RowI w' g (dd xs) ∧ w.grownBy w' (some g)) := by
  have H := Lib.hid h
  clear h
  by_cases h2 : xs.length < 2
  · have hd : dd xs = xs := by
      match xs, h2 with
      | [], _ => rfl
      | [a], _ => rfl
      | a :: b :: l, h2 => simp at h2; omega
    rw [hd]
    clear hd
    generalize hN : xs.length = N at *
    go_enter Tryz.func83, Tryz.ntmps83
    go_wp2_with fail
    go_ret
    exact ⟨rfl, H.out, g_refl _ _⟩
  · have h2n : decide ((xs.length : Int) < 2) = false := decide_eq_false (by omega)
    go_enter Tryz.func83, Tryz.ntmps83
    go_wp2_with fail
    go_loopw [3] (fun v wr => ∃ k : Nat, 1 ≤ k ∧ k ≤ xs.length ∧ v = .int .i64 (k : Int) ∧ Hid (dd (xs.take k) = xs.take k) ∧ RowI wr g xs ∧ w.grownBy wr (some g)) (fun v _ => xs.length - (intOf v).toNat)
    case atStart =>
      refine ⟨1, Nat.le_refl _, by omega, rfl, ?_, H.out, g_refl _ _⟩
      match xs, h2 with
      | [], h2 => simp at h2
      | a :: l, _ => rfl
    case round =>
      obtain ⟨k, hk1, hk, rfl, HD, hr, hgr⟩ := hrel
      have RR := Lib.hid hr
      have GG := Lib.hid hgr
      clear hr hgr
      by_cases hlt : k < xs.length
      · obtain ⟨m, rfl⟩ : ∃ m, k = m + 1 := ⟨k - 1, by omega⟩
        obtain ⟨x, HX⟩ : ∃ x, Hid (xs.getD (m + 1) id0 = x) := ⟨_, rfl⟩
        obtain ⟨y, HY⟩ : ∃ y, Hid (xs.getD m id0 = y) := ⟨_, rfl⟩
        obtain ⟨a0, a1, _, _⟩ := RR.out.cells hlt HX.out
        obtain ⟨b0, b1, _, _⟩ := RR.out.cells (j := m) (by omega) HY.out
        have HLA : Hid ((xs.take (m + 1)).getLast? = some y) := by rw [Hid, take_last (by omega), HY.out]
        have HTS : Hid (xs.take (m + 1 + 1) = xs.take (m + 1) ++ [x]) := by rw [Hid, take_snoc _ id0 _ hlt, HX.out]
        by_cases he : x = y
        · subst he
          have HS : Hid (dd (xs.take (m + 1 + 1)) = xs.take (m + 1)) := by
            rw [Hid, HTS.out, dd_snoc_same HLA.out, HD.out]
          have hm0 : (m : Int) + 1 < (xs.length : Int) := by omega
          have hck : ¬ c = m + 1 := by omega
          go_wp2_with fail
          go_quiet (fail)
          have RR2 : Hid (RowI (wr.drewN nq) g xs) := RR.out.on (bdrewN (Below.refl _ _) _)
          have GG2 : Hid (w.grownBy (wr.drewN nq) (some g)) := g_drewN GG.out _
          clear a0 a1 b0 b1 RR GG
          generalize wr.drewN nq = wz at RR2 GG2 ⊢
          go_wp2_with fail
          rename World => wa
          go_loopw [3, 5] (fun v3 v5 wr => ∃ (p q : Nat) (X : List ID), m + 1 + (p + 1) ≤ xs.length ∧ v5 = .int .i64 ((p : Int) + 1) ∧ v3 = .int .i64 (q : Int) ∧ q ≤ m + 1 + p ∧ X.length = xs.length ∧ Hid (X.take q = dd (xs.take (m + 1 + (p + 1))) ∧ (dd (xs.take (m + 1 + (p + 1)))).length = q) ∧ Hid (∀ j, m + 1 + p ≤ j → j < xs.length → X.getD j id0 = xs.getD j id0) ∧ RowI wr g X ∧ w.grownBy wr (some g)) (fun _ v _ => xs.length - (intOf v).toNat)
          case atStart => exact ⟨0, m + 1, xs, by omega, rfl, by go_num, by omega, rfl, ⟨HS.out.symm, by rw [HS.out, List.length_take]; omega⟩, fun _ _ _ => rfl, RR2.out, GG2.out⟩
          case round =>
            obtain ⟨p, q, X, hp, rfl, rfl, hq, hX, HT, HO, hr, hgr⟩ := hrel
            have R3 := Lib.hid hr
            have G3 := Lib.hid hgr
            have HXL := Lib.hid hX
            clear hr hgr RR2 GG2
            by_cases hlt2 : m + 1 + (p + 1) < xs.length
            · obtain ⟨y2, HY2⟩ : ∃ y2, Hid (xs.getD (m + 1 + (p + 1)) id0 = y2) := ⟨_, rfl⟩
              obtain ⟨z2, HZ2⟩ : ∃ z2, Hid (xs.getD (m + 1 + p) id0 = z2) := ⟨_, rfl⟩
              obtain ⟨a0, a1, _, _⟩ := R3.out.cells (j := m + 1 + (p + 1)) (by omega) ((HO.out _ (by omega) hlt2).trans HY2.out)
              obtain ⟨b0, b1, _, _⟩ := R3.out.cells (j := m + 1 + p) (by omega) ((HO.out _ (by omega) (by omega)).trans HZ2.out)
              have HLA2 : Hid ((xs.take (m + 1 + (p + 1))).getLast? = some z2) := by
                rw [Hid, show m + 1 + (p + 1) = m + 1 + p + 1 by omega, take_last (by omega), HZ2.out]
              have HTS2 : Hid (xs.take (m + 1 + (p + 1 + 1)) = xs.take (m + 1 + (p + 1)) ++ [y2]) := by
                rw [Hid, show m + 1 + (p + 1 + 1) = m + 1 + (p + 1) + 1 by omega, take_snoc _ id0 _ hlt2, HY2.out]
              rw [show (m + 1 + (p + 1)) * 2 = (m + 1) * 2 + (p + 1) * 2 by omega] at a0 a1
              rw [show (m + 1 + p) * 2 = (m + 1) * 2 + p * 2 by omega] at b0 b1
              have hi1 : (p : Int) + 1 < ((xs.length - (m + 1) : Nat) : Int) := by omega
              have hi2 : (p : Int) < ((xs.length - (m + 1) : Nat) : Int) := by omega
              clear hX
              by_cases he : y2 = z2
              · subst he
                have HT2 : Hid (X.take q = dd (xs.take (m + 1 + (p + 1 + 1))) ∧ (dd (xs.take (m + 1 + (p + 1 + 1)))).length = q) := by
                  rw [Hid, HTS2.out, dd_snoc_same HLA2.out]
                  exact HT.out
                go_wp2_with fail
                go_quiet (fail)
                go_wp2_with fail
                go_roundw
                case rel => exact ⟨p + 1, q, X, by omega, by go_num, rfl, by omega, HXL.out, HT2, fun j h1 h2 => HO.out j (by omega) h2, R3.out.on (bdrewN (Below.refl _ _) _), g_drewN G3.out _⟩
                case measure => simp [intOf]; omega
              · have HT2 : Hid ((X.set q y2).take (q + 1) = dd (xs.take (m + 1 + (p + 1 + 1))) ∧ (dd (xs.take (m + 1 + (p + 1 + 1)))).length = q + 1) := by
                  rw [Hid, HTS2.out, dd_snoc_other (by rw [HLA2.out]; intro e; injection e with e; exact he e.symm)]
                  refine ⟨?_, by rw [List.length_append, HT.out.2]; rfl⟩
                  rw [take_snoc _ id0 _ (by rw [List.length_set, HXL.out]; omega), List.take_set_of_le (Nat.le_refl _), HT.out.1, List.getD_eq_getElem?_getD, List.getElem?_set_self (by rw [HXL.out]; omega)]
                  rfl
                have hcase : (y2.1 == z2.1) = false ∨ ((y2.1 == z2.1) = true ∧ (y2.2 == z2.2) = false) := by
                  by_cases e0 : y2.1 = z2.1
                  · refine .inr ⟨beq_iff_eq.2 e0, beq_eq_false_iff_ne.2 (fun e1 => he (Prod.ext e0 e1))⟩
                  · exact .inl (beq_eq_false_iff_ne.2 e0)
                clear he
                rcases hcase with hne | ⟨hne1, hne⟩
                all_goals (
                  go_wp2_with fail
                  go_quiet (fail)
                  have R4 : Hid (RowI (wr.drewN nq) g X) := R3.out.on (bdrewN (Below.refl _ _) _)
                  have G4 : Hid (w.grownBy (wr.drewN nq) (some g)) := g_drewN G3.out _
                  clear a0 a1 b0 b1 R3 G3
                  generalize wr.drewN nq = wy at R4 G4 ⊢
                  obtain ⟨a0, a1, _, _⟩ := R4.out.cells (j := m + 1 + (p + 1)) (by rw [HXL.out]; omega) ((HO.out _ (by omega) hlt2).trans HY2.out)
                  obtain ⟨d0, d1, f0, f1⟩ := R4.out.cells (j := q) (by rw [HXL.out]; omega) rfl
                  rw [show (m + 1 + (p + 1)) * 2 = (m + 1) * 2 + (p + 1) * 2 by omega] at a0 a1
                  have hi3 : (q : Int) < (xs.length : Int) := by omega
                  go_wp2_with fail
                  go_roundw
                  case rel =>
                    refine ⟨p + 1, q + 1, X.set q y2, by omega, by go_num, by go_num, by omega, by rw [List.length_set]; exact HXL.out, HT2, fun j h1 h2 => ?_, R4.out.put q (by rw [HXL.out]; omega) y2, ?_⟩
                    · have := HO.out j (by omega) h2
                      rw [List.getD_eq_getElem?_getD, List.getElem?_set_ne (by omega), ← List.getD_eq_getElem?_getD]
                      exact this
                    · have hgg := g_set (p := ⟨g, q * 2 + 1, none⟩) (g_set (p := ⟨g, q * 2, none⟩) G4.out (.inl rfl) (.int .u64 y2.1)) (.inl rfl) (.int .i64 y2.2)
                      exact ⟨hgg.os, hgg.tape, hgg.output, hgg.size, hgg.block⟩
                  case measure => simp [intOf]; omega)
            · obtain hpe : m + 1 + (p + 1) = xs.length := by omega
              have hT := HT.out
              rw [hpe, List.take_length] at hT
              have HT3 := Lib.hid hT
              have hi2 : ¬ ((p : Int) + 1 < ((xs.length - (m + 1) : Nat) : Int)) := by omega
              clear hT hX
              have hcq : ¬ c = q := by omega
              obtain ⟨L, hL⟩ := clear2 wr g (q * 2) (xs.length - q) (c - q) 0 (by omega) (fun j hj => by
                obtain ⟨c0, c1, _, _⟩ := R3.out.cells (j := q + j / 2) (by rw [HXL.out]; omega) rfl
                have : j % 2 = 0 ∨ j % 2 = 1 := by omega
                rcases this with e | e
                · rw [show q * 2 + j = (q + j / 2) * 2 by omega, c0]; rfl
                · rw [show q * 2 + j = (q + j / 2) * 2 + 1 by omega, c1]; rfl) (fun j hj => by
                obtain ⟨_, _, c0, c1⟩ := R3.out.cells (j := q + j / 2) (by rw [HXL.out]; omega) rfl
                have : j % 2 = 0 ∨ j % 2 = 1 := by omega
                rcases this with e | e
                · rw [show q * 2 + j = (q + j / 2) * 2 by omega, c0]
                · rw [show q * 2 + j = (q + j / 2) * 2 + 1 by omega, c1])
              have hcl2 : ∀ ty, (Builtin.clear_ #[31] ty #[.slice (some ⟨g, q * 2, none⟩) (xs.length - q) (c - q)]).run Tryz.prog wr = .ok (.tuple #[]) (wr.setCells g (q * 2) L) := fun _ => hL
              have RC : Hid (RowI (wr.setCells g (q * 2) L) g (dd xs)) := by
                have := R3.out.cleared (k := q) (by rw [HXL.out]; omega) L
                rwa [HT3.out.1] at this
              have GC : Hid (w.grownBy (wr.setCells g (q * 2) L) (some g)) := grown_setCells _ _ _ G3.out
              have hql : q ≤ xs.length := by omega
              have hqc : q ≤ c := by omega
              clear hL
              go_wp2_with fail
              go_ret
              exact ⟨by rw [HT3.out.2]; rfl, RC.out, GC.out⟩
        · have HN : Hid (dd (xs.take (m + 1 + 1)) = xs.take (m + 1 + 1)) := by
            rw [Hid, HTS.out, dd_snoc_other (by rw [HLA.out]; intro e; injection e with e; exact he e.symm), HD.out]
          have hcase : (x.1 == y.1) = false ∨ ((x.1 == y.1) = true ∧ (x.2 == y.2) = false) := by
            by_cases e0 : x.1 = y.1
            · refine .inr ⟨beq_iff_eq.2 e0, beq_eq_false_iff_ne.2 (fun e1 => he (Prod.ext e0 e1))⟩
            · exact .inl (beq_eq_false_iff_ne.2 e0)
          clear he
          have hm0 : (m : Int) + 1 < (xs.length : Int) := by omega
          rcases hcase with hne | ⟨hne1, hne⟩
          all_goals (
            go_wp2_with fail
            go_quiet (fail)
            go_wp2_with fail
            go_roundw
            case rel => exact ⟨m + 1 + 1, by omega, by omega, by go_num, HN, RR.out.on (bdrewN (Below.refl _ _) _), g_drewN GG.out _⟩
            case measure => simp [intOf]; omega)
      · obtain rfl : k = xs.length := by omega
        have hd := HD.out
        rw [List.take_length] at hd
        have HD2 := Lib.hid hd
        clear hd
        go_wp2_with fail
        go_ret
        exact ⟨by rw [HD2.out]; rfl, by rw [HD2.out]; exact RR.out, GG.out⟩
end Go.Proofs.YtmiknfneeipkeaaGreat
