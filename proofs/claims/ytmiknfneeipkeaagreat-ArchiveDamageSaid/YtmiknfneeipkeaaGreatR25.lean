/- Contracts of the walk, part 25. -/
import Derived.Test.YtmiknfneeipkeaaGreatR24
import Derived.Test.YtmiknfneeipkeaaGreatR20
import Derived.Test.YtmiknfneeipkeaaGreatR23
namespace Go.Proofs.YtmiknfneeipkeaaGreat
open Go.RowKit Go.MapKept Go.ChangeMaps Go.Shelf Go.Sort
attribute [local go_sem] wext_cell
def mansL (bs : List UInt8) : Nat → Nat → Option (List Man × Nat)
  | 0, k => some ([], k)
  | n + 1, k => match oneM (bs.drop k) with
    | some (m, j) => (mansL bs n (k + j)).map (fun p => (m :: p.1, p.2))
    | none => none
def rdMans (bs : List UInt8) : Option (List Man × Nat) :=
  if volMk <+: bs then match takeU 0 0 (bs.drop 4) with
    | some (v, n) => mansL bs v (4 + n)
    | none => none
  else none
theorem takeU_lt : ∀ (bs : List UInt8) (i v x n : Nat), i ≤ 9 → v < 128 ^ i → takeU i v bs = some (x, n) → x < 18446744073709551616 := by
  intro bs
  induction bs with
  | nil => intro i v x n _ _ h; cases h
  | cons c r ih =>
    intro i v x n hi hv h
    rw [takeU] at h
    by_cases h9 : i = 9 ∧ c.toNat ≠ 1
    · rw [if_pos h9] at h; cases h
    · rw [if_neg h9] at h
      have h91 : i = 9 → c.toNat = 1 := fun e => by
        apply Classical.byContradiction
        intro hn
        exact h9 ⟨e, hn⟩
      by_cases hc : 128 ≤ c.toNat
      · rw [if_pos hc] at h
        have hi9 : i ≠ 9 := fun e => by have := h91 e; omega
        refine ih (i + 1) _ x n (by omega) ?_ h
        have h2 : c.toNat % 128 * 128 ^ i ≤ 127 * 128 ^ i := Nat.mul_le_mul_right _ (by omega)
        rw [Nat.pow_succ]
        omega
      · rw [if_neg hc] at h
        by_cases hz : c.toNat = 0 ∧ 0 < i
        · rw [if_pos hz] at h; cases h
        · rw [if_neg hz] at h
          injection h with h
          injection h with h1 _
          rw [← h1]
          exact (or_add v i (c.toNat % 128) hv hi (by omega) (fun e => by have := h91 e; omega)).2.1
theorem oneM_pos {bs : List UInt8} {m : Man} {k : Nat} (h : oneM bs = some (m, k)) : 0 < k := by
  unfold oneM at h
  split at h
  · rename_i v n ht
    split at h
    · cases h
    · have h1 := takeU_le _ _ _ _ _ ht
      obtain ⟨m', _, e⟩ := Option.map_eq_some_iff.1 h
      injection e with e1 e2
      omega
  · cases h
theorem row_cap {w : World} {e : TypeId} {size n q c : Nat} {D : Option Addr} {xs : List Value} (h : w.ownsRow 0 e size (.slice D q c) n xs) : n ≤ c := by
  rcases h.2 with ⟨hv, h0⟩ | ⟨g, cap, cur, hv, _, _, hnc, _⟩
  · omega
  · injection hv with e1 e2 e3
    omega
section
variable {b : Nat} {w0 w w' : World} {l : List Ob}
abbrev MansP (A : Option Addr) (c : Nat) (bs : List UInt8) (b : Nat) (w0 : World) (l : List Ob) (e : Ending) (w' : World) : Prop :=
  (∃ ms k rs D dc A' c', rdMans bs = some (ms, k) ∧ k ≤ bs.length ∧ e = .returned (.tuple #[.slice D ms.length dc, .slice A' (bs.length - k) c', .bool true]) ∧ (∀ W, Vw W A c bs → Vw W A' c' (bs.drop k)) ∧ (∀ i, (rsOb A' (bs.drop k)).rd i → (rsOb A bs).rd i) ∧ SW b w0 (rowOb 33 2 (.slice D ms.length dc) ms.length (rs.flatMap encMR) :: msOb rs ms :: l) w') ∨
  (rdMans bs = none ∧ (∃ v1 v2, e = .returned (.tuple #[v1, v2, .bool false])) ∧ SW b w0 l w')
set_option maxRecDepth 100000 in
set_option maxHeartbeats 8000000 in
theorem readMans_any (h : SW b w0 l w) {A : Option Addr} {c : Nat} {bs : List UInt8} (hr : rsOb A bs ∈ l) (hv : (A = none → c = 0) ∧ bs.length ≤ c ∧ bs.length ≤ 9223372036854775807) (hbl : bs.length ≤ 1000000000) :
    Calls Tryz.prog 113 #[.slice A bs.length c] w (MansP A c bs b w0 l) := by
  have HR := Lib.hid hr
  have HV := Lib.hid hv
  have S0 := Lib.hid h
  have HM := Lib.hid (readMark_any A c bs w (h.view hr hv))
  clear h hr hv
  go_enter Tryz.func113, Tryz.ntmps113
  go_wp2_with (go_at_call 146; (with_reducible refine HM.out.mono ?_); refine halt_ ?_)
  rintro e w1 ⟨hb1, ⟨hp, rfl⟩ | ⟨hp, v, rfl⟩⟩
  · have S1 := Lib.hid (S0.out.on hb1)
    have HP := Lib.hid hp
    have hl4 : 4 ≤ bs.length := hp.length_le
    have hV1 := (S1.out.view HR.out HV.out).drop 4 hl4
    obtain ⟨B, HB⟩ : ∃ x, Hid (cutA A 4 c = x) := ⟨_, rfl⟩
    obtain ⟨cB, HCB⟩ : ∃ x, Hid (c - 4 = x) := ⟨_, rfl⟩
    obtain ⟨r4, HR4⟩ : ∃ x, Hid (bs.drop 4 = x) := ⟨_, rfl⟩
    rw [HB.out, HCB.out, HR4.out] at hV1 ⊢
    have HU := Lib.hid (readUint_any B cB r4 w1 hV1)
    have HVB : Hid (∀ W, Vw W A c bs → Vw W B cB r4) := fun W h => by rw [← HB.out, ← HCB.out, ← HR4.out]; exact h.drop 4 hl4
    clear hp hb1 S0 HM hV1
    go_wp2_with (go_at_call 147; (with_reducible refine HU.out.mono ?_); refine halt_ ?_)
    rintro e w2 ⟨hb2, ⟨v, n, ht, hn, rfl⟩ | ⟨ht, rfl⟩⟩
    · have S2 := Lib.hid ((SW.noMans (S1.out.on hb2)).newRow 33 2)
      have HT := Lib.hid ht
      have HK0 : Hid (4 + n ≤ bs.length) := by
        have h1 := congrArg List.length HR4.out
        rw [List.length_drop] at h1
        rw [Hid]
        omega
      obtain ⟨A2, HA2⟩ : ∃ x, Hid (cutA B n cB = x) := ⟨_, rfl⟩
      obtain ⟨c2, HC2⟩ : ∃ x, Hid (cB - n = x) := ⟨_, rfl⟩
      obtain ⟨r2, HR2⟩ : ∃ x, Hid (r4.drop n = x) := ⟨_, rfl⟩
      have HD2 : Hid (bs.drop (4 + n) = r2) := by rw [Hid, ← HR2.out, ← HR4.out, List.drop_drop]
      have HV2 : Hid (∀ W, Vw W A c bs → Vw W A2 c2 r2) := fun W h => by
        rw [← HA2.out, ← HC2.out, ← HR2.out]
        exact (HVB.out W h).drop n hn
      have HS2 : Hid (∀ i, (rsOb A2 r2).rd i → (rsOb A bs).rd i) := fun i hi => by
        rw [← HA2.out, ← HR2.out] at hi
        have h1 := cutA_rd hi hn
        rw [← HB.out, ← HR4.out] at h1
        exact cutA_rd h1 hl4
      rw [HA2.out, HC2.out, HR2.out]
      have hv64 := takeU_lt _ _ _ _ _ (by omega) (by decide) ht
      clear hb2 S1 HU ht hn hl4 HA2 HC2 HR2
      go_wp2_with fail
      obtain ⟨im, mi, mz0, mz1, mz2⟩ := info_parts info33'
      go_loopw [0, 5, 6, 7] (fun s0 s5 s6 s7 wr => (∃ (r k : Nat) (ms : List Man) (rs : List MR) (D A' : Option Addr) (dc c' : Nat) (rest : List UInt8), r ≤ v ∧ s6 = .int .u64 (r : Int) ∧ s0 = .slice A' rest.length c' ∧ s5 = .bool true ∧ s7 = .slice D ms.length dc ∧ k ≤ bs.length ∧ ms.length ≤ k ∧ Hid (bs.drop k = rest) ∧ Hid (mansL bs v (4 + n) = (mansL bs r k).map (fun p => (ms ++ p.1, p.2))) ∧ Hid (∀ W, Vw W A c bs → Vw W A' c' rest) ∧ Hid (∀ i, (rsOb A' rest).rd i → (rsOb A bs).rd i) ∧ SW b w0 (rowOb 33 2 (.slice D ms.length dc) ms.length (rs.flatMap encMR) :: msOb rs ms :: l) wr) ∨ (∃ (r : Nat) (A' D : Option Addr) (n' c' dn dc : Nat), r ≤ v ∧ s6 = .int .u64 (r : Int) ∧ s0 = .slice A' n' c' ∧ s5 = .bool false ∧ s7 = .slice D dn dc ∧ Hid (rdMans bs = none) ∧ SW b w0 l wr)) (fun _ _ s6 _ _ => (intOf s6).toNat)
      case atStart => exact .inl ⟨v, 4 + n, [], [], none, A2, 0, c2, r2, Nat.le_refl _, rfl, rfl, rfl, rfl, HK0.out, by simp, HD2.out, by rw [Hid]; simp, HV2.out, HS2.out, S2.out⟩
      case round =>
        rcases hrel with ⟨r, k, ms, rs, D, A', dc, c', rest, hrv, rfl, rfl, rfl, rfl, hk, hmk, HRE, HML, HVW, HSU, hs⟩ | ⟨r, A', D, n', c', dn, dc, hrv, rfl, rfl, rfl, rfl, HNO, hs⟩
        · have S3 := Lib.hid hs
          clear hs S2
          by_cases hr0 : 0 < r
          · obtain ⟨r, rfl⟩ : ∃ r', r = r' + 1 := ⟨r - 1, by omega⟩
            have S4 := Lib.hid (S3.out.newCell 33 #[.int .i64 0, .slice none 0 0])
            have hvr := HVW.out _ (S4.out.view (.tail _ (.tail _ (.tail _ HR.out))) HV.out)
            have S5 := Lib.hid (rs_sub S4.out (.tail _ (.tail _ (.tail _ HR.out))) hvr.1 HSU.out)
            have HO := Lib.hid (readMan_any S5.out (.head _) hvr.2)
            clear hvr S4 S3
            rename World => wa
            go_wp2_with (go_at_call 148; (with_reducible refine HO.out.mono ?_); refine halt_ ?_)
            rintro e w3 (⟨m, k1, D1, d1, A3, c3, hone, hk1, rfl, hv3, hs3, t3⟩ | ⟨hone, ⟨v1, A3, n3, c3, rfl, rfl⟩, t3⟩)
            · have HON := Lib.hid hone
              have S6 := Lib.hid t3
              clear hone t3 S5 HO
              have m0 := (S6.out.cell 2 rfl).cell 0
              have m1 := (S6.out.cell 2 rfl).cell 1
              have mz := fun o => (S6.out.cell 2 rfl).frozen o
              obtain ⟨r3, HR3⟩ : ∃ x, Hid (rest.drop k1 = x) := ⟨_, rfl⟩
              rw [HR3.out] at hv3 hs3 ⊢
              go_upto_region 10 with fail
              have S7 := Lib.hid ((S6.out.setAt 2 rfl 0 (.int .i64 m.size)).setAt 2 rfl 1 (.slice D1 m.ids.length d1))
              clear m0 m1 mz S6
              obtain ⟨w4, HW⟩ : ∃ W, Hid ((w3.setCell ⟨wa.heap.size, 0, none⟩ (.int .i64 m.size)).setCell ⟨wa.heap.size, 1, none⟩ (.slice D1 m.ids.length d1) = W) := ⟨_, rfl⟩
              obtain ⟨gm, HGM⟩ : ∃ x, Hid (wa.heap.size = x) := ⟨_, rfl⟩
              rw [HW.out, HGM.out] at S7 ⊢
              clear HW HGM
              have S8 := Lib.hid (S7.out.newCell 33 #[.int .i64 m.size, .slice D1 m.ids.length d1])
              have m0 := (S7.out.cell 2 rfl).cell 0
              have m1 := (S7.out.cell 2 rfl).cell 1
              go_wp2_with (at_builtin; (refine wpList_rowS (t := 27) (e := 33) (size := 2) (bytes := 32) (i := im) S8.out 4 rfl (by rfl) (.tmp 35) (.tmp 37) (by rfl) Tryz.underlying27 mi mz0 mz1 mz2 rfl (by omega) (by rfl) ⟨w4.heap.size, 0, none⟩ 1 [.int .i64 m.size, .slice D1 m.ids.length d1] (by rfl) rfl (fun j u hu => by rw [lit_add, Nat.zero_add, (S8.out.cell 0 rfl).cell, ← Array.getElem?_toList]; exact hu) (fun u hu => by simp only [List.mem_cons, List.not_mem_nil, or_false] at hu; rcases hu with rfl | rfl <;> rfl) (by unfold maxLen; omega) (by omega) ?_); refine halt_ ?_)
              intro v9 w9 s9
              obtain ⟨g9, c9, rfl⟩ := own_some (s9.get 4 rfl) (by omega)
              have S9 := Lib.hid s9
              clear s9 S7 S8 m0 m1
              have HRI : Hid (SW b w0 (rowOb 33 2 (.slice (some ⟨g9, 0, none⟩) (ms ++ [m]).length c9) (ms ++ [m]).length ((rs ++ [(⟨m.size, D1, m.ids.length, d1⟩ : MR)]).flatMap encMR) :: msOb (rs ++ [⟨m.size, D1, m.ids.length, d1⟩]) (ms ++ [m]) :: l) w9) := by
                have hl1 : m.ids.length ≤ d1 := row_cap (S9.out.get 1 (o := rowOb 36 2 (.slice D1 m.ids.length d1) m.ids.length (m.ids.flatMap encID)) rfl)
                have h1 := SW.rowRi (SW.few (pre := [_, _, _, _, _, _]) S9.out [1, 5, 4] (n := 6) rfl (by decide) (by decide))
                have h2 := SW.fuseM (z := m.size) (c := d1) h1 hl1
                have h3 := SW.front (pre := [_, _]) h2 [1, 0] (n := 2) rfl (by decide)
                rw [Hid, List.length_append, List.flatMap_append]
                exact h3
              have HML2 : Hid (mansL bs v (4 + n) = (mansL bs r (k + k1)).map (fun p => ((ms ++ [m]) ++ p.1, p.2))) := by
                rw [Hid, HML.out, mansL, HRE.out, HON.out]
                simp [Function.comp_def]
              have HD3 : Hid (bs.drop (k + k1) = r3) := by rw [Hid, ← HR3.out, ← HRE.out, List.drop_drop]
              have HKL : Hid (k + k1 ≤ bs.length) := by
                have h1 := congrArg List.length HRE.out
                rw [List.length_drop] at h1
                rw [Hid]
                omega
              have HK1 : Hid (0 < k1) := oneM_pos HON.out
              have HLN : Hid (ms.length + 1 = (ms ++ [m]).length) := by rw [Hid, List.length_append]; rfl
              go_wp2_with fail
              go_roundw
              case rel => exact .inl ⟨r, k + k1, ms ++ [m], rs ++ [⟨m.size, D1, m.ids.length, d1⟩], some ⟨g9, 0, none⟩, A3, c9, c3, r3, by omega, by go_num, (by rfl), (by rfl), (by rw [← HLN.out]), HKL.out, by rw [← HLN.out]; have := HK1.out; omega, HD3.out, HML2.out, fun W h => hv3 W (HVW.out W h), fun i hi => HSU.out i (hs3 i hi), HRI.out⟩
              case measure => simp [intOf]
            · have HNO : Hid (rdMans bs = none) := by
                have HON := Lib.hid hone
                rw [Hid, rdMans, if_pos HP.out, HR4.out, HT.out]
                simp only
                rw [HML.out, mansL, HRE.out, HON.out]
                rfl
              have S6 := Lib.hid t3
              clear hone t3 S5 HO
              have m0 := (S6.out.cell 1 rfl).cell 0
              have m1 := (S6.out.cell 1 rfl).cell 1
              have mz := fun o => (S6.out.cell 1 rfl).frozen o
              go_upto_region 10 with fail
              have S7 := Lib.hid ((S6.out.setAt 1 rfl 0 (.int .i64 0)).setAt 1 rfl 1 (.slice none 0 0))
              clear m0 m1 mz S6
              obtain ⟨w4, HW⟩ : ∃ W, Hid ((w3.setCell ⟨wa.heap.size, 0, none⟩ (.int .i64 0)).setCell ⟨wa.heap.size, 1, none⟩ (.slice none 0 0) = W) := ⟨_, rfl⟩
              obtain ⟨gm, HGM⟩ : ∃ x, Hid (wa.heap.size = x) := ⟨_, rfl⟩
              rw [HW.out, HGM.out] at S7 ⊢
              clear HW HGM
              have S8 := Lib.hid (S7.out.newCell 33 #[.int .i64 0, .slice none 0 0])
              have m0 := (S7.out.cell 1 rfl).cell 0
              have m1 := (S7.out.cell 1 rfl).cell 1
              go_wp2_with (at_builtin; (refine wpList_rowS (t := 27) (e := 33) (size := 2) (bytes := 32) (i := im) S8.out 3 rfl (by rfl) (.tmp 35) (.tmp 37) (by rfl) Tryz.underlying27 mi mz0 mz1 mz2 rfl (by omega) (by rfl) ⟨w4.heap.size, 0, none⟩ 1 [.int .i64 0, .slice none 0 0] (by rfl) rfl (fun j u hu => by rw [lit_add, Nat.zero_add, (S8.out.cell 0 rfl).cell, ← Array.getElem?_toList]; exact hu) (fun u hu => by simp only [List.mem_cons, List.not_mem_nil, or_false] at hu; rcases hu with rfl | rfl <;> rfl) (by unfold maxLen; omega) (by omega) ?_); refine halt_ ?_)
              intro v9 w9 s9
              obtain ⟨g9, c9, rfl⟩ := own_some (s9.get 3 rfl) (by omega)
              have S9 := Lib.hid (SW.sub s9 (.cons _ (.cons _ (.cons _ (.cons _ (.cons _ (List.Sublist.refl _)))))))
              clear s9 S7 S8 m0 m1
              go_wp2_with fail
              go_roundw
              case rel => exact .inr ⟨r, A3, some ⟨g9, 0, none⟩, n3, c3, _, c9, by omega, by go_num, (by rfl), (by rfl), (by rfl), HNO, S9.out⟩
              case measure => simp [intOf]
          · obtain rfl : r = 0 := by omega
            have HYE : Hid (rdMans bs = some (ms, k)) := by
              rw [Hid, rdMans, if_pos HP.out, HR4.out, HT.out]
              simp only
              rw [HML.out, mansL]
              simp
            have HRL : Hid (rest.length = bs.length - k) := by rw [Hid, ← HRE.out, List.length_drop]
            go_wp2_with fail
            go_ret3
            refine .inl ⟨ms, k, rs, D, dc, A', c', HYE.out, hk, by rw [HRL.out]; rfl, ?_, ?_, S3.out⟩
            · rw [HRE.out]; exact HVW.out
            · rw [HRE.out]; exact HSU.out
        · have S3 := Lib.hid hs
          clear hs S2
          go_wp2_with fail
          go_ret3
          exact .inr ⟨HNO.out, ⟨_, _, rfl⟩, S3.out⟩
    · have S2 := Lib.hid (S1.out.on hb2)
      have HN : Hid (rdMans bs = none) := by rw [Hid, rdMans, if_pos HP.out, HR4.out, ht]
      clear hb2 S1 HU ht
      go_wp2_with fail
      go_loopw [0, 5, 6, 7] (fun s0 s5 s6 s7 wr => s6 = .int .u64 ((0 : Nat) : Int) ∧ s0 = .slice none 0 0 ∧ s5 = .bool false ∧ s7 = .slice none 0 0 ∧ SW b w0 l wr) (fun _ _ s6 _ _ => (intOf s6).toNat)
      case atStart => exact ⟨rfl, rfl, rfl, rfl, S2.out⟩
      case round =>
        obtain ⟨rfl, rfl, rfl, rfl, hs⟩ := hrel
        have S3 := Lib.hid hs
        clear hs S2
        go_wp2_with fail
        go_ret3
        exact .inr ⟨HN.out, ⟨_, _, rfl⟩, S3.out⟩
  · have HN : Hid (rdMans bs = none) := by rw [Hid, rdMans, if_neg hp]
    have S1 := Lib.hid (S0.out.on hb1)
    clear hp hb1 S0 HM
    go_wp2_with fail
    go_ret3
    exact .inr ⟨HN.out, ⟨_, _, rfl⟩, S1.out⟩
end
end Go.Proofs.YtmiknfneeipkeaaGreat
namespace Go.Proofs.YtmiknfneeipkeaaGreat
open Go.RowKit Go.MapKept Go.ChangeMaps Go.Shelf Go.Sort
attribute [local go_sem] wext_cell
abbrev rdrOb (g : Nat) (A : Option Addr) (n c k : Nat) (X Y : Value) : Ob := cellOb g 231 #[.slice A n c, .int .i64 (k : Int), X, Y]
theorem RS.drewN {w : World} {A : Option Addr} {bs : List UInt8} (h : RS w A bs) (m : Nat) : RS (w.drewN m) A bs := h
section
variable {b : Nat} {w0 w w' : World} {l : List Ob}
theorem SW.drewN (h : SW b w0 l w) (m : Nat) : SW b w0 l (w.drewN m) := h.on (bdrewN (Below.refl _ _) m)
abbrev PUintP (g : Nat) (A : Option Addr) (c k : Nat) (bs : List UInt8) (X Y : Value) (b : Nat) (w0 : World) (l : List Ob) (e : Ending) (w' : World) : Prop :=
  (∃ v n, takeU 0 0 (bs.drop k) = some (v, n) ∧ k + n ≤ bs.length ∧ e = .returned (.tuple #[.int .u64 (v : Int), .bool true]) ∧ SW b w0 (rdrOb g A bs.length c (k + n) X Y :: l) w') ∨
  (takeU 0 0 (bs.drop k) = none ∧ e = .returned (.tuple #[.int .u64 0, .bool false]) ∧ SW b w0 (rdrOb g A bs.length c k X Y :: l) w')
set_option maxRecDepth 100000 in
set_option maxHeartbeats 8000000 in
theorem pUint_any {g : Nat} {A : Option Addr} {c k : Nat} {bs : List UInt8} {X Y : Value} (h : SW b w0 (rdrOb g A bs.length c k X Y :: l) w) (hr : rsOb A bs ∈ l) (hv : (A = none → c = 0) ∧ bs.length ≤ c ∧ bs.length ≤ 9223372036854775807) (hk : k ≤ bs.length) :
    Calls Tryz.prog 198 #[vPtr g] w (PUintP g A c k bs X Y b w0 l) := by
  have S0 := Lib.hid h
  have hR : RS w A bs := h.1.holds (rsOb A bs) (.tail _ hr)
  have HU := Lib.hid (fun m => codecUintQ_any A c bs k (w.drewN m) (hR.drewN m) hv.1 hv.2.1 hv.2.2 hk)
  have a0 := (h.cell 0 rfl).cell 0
  have a1 := (h.cell 0 rfl).cell 1
  have az := fun o => (h.cell 0 rfl).frozen o
  have HK := Lib.hid hk
  clear h hR hv hk
  cases ht : takeU 0 0 (bs.drop k) with
  | none =>
    have HC : Hid (∀ m, Calls Tryz.prog 193 #[.slice A bs.length c, .int .i64 (k : Int)] (w.drewN m) (fun e w' => e = .returned (.tuple #[.int .u64 0, .int .i64 0, .int .i64 (takeE 0 (bs.drop k))]) ∧ w' = w.drewN m)) := fun m => (HU.out m).mono fun e w' h => by
      obtain ⟨rfl, ⟨v', n', h1, _⟩ | ⟨h1, rfl⟩⟩ := h
      · rw [ht] at h1; cases h1
      · exact ⟨rfl, rfl⟩
    have hq : (takeE 0 (bs.drop k) != 0) = true := by rw [bne_iff_ne]; exact takeE_ne _ _
    obtain ⟨q, HQ⟩ : ∃ x, Hid (takeE 0 (bs.drop k) = x) := ⟨_, rfl⟩
    rw [HQ.out] at HC hq
    have HT := Lib.hid ht
    clear HU ht
    go_enter Tryz.func198, Tryz.ntmps198
    go_wp2_with fail
    go_quiet ((go_at_call 193; exact Calls.quiet_of_same (HC.out _)))
    go_wp2_with fail
    have S1 := Lib.hid (S0.out.drewN nq)
    go_ret2
    exact .inr ⟨HT.out, rfl, S1.out⟩
  | some p => 
    obtain ⟨v, n⟩ := p
    have HC : Hid (∀ m, Calls Tryz.prog 193 #[.slice A bs.length c, .int .i64 (k : Int)] (w.drewN m) (fun e w' => e = .returned (.tuple #[.int .u64 (v : Int), .int .i64 ((k + n : Nat) : Int), .int .i64 0]) ∧ w' = w.drewN m)) := fun m => (HU.out m).mono fun e w' h => by
      obtain ⟨rfl, ⟨v', n', h1, rfl⟩ | ⟨h1, rfl⟩⟩ := h
      · rw [ht] at h1
        injection h1 with h1
        injection h1 with h1 h2
        subst h1 h2
        exact ⟨rfl, rfl⟩
      · rw [ht] at h1; cases h1
    have HT := Lib.hid ht
    clear HU ht
    go_enter Tryz.func198, Tryz.ntmps198
    go_wp2_with fail
    go_quiet ((go_at_call 193; exact Calls.quiet_of_same (HC.out _)))
    have hkn : k + n ≤ bs.length := by
      have h1 := takeU_le _ _ _ _ _ HT.out
      rw [List.length_drop] at h1
      have := HK.out
      omega
    go_wp2_with fail
    have S1 := Lib.hid ((S0.out.drewN nq).setAt 0 rfl 1 (.int .i64 ((k : Int) + n)))
    go_ret2
    exact .inl ⟨v, n, HT.out, hkn, rfl, by have e := S1.out; rw [← Int.natCast_add] at e; rw [← Int.natCast_add]; exact e⟩
abbrev PMarkP (g : Nat) (A : Option Addr) (c k : Nat) (bs : List UInt8) (X Y : Value) (b : Nat) (w0 : World) (l : List Ob) (e : Ending) (w' : World) : Prop :=
  (k < bs.length ∧ e = .returned (.tuple #[.int .u8 ((bs.getD k 0).toNat : Int), .bool true]) ∧ SW b w0 (rdrOb g A bs.length c (k + 1) X Y :: l) w') ∨
  (k = bs.length ∧ e = .returned (.tuple #[.int .u8 0, .bool false]) ∧ SW b w0 (rdrOb g A bs.length c k X Y :: l) w')
set_option maxRecDepth 100000 in
set_option maxHeartbeats 8000000 in
theorem pMark_any {g : Nat} {A : Option Addr} {c k : Nat} {bs : List UInt8} {X Y : Value} (h : SW b w0 (rdrOb g A bs.length c k X Y :: l) w) (hr : rsOb A bs ∈ l) (hv : (A = none → c = 0) ∧ bs.length ≤ c ∧ bs.length ≤ 9223372036854775807) (hk : k ≤ bs.length) :
    Calls Tryz.prog 196 #[vPtr g] w (PMarkP g A c k bs X Y b w0 l) := by
  have S0 := Lib.hid h
  have HR := Lib.hid hr
  have a0 := (h.cell 0 rfl).cell 0
  have a1 := (h.cell 0 rfl).cell 1
  have az := fun o => (h.cell 0 rfl).frozen o
  clear h
  obtain ⟨hv1, hv2, hv3⟩ := hv
  by_cases hp : k < bs.length
  · have hge : decide ((bs.length : Int) ≤ (k : Int)) = false := decide_eq_false (by omega)
    have hge2 : decide (bs.length ≤ k) = false := decide_eq_false (by omega)
    go_enter Tryz.func196, Tryz.ntmps196
    go_wp2_with fail
    go_quiet (fail)
    go_upto_region 4 with fail
    have S1 := Lib.hid ((S0.out.drewN nq).setAt 0 rfl 1 (.int .i64 ((k : Int) + 1)))
    obtain ⟨w2, HW⟩ : ∃ W, Hid ((w.drewN nq).setCell ⟨g, 1, none⟩ (.int .i64 ((k : Int) + 1)) = W) := ⟨_, rfl⟩
    rw [HW.out] at S1 ⊢
    clear HW S0 a0 a1 az
    have hR : RS w2 A bs := S1.out.1.holds (rsOb A bs) (.tail _ HR.out)
    cases A with
    | none => exact absurd (hR.1 rfl) (by omega)
    | some ad =>
      obtain ⟨g2, o, rfl, hcell⟩ := hR.2 ad rfl (by omega)
      have hcl := hcell k hp
      obtain ⟨x, HX⟩ : ∃ x, Hid (bs.getD k 0 = x) := ⟨_, rfl⟩
      rw [HX.out] at hcl
      have a0 := (S1.out.cell 0 rfl).cell 0
      have a1 := (S1.out.cell 0 rfl).cell 1
      clear hcell hR
      go_quiet (fail)
      go_wp2_with fail
      have S2 := Lib.hid (S1.out.drewN nq)
      go_ret2
      exact .inl ⟨hp, by rw [HX.out]; rfl, by have e := S2.out; exact e⟩
  · obtain rfl : k = bs.length := by omega
    go_enter Tryz.func196, Tryz.ntmps196
    go_wp2_with fail
    go_quiet (fail)
    go_wp2_with fail
    have S1 := Lib.hid (S0.out.drewN nq)
    go_ret2
    exact .inr ⟨rfl, rfl, S1.out⟩
abbrev PBytesP (g : Nat) (A : Option Addr) (c k n : Nat) (bs : List UInt8) (X Y : Value) (b : Nat) (w0 : World) (l : List Ob) (e : Ending) (w' : World) : Prop :=
  (∃ d, k + n ≤ bs.length ∧ e = .returned (.tuple #[vB d, .bool true]) ∧ SW b w0 (bufOb d ((bs.drop k).take n) :: rdrOb g A bs.length c (k + n) X Y :: l) w') ∨
  (bs.length < k + n ∧ e = .returned (.tuple #[.slice none 0 0, .bool false]) ∧ SW b w0 (rdrOb g A bs.length c k X Y :: l) w')
set_option maxRecDepth 100000 in
set_option maxHeartbeats 8000000 in
theorem pBytes_any {g : Nat} {A : Option Addr} {c k n : Nat} {bs : List UInt8} {X Y : Value} (h : SW b w0 (rdrOb g A bs.length c k X Y :: l) w) (hr : rsOb A bs ∈ l) (hv : (A = none → c = 0) ∧ bs.length ≤ c ∧ bs.length ≤ 9223372036854775807) (hk : k ≤ bs.length) (hn0 : 0 < n) (hn : n ≤ 8192) :
    Calls Tryz.prog 223 #[vPtr g, .int .i64 (n : Int)] w (PBytesP g A c k n bs X Y b w0 l) := by
  have S0 := Lib.hid h
  have HR := Lib.hid hr
  have a0 := (h.cell 0 rfl).cell 0
  have a1 := (h.cell 0 rfl).cell 1
  have az := fun o => (h.cell 0 rfl).frozen o
  have HVV := Lib.hid hv
  clear h
  obtain ⟨hv1, hv2, hv3⟩ := hv
  by_cases hp : bs.length < k + n
  · have hge : decide ((bs.length : Int) - (k : Int) < (n : Int)) = true := decide_eq_true (by omega)
    go_enter Tryz.func223, Tryz.ntmps223
    go_wp2_with fail
    go_quiet (fail)
    go_wp2_with fail
    have S1 := Lib.hid (S0.out.drewN nq)
    go_ret2
    exact .inr ⟨hp, rfl, S1.out⟩
  · have hge : decide ((bs.length : Int) - (k : Int) < (n : Int)) = false := decide_eq_false (by omega)
    go_enter Tryz.func223, Tryz.ntmps223
    go_wp2_with fail
    go_quiet (fail)
    go_upto_region 4 with fail
    have S1 := Lib.hid ((S0.out.drewN nq).setAt 0 rfl 1 (.int .i64 ((k : Int) + n)))
    obtain ⟨w2, HW⟩ : ∃ W, Hid ((w.drewN nq).setCell ⟨g, 1, none⟩ (.int .i64 ((k : Int) + n)) = W) := ⟨_, rfl⟩
    rw [HW.out] at S1 ⊢
    clear HW S0 a0 a1 az
    have hR := S1.out.view (.tail _ HR.out) HVV.out
    have hT := (hR.drop k hk).take n (by rw [List.length_drop]; omega)
    cases A with
    | none => exact absurd (hR.1.1 rfl) (by omega)
    | some ad =>
      obtain ⟨g2, o, rfl, _⟩ := hR.1.2 ad rfl (by omega)
      have HTL : Hid (((bs.drop k).take n).length = n) := by rw [Hid, List.length_take, List.length_drop]; omega
      have HC := Lib.hid (fun q => CloneB_any _ (c - k) _ (w2.drewN q) ((hT.1.drewN q).sb) (by rw [HTL.out]; omega))
      rw [HTL.out] at HC
      have a0 := (S1.out.cell 0 rfl).cell 0
      have a1 := (S1.out.cell 0 rfl).cell 1
      clear hR hT
      refine wp_region_draw_tail 14 (by kernel_rfl) (by kernel_rfl) ?_
      simp only [List.take_succ_cons, List.take_zero, List.drop_succ_cons, List.drop_zero]
      repeat (go_big_quiet_step (fail))
      refine wpQuiet_nil ?_
      intro q
      have hkc : ((k : Int) + n) - n = k := by omega
      have hsub : k + n - k = n := by omega
      have hcn : ¬ c = k := by omega
      have HCC := Lib.hid (HC.out q)
      rw [cutA, if_neg hcn] at HCC
      simp only [Option.map_some] at HCC
      clear HC
      go_wp2_with (go_at_call 68; (with_reducible refine HCC.out.mono ?_); refine halt_ ?_)
      rintro e w5 ⟨d, rfl, hrb, hfr, hb5⟩
      have S9 : Hid (SW b w0 (bufOb d ((bs.drop k).take n) :: rdrOb g (some ⟨g2, o, none⟩) bs.length c (k + n) X Y :: l) w5) := by
        have h1 := (S1.out.drewN q).newBuT hb5 hrb hfr
        have e := h1
        rw [← Int.natCast_add] at e
        exact e
      clear hrb hfr hb5 HCC
      go_wp2_with fail
      go_ret2
      exact .inl ⟨d, by omega, rfl, S9.out⟩
end
end Go.Proofs.YtmiknfneeipkeaaGreat
namespace Go.Proofs.YtmiknfneeipkeaaGreat
open Go.RowKit Go.MapKept Go.ChangeMaps Go.Shelf Go.Sort
def bsOb (S : List CH) : Ob where
  own := fun _ => False
  rd := fun i => ∃ e ∈ S, 0 < e.2.bs.length ∧ ∃ o, e.2.d.A = some ⟨i, o, none⟩
  holds := fun w => ∀ e ∈ S, BSok w e.2
  stable := fun w w' h hs hk => fun e he => (h e he).keep (fun i hi => hk i (.inr ⟨e, he, hi⟩))
section
variable {b : Nat} {w0 w w' : World} {l : List Ob}
theorem SW.bufsBs {T : List BS} {S : List CH} (h : SW b w0 (bufsOb T :: l) w) (hs : ∀ e ∈ S, e.2 ∈ T) : SW b w0 (bsOb S :: l) w := by
  have hT : (bufsOb T).holds w := h.get 0 rfl
  refine SW.fuse (pre := [bufsOb T]) h (fun e he => ?_) (fun _ h => h) (fun i hi => ?_)
  · have hr := hT _ (hs e he)
    exact ⟨hr.rs, hr.1.symm, hr.2.1⟩
  · obtain ⟨e, he, _, o, ho⟩ := hi
    exact ⟨_, .head _, .inr ⟨e.2, hs e he, by simp [blk, ho]⟩⟩
theorem SW.bsSub {S S' : List CH} (h : SW b w0 (bsOb S :: l) w) (hs : ∀ e ∈ S', e ∈ S) : SW b w0 (bsOb S' :: l) w := by
  have hT : (bsOb S).holds w := h.get 0 rfl
  refine SW.fuse (pre := [bsOb S]) h (fun e he => hT e (hs e he)) (fun _ h => h) (fun i hi => ?_)
  obtain ⟨e, he, hp⟩ := hi
  exact ⟨_, .head _, .inr ⟨e, hs e he, hp⟩⟩
theorem SW.bsCons {S : List CH} {d : BD} {bs : List UInt8} (h : SW b w0 (bxOb d bs :: bsOb S :: l) w) (i : ID) (hd : d.len = bs.length ∧ d.len ≤ d.cap) : SW b w0 (bsOb ((i, ⟨d, bs⟩) :: S) :: l) w := by
  have hX := h.get 0 (o := bxOb d bs) rfl
  have hT : (bsOb S).holds w := h.get 1 rfl
  refine SW.fuse (pre := [bxOb d bs, bsOb S]) h (fun e he => ?_) (fun _ h => h) (fun j hj => ?_)
  · rcases List.mem_cons.1 he with rfl | he
    · exact ⟨SB.rs (hX.1.elim (fun r => r.src) (fun r => r.2.2.2)), hd.1, hd.2⟩
    · exact hT e he
  · obtain ⟨e, he, hp, o, ho⟩ := hj
    rcases List.mem_cons.1 he with rfl | he
    · exact ⟨_, .head _, .inl (by show blk d = some j; simp only at ho; simp [blk, ho])⟩
    · exact ⟨_, .tail _ (.head _), .inr ⟨e, he, hp, o, ho⟩⟩
end
end Go.Proofs.YtmiknfneeipkeaaGreat
