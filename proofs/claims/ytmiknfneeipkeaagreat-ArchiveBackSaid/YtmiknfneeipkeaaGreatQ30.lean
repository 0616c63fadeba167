/- Contracts of the walk, part 30. -/
import Derived.Deep.CutRange
import Derived.Test.YtmiknfneeipkeaaGreatQ29
namespace Go.Proofs.YtmiknfneeipkeaaGreat
open Go.RowKit Go.MapKept Go.ChangeMaps Go.Shelf Go.Sort
attribute [local go_sem] wext_cell
theorem row_id {w : World} {g q d : Nat} {L : List ID} (hr : w.ownsRow 0 36 2 (.slice (some ⟨g, 0, none⟩) q d) q (L.flatMap encID)) (hq : L.length = q) {k : Nat} (hk : k < q) {x : ID} (hx : L.getD k id0 = x) :
    w.cell? ⟨g, k * 2, none⟩ = some (.int .u64 x.1) ∧ w.cell? ⟨g, k * 2 + 1, none⟩ = some (.int .i64 x.2) := by
  subst hx
  have key : ∀ i, i < 2 → w.cell? ⟨g, k * 2 + i, none⟩ = (encID (L.getD k id0))[i]? := fun i hi => by
    rw [hr.cellAt (k * 2 + i) (by omega), flat_at encID_len id0 L k i (by omega) hi]
  exact ⟨key 0 (by omega), key 1 (by omega)⟩
theorem cx_cell {w : World} {g o : Nat} {T : List CH} (h : (cxOb (some ⟨g, o, none⟩) T).holds w) {j : Nat} (hj : j < T.length) {i : ID} {e : BS} (he : T.getD j ch0 = (i, e)) : g < w.heap.size ∧ w.cell? ⟨g, o + j * 3 + 2, none⟩ = some (.slice e.d.A e.bs.length e.d.cap) := by
  obtain ⟨g', o', hA, h1, _, _, h2, _⟩ := cx_at h hj he
  injection hA with hA
  injection hA with e1 e2
  subst e1 e2
  exact ⟨h1, h2⟩
theorem find_at {S : List CH} (ha : AscI (S.map (·.1))) {i : ID} {k : Nat} (hk : k < S.length) (hi : (S.map (·.1)).getD k id0 = i) (hs : (firstR S i).isSome = true) : firstR S i = some (S.getD k ch0) := by
  obtain ⟨x, hx⟩ := Option.isSome_iff_exists.1 hs
  obtain ⟨h1, _, hm⟩ := firstR_id hx
  obtain ⟨j, hj, rfl⟩ := List.mem_iff_getElem.1 hm
  have e1 : ∀ n (hn : n < S.length), (S.map (·.1)).getD n id0 = S[n].1 := fun n hn => by simp [List.getD_eq_getElem?_getD, hn]
  have hjk : j = k := by
    rcases Nat.lt_trichotomy j k with h | h | h
    · have := asc_getD ha (by rw [List.length_map]; exact hk) h
      rw [e1 j hj, h1, hi] at this
      simp [ltID] at this
    · exact h
    · have := asc_getD ha (by rw [List.length_map]; exact hj) h
      rw [e1 j hj, h1, hi] at this
      simp [ltID] at this
  subst hjk
  rw [hx]
  simp [List.getD_eq_getElem?_getD, hj]
section
variable {b : Nat} {w0 w w' : World} {l : List Ob}
abbrev RstP (bs : List UInt8) (i : ID) (b : Nat) (w0 : World) (l : List Ob) (e : Ending) (w' : World) : Prop :=
  (∃ (ms ys : List Man) (S : List CH) (m : Man) (rA : Option Addr) (rc : Nat) (T : List CH) (C : Option Addr) (cc : Nat), VolOk bs ∧ opnV bs = some (ms, pcs S) ∧ ConM ms ys ∧ m ∈ ys ∧ keyM m = i ∧ T.map (·.1) = firsts m.ids ∧ (∀ e ∈ T, ∃ x, firstR S e.1 = some x ∧ x.2.bs = e.2.bs) ∧ e = .returned (.tuple #[.agg #[.int .i64 m.size, .slice rA m.ids.length rc], .slice C T.length cc, .int .i64 0]) ∧ SW b w0 (rowOb 42 3 (.slice C T.length cc) T.length (T.flatMap encCH) :: bsOb T :: msOb [⟨m.size, rA, m.ids.length, rc⟩] [m] :: l) w') ∨
  (∃ (ms ys : List Man) (S : List CH), VolOk bs ∧ opnV bs = some (ms, pcs S) ∧ ConM ms ys ∧ (∀ m ∈ ys, keyM m ≠ i) ∧ e = .returned (.tuple #[.agg #[.int .i64 0, .slice none 0 0], .slice none 0 0, .int .i64 413]) ∧ SW b w0 l w') ∨
  (¬ VolOk bs ∧ e = .returned (.tuple #[.agg #[.int .i64 0, .slice none 0 0], .slice none 0 0, .int .i64 412]) ∧ SW b w0 l w')
set_option maxRecDepth 100000 in
set_option maxHeartbeats 16000000 in
theorem Restore_any (h : SW b w0 l w) {A : Option Addr} {c : Nat} {bs : List UInt8} (hr : rsOb A bs ∈ l) (hv : (A = none → c = 0) ∧ bs.length ≤ c ∧ bs.length ≤ 9223372036854775807) (hbl : bs.length ≤ 1000000000) (hS : ∀ ms k, rdMans bs = some (ms, k) → ms.length < 20) (hP : ∀ ms S, opnV bs = some (ms, pcs S) → AllR (setR (idsOf ms)) S → (packP (selR (setR (idsOf ms)) S)).length ≤ 1048576) (s z : Int) :
    Calls Tryz.prog 22 #[.slice A bs.length c, .agg #[.int .u64 s, .int .i64 z]] w (RstP bs (s, z) b w0 l) := by
  have S0 := Lib.hid ((h.newCell 36 #[.int .u64 s, .int .i64 z]).newCellAt 33 #[.int .i64 0, .slice none 0 0] (H := w.heap.size + 1) (by simp))
  obtain ⟨gR, HGR⟩ : ∃ x, Hid (w.heap.size + 1 = x) := ⟨_, rfl⟩
  obtain ⟨gb, HGB⟩ : ∃ x, Hid (w.heap.size = x) := ⟨_, rfl⟩
  obtain ⟨W0, HW0⟩ : ∃ W, Hid ((w.alloc (.cells #[.int .u64 s, .int .i64 z] 36)).alloc (.cells #[.int .i64 0, .slice none 0 0] 33) = W) := ⟨_, rfl⟩
  rw [HGR.out, HGB.out, HW0.out] at S0
  have HM := Lib.hid (read_any S0.out (.tail _ (.tail _ hr)) hv hbl hS hP)
  have HLM : Hid (∀ ms S, opnV bs = some (ms, pcs S) → ms.length < 20) := fun ms S h => by
    unfold opnV at h
    split at h
    · rename_i ms' k' h1
      obtain ⟨x, _, e⟩ := Option.map_eq_some_iff.1 h
      injection e with e1 _
      subst e1
      exact hS _ _ h1
    · cases h
  clear h hr hv hS hP
  obtain ⟨ii, gi, gz0, gz1, gz2⟩ := info_parts info42
  go_enter Tryz.func22, Tryz.ntmps22
  go_upto_region 1 with fail
  rw [HW0.out, HGR.out, HGB.out]
  clear HGR HGB HW0
  go_wp2_with (go_at_call 61; (with_reducible refine HM.out.mono ?_); refine halt_ ?_)
  rintro e w1 (⟨ms, S, Y, D, C, d, dc, hvo, hop, hcon, hok, hSl, rfl, t1⟩ | ⟨hno, ⟨v1, v2, rfl⟩, t1⟩)
  · have HVO := Lib.hid hvo
    have HOP := Lib.hid hop
    have HCO := Lib.hid hcon
    have HOK := Lib.hid hok
    have hSl2 : S.length ≤ 1000000000 := by omega
    have hY : Y.length < 20 := by
      have h1 := conM_len hcon
      have h2 := HLM.out _ _ hop
      rw [List.length_map] at h1
      omega
    have S1 := Lib.hid t1
    have HIX : Hid (Calls Tryz.prog 63 #[.slice D Y.length d, .func (.func 64) #[] #[vPtr gb]] w1 (IxC (Y.map cnOf) (s, z) b w0 (rowOb 85 4 (.slice D Y.length d) Y.length ((Y.map cnOf).flatMap encCN) :: msOb (Y.map (·.1)) (Y.map (·.2)) :: cxOb C S :: cellOb gR 33 #[.int .i64 0, .slice none 0 0] :: cellOb gb 36 #[.int .u64 s, .int .i64 z] :: l))) := by
      have h1 := IndexC_any (L := Y.map cnOf) (D := D) (d := d) (gb := gb) (s := s) (z := z) S1.out (.tail _ (.tail _ (.tail _ (.tail _ (.head _))))) (by rw [List.length_map]; exact .head _) (by rw [List.length_map]; omega)
      rw [List.length_map] at h1
      exact h1
    clear hvo hop hcon hok t1 HM S0 hSl
    go_wp2_with (go_at_call 63; (with_reducible refine HIX.out.mono ?_); refine halt_ ?_)
    rintro e w2 ⟨t2, ⟨k, hk, rfl, hkx⟩ | ⟨hall, rfl⟩⟩
    · rw [List.length_map] at hk
      obtain ⟨⟨⟨rz, rA, rl, rc⟩, m⟩, HPK⟩ : ∃ p, Hid (Y.getD k (mr0, man0) = p) := ⟨_, rfl⟩
      have hcn : (Y.map cnOf).getD k cn0 = cnOf (⟨rz, rA, rl, rc⟩, m) := by
        rw [← HPK.out]
        simp [List.getD_eq_getElem?_getD, List.getElem?_eq_getElem hk]
      have HKEY : Hid (keyM m = (s, z)) := by rw [hcn] at hkx; exact hkx
      have hg1 : (Y.map (·.1)).getD k mr0 = ⟨rz, rA, rl, rc⟩ := by
        have : (Y.map (·.1)).getD k mr0 = (Y.getD k (mr0, man0)).1 := by simp [List.getD_eq_getElem?_getD, List.getElem?_eq_getElem hk]
        rw [this, HPK.out]
      have hg2 : (Y.map (·.2)).getD k man0 = m := by
        have : (Y.map (·.2)).getD k man0 = (Y.getD k (mr0, man0)).2 := by simp [List.getD_eq_getElem?_getD, List.getElem?_eq_getElem hk]
        rw [this, HPK.out]
      have hmem : m ∈ Y.map (·.2) := by rw [← hg2]; exact getD_mem _ _ _ (by rw [List.length_map]; exact hk)
      have hmo := (opnV_asc HOP.out).2 m ((HCO.out.2 m).1 hmem)
      have HASC := Lib.hid (opnV_asc HOP.out).1
      have HMO := Lib.hid hmo
      have HMEM := Lib.hid hmem
      have HAL := Lib.hid (volOk_at HVO.out HOP.out HCO.out).2.1
      have HIN : Hid (∀ i ∈ firsts m.ids, (firstR S i).isSome = true) := fun i hi => HAL.out i ((setR_mem _ _).2 (List.mem_flatMap.2 ⟨m, (HCO.out.2 m).1 hmem, (firsts_mem _ _).1 hi⟩))
      have hml := manE_len hmo.1
      have hfl := firsts_len m.ids
      have S2 := Lib.hid t2
      obtain ⟨hm1, hm2⟩ := S2.out.get 1 (o := msOb (Y.map (·.1)) (Y.map (·.2))) rfl
      obtain ⟨l1, l2, l3, _⟩ := hm2 k (by rw [List.length_map]; exact hk)
      rw [hg1, hg2] at l1 l2
      rw [hg1] at l3
      simp only at l1 l2 l3
      subst l1 l2
      have hrow := S2.out.get 0 (o := rowOb 85 4 (.slice D Y.length d) Y.length ((Y.map cnOf).flatMap encCN)) rfl
      obtain ⟨gD, d9, hD⟩ := own_some hrow (by omega)
      injection hD with e1 e2 e3
      subst e1
      subst e3
      clear e2
      obtain ⟨q0, q1, q2, q3⟩ := row_cn hrow (by simp) hk hcn
      simp only [cnOf] at q0 q1 q2 q3
      have S3 : Hid (SW b w0 (cellOb w2.heap.size 33 #[.int .i64 m.size, .slice rA m.ids.length rc] :: msOb (Y.map (·.1)) (Y.map (·.2)) :: cxOb C S :: cellOb gR 33 #[.int .i64 0, .slice none 0 0] :: l) (w2.alloc (.cells #[.int .i64 m.size, .slice rA m.ids.length rc] 33))) := SW.few (pre := [_, _, _, _, _, _]) (S2.out.newCell 33 #[.int .i64 m.size, .slice rA m.ids.length rc]) [0, 2, 3, 4] (n := 6) rfl (by decide) (by decide)
      have HG1 := Lib.hid hg1
      have HG2 := Lib.hid hg2
      have hk2 : k < (Y.map (·.2)).length := by rw [List.length_map]; exact hk
      clear hcn hkx hmem hmo hrow hm1 hm2 S1 S2 t2 HIX hg1 hg2 q0 q1
      go_upto_region 8 with fail
      obtain ⟨w3, HW3⟩ : ∃ W, Hid (w2.alloc (.cells #[.int .i64 m.size, .slice rA m.ids.length rc] 33) = W) := ⟨_, rfl⟩
      obtain ⟨gm, HGM⟩ : ∃ x, Hid (w2.heap.size = x) := ⟨_, rfl⟩
      rw [HW3.out, HGM.out] at S3 ⊢
      clear HW3 HGM q2 q3
      have c0 := (S3.out.cell 0 rfl).cell 0
      have c1 := (S3.out.cell 0 rfl).cell 1
      have HMI := Lib.hid (Missing_any S3.out (.tail _ (.head _)) hk2 HG2.out HG1.out HMO.out.1 HMO.out.2)
      go_wp2_with (go_at_call 65; (with_reducible refine HMI.out.mono ?_); refine halt_ ?_)
      rintro e w4 ⟨D2, d2, rfl, t4⟩
      obtain ⟨F, HF⟩ : ∃ F, Hid (firsts m.ids = F) := ⟨_, rfl⟩
      rw [HF.out] at t4 HIN hfl ⊢
      have S4 : Hid (SW b w0 (rowOb 42 3 (.slice none 0 0) 0 [] :: bsOb [] :: rowOb 36 2 (.slice D2 F.length d2) F.length (F.flatMap encID) :: cellOb gm 33 #[.int .i64 m.size, .slice rA m.ids.length rc] :: msOb (Y.map (·.1)) (Y.map (·.2)) :: cxOb C S :: cellOb gR 33 #[.int .i64 0, .slice none 0 0] :: l) w4) := SW.front (pre := [_, _]) (SW.bufsBs (SW.noBufs (t4.newRow 42 3)) (fun e he => by cases he)) [1, 0] (n := 2) rfl (by decide)
      clear t4 HMI S3 c0 c1
      go_wp2_with fail
      go_loopw [14, 49] (fun s14 s49 wr => ∃ (j : Nat) (T : List CH) (B : Option Addr) (bc : Nat), j ≤ F.length ∧ s49 = .int .i64 (j : Int) ∧ s14 = .slice B j bc ∧ Hid (T.map (·.1) = F.take j) ∧ Hid (∀ e ∈ T, ∃ x, firstR S e.1 = some x ∧ x.2.bs = e.2.bs) ∧ SW b w0 (rowOb 42 3 (.slice B j bc) j (T.flatMap encCH) :: bsOb T :: rowOb 36 2 (.slice D2 F.length d2) F.length (F.flatMap encID) :: cellOb gm 33 #[.int .i64 m.size, .slice rA m.ids.length rc] :: msOb (Y.map (·.1)) (Y.map (·.2)) :: cxOb C S :: cellOb gR 33 #[.int .i64 0, .slice none 0 0] :: l) wr) (fun _ s49 _ => F.length - (intOf s49).toNat)
      case atStart => exact ⟨0, [], none, 0, Nat.zero_le _, rfl, rfl, rfl, (fun e he => by cases he), S4.out⟩
      case round =>
        obtain ⟨j, T, B, bc, hj, rfl, rfl, HT, HTX, hs⟩ := hrel
        have S5 := Lib.hid hs
        clear hs S4
        by_cases hlt : j < F.length
        · obtain ⟨⟨i1, i2⟩, HI⟩ : ∃ x, Hid (F.getD j id0 = x) := ⟨_, rfl⟩
          have hrow := S5.out.get 2 (o := rowOb 36 2 (.slice D2 F.length d2) F.length (F.flatMap encID)) rfl
          obtain ⟨gF, d9, hD⟩ := own_some hrow (by omega)
          injection hD with e1 e2 e3
          subst e1
          subst e3
          clear e2
          obtain ⟨q0, q1⟩ := row_id hrow rfl hlt HI.out
          simp only at q0 q1
          have HSM := HIN.out (i1, i2) (by rw [← HI.out]; exact getD_mem _ _ _ hlt)
          have HSOME := Lib.hid HSM
          have HTK : Hid (F.take (j + 1) = F.take j ++ [(i1, i2)]) := by rw [Hid, take_id hlt, HI.out]
          have S6 := Lib.hid (S5.out.newCell 36 #[.int .u64 i1, .int .i64 i2])
          clear hrow HSM S5
          go_upto_region 15 with fail
          obtain ⟨w5, HW5⟩ : ∃ W, Hid (wr.alloc (.cells #[.int .u64 i1, .int .i64 i2] 36) = W) := ⟨_, rfl⟩
          obtain ⟨gX, HGX⟩ : ∃ x, Hid (wr.heap.size = x) := ⟨_, rfl⟩
          rw [HW5.out, HGX.out] at S6 ⊢
          clear HW5 HGX q0 q1
          have b0 := (S6.out.cell 0 rfl).cell 0
          have b1 := (S6.out.cell 0 rfl).cell 1
          have HB := Lib.hid (BsC_any w5.heap.size S C dc i1 i2 w5 (S6.out.get 6 (o := cxOb C S) rfl).1 HASC.out (by omega))
          go_wp2_with (go_at_call 66; (with_reducible refine HB.out.mono ?_); refine halt_ ?_)
          rintro e w6 ⟨hb6, ⟨n, hn, hnx, rfl⟩ | ⟨n, hnx, rfl⟩⟩
          · rw [List.length_map] at hn
            obtain ⟨⟨si, ev⟩, HSN⟩ : ∃ x, Hid (S.getD n ch0 = x) := ⟨_, rfl⟩
            have HFI := Lib.hid (find_at HASC.out hn hnx HSOME.out)
            have S7 := Lib.hid (S6.out.on hb6)
            obtain ⟨gT, o, rfl, hgT, _, _, c2, _⟩ := cx_at (S7.out.get 6 (o := cxOb C S) rfl) hn HSN.out
            have hS7d := S7.out.drew
            obtain ⟨gT', o', hA', _, _, _, _, hbs⟩ := cx_at (hS7d.get 6 (o := cxOb (some ⟨gT, o, none⟩) S) rfl) hn HSN.out
            clear hA' hS7d hnx b0 b1 HB S6 hb6
            have hel : ev.bs.length ≤ 8192 := by
              obtain ⟨h1, h2, _⟩ := firstR_id HFI.out
              have h3 := (firsts_mem m.ids (i1, i2)).1 (by rw [HF.out, ← HI.out]; exact getD_mem _ _ _ hlt)
              have h4 := okI_of HMO.out _ h3
              rw [HSN.out] at h2
              have h5 : ((ev.bs.length : Nat) : Int) = i2 := congrArg Prod.snd h2
              have h6 := h4.2.1
              simp only at h6
              omega
            have HCL := Lib.hid (CloneB_any ev.d.A ev.d.cap ev.bs w6.drew hbs.1.sb (by omega))
            have HEL : Hid (ev.bs.length = ev.bs.length) := rfl
            clear hbs HEL
            go_upto_region 16 with fail
            refine wp_region_held_tail [(0, true), (1, true), (2, true), (3, true), (4, true), (5, true), (6, true), (7, false), (8, true), (9, false)] (fun w' => SW b w0 (cellOb gX 36 #[.int .u64 i1, .int .i64 i2] :: rowOb 42 3 (.slice B j bc) j (T.flatMap encCH) :: bsOb T :: rowOb 36 2 (.slice (some ⟨gF, 0, none⟩) F.length d2) F.length (F.flatMap encID) :: cellOb gm 33 #[.int .i64 m.size, .slice rA m.ids.length rc] :: msOb (Y.map (·.1)) (Y.map (·.2)) :: cxOb (some ⟨gT, o, none⟩) S :: cellOb gR 33 #[.int .i64 0, .slice none 0 0] :: l) w') (by kernel_rfl) (fun _ _ d _ _ h => by cases d <;> exact h) (by kernel_rfl) (S7.out.drew) ?_
            simp only [picked, List.map_cons, List.map_nil, List.getD_cons_succ, List.getD_cons_zero]
            (refine wpHeld_take (v := ?_) (Or.inl ⟨by rfl, ?_⟩) ?_
             rotate_left
             · (intro w' hSw; have v0 : w'.cell? ⟨gX, 0, none⟩ = some (.int .u64 i1) := (hSw.cell 0 rfl).cell 0; have v1 : w'.cell? ⟨gX, 1, none⟩ = some (.int .i64 i2) := (hSw.cell 0 rfl).cell 1; have v2 := cx_cell (hSw.get 6 (o := cxOb (some ⟨gT, o, none⟩) S) rfl) hn HSN.out; have v3 := v2.1; have v4 := v2.2; go_simp; try with_reducible rfl)
             try simp only [Act.put, List.setIfInBounds_toArray, List.set])
            (refine wpHeld_take (v := ?_) (Or.inl ⟨by rfl, ?_⟩) ?_
             rotate_left
             · (intro w' hSw; have v0 : w'.cell? ⟨gX, 0, none⟩ = some (.int .u64 i1) := (hSw.cell 0 rfl).cell 0; have v1 : w'.cell? ⟨gX, 1, none⟩ = some (.int .i64 i2) := (hSw.cell 0 rfl).cell 1; have v2 := cx_cell (hSw.get 6 (o := cxOb (some ⟨gT, o, none⟩) S) rfl) hn HSN.out; have v3 := v2.1; have v4 := v2.2; go_simp; try with_reducible rfl)
             try simp only [Act.put, List.setIfInBounds_toArray, List.set])
            (refine wpHeld_take (v := ?_) (Or.inl ⟨by rfl, ?_⟩) ?_
             rotate_left
             · (intro w' hSw; have v0 : w'.cell? ⟨gX, 0, none⟩ = some (.int .u64 i1) := (hSw.cell 0 rfl).cell 0; have v1 : w'.cell? ⟨gX, 1, none⟩ = some (.int .i64 i2) := (hSw.cell 0 rfl).cell 1; have v2 := cx_cell (hSw.get 6 (o := cxOb (some ⟨gT, o, none⟩) S) rfl) hn HSN.out; have v3 := v2.1; have v4 := v2.2; go_simp; try with_reducible rfl)
             try simp only [Act.put, List.setIfInBounds_toArray, List.set])
            (refine wpHeld_take (v := ?_) (Or.inl ⟨by rfl, ?_⟩) ?_
             rotate_left
             · (intro w' hSw; have v0 : w'.cell? ⟨gX, 0, none⟩ = some (.int .u64 i1) := (hSw.cell 0 rfl).cell 0; have v1 : w'.cell? ⟨gX, 1, none⟩ = some (.int .i64 i2) := (hSw.cell 0 rfl).cell 1; have v2 := cx_cell (hSw.get 6 (o := cxOb (some ⟨gT, o, none⟩) S) rfl) hn HSN.out; have v3 := v2.1; have v4 := v2.2; go_simp; try with_reducible rfl)
             try simp only [Act.put, List.setIfInBounds_toArray, List.set])
            (refine wpHeld_take (v := ?_) (Or.inl ⟨by rfl, ?_⟩) ?_
             rotate_left
             · (intro w' hSw; have v0 : w'.cell? ⟨gX, 0, none⟩ = some (.int .u64 i1) := (hSw.cell 0 rfl).cell 0; have v1 : w'.cell? ⟨gX, 1, none⟩ = some (.int .i64 i2) := (hSw.cell 0 rfl).cell 1; have v2 := cx_cell (hSw.get 6 (o := cxOb (some ⟨gT, o, none⟩) S) rfl) hn HSN.out; have v3 := v2.1; have v4 := v2.2; go_simp; try with_reducible rfl)
             try simp only [Act.put, List.setIfInBounds_toArray, List.set])
            (refine wpHeld_take (v := ?_) (Or.inl ⟨by rfl, ?_⟩) ?_
             rotate_left
             · (intro w' hSw; have v0 : w'.cell? ⟨gX, 0, none⟩ = some (.int .u64 i1) := (hSw.cell 0 rfl).cell 0; have v1 : w'.cell? ⟨gX, 1, none⟩ = some (.int .i64 i2) := (hSw.cell 0 rfl).cell 1; have v2 := cx_cell (hSw.get 6 (o := cxOb (some ⟨gT, o, none⟩) S) rfl) hn HSN.out; have v3 := v2.1; have v4 := v2.2; go_simp; try with_reducible rfl)
             try simp only [Act.put, List.setIfInBounds_toArray, List.set])
            (refine wpHeld_take (v := ?_) (Or.inl ⟨by rfl, ?_⟩) ?_
             rotate_left
             · (intro w' hSw; have v0 : w'.cell? ⟨gX, 0, none⟩ = some (.int .u64 i1) := (hSw.cell 0 rfl).cell 0; have v1 : w'.cell? ⟨gX, 1, none⟩ = some (.int .i64 i2) := (hSw.cell 0 rfl).cell 1; have v2 := cx_cell (hSw.get 6 (o := cxOb (some ⟨gT, o, none⟩) S) rfl) hn HSN.out; have v3 := v2.1; have v4 := v2.2; go_simp; try with_reducible rfl)
             try simp only [Act.put, List.setIfInBounds_toArray, List.set])
            refine wpHeld_run (fun K hK => ?_)
            go_simp
            go_at_call 68
            (with_reducible refine HCL.out.mono ?_)
            rintro e w7 ⟨⟨dA, dl, dk⟩, rfl, hrb, hfr, hb7⟩
            have S8 := Lib.hid (SW.newBuT S7.out.drew hb7 hrb hfr)
            clear hrb hfr hb7 HCL
            try simp only [vB]
            go_wp2_with fail
            refine hK.out _ _ S8.out.tail ?_
            clear hK K
            try simp only [Act.put, List.setIfInBounds_toArray, List.set]
            (refine wpHeld_take (v := ?_) (Or.inl ⟨by rfl, ?_⟩) ?_
             rotate_left
             · (intro w' hSw; have v0 : w'.cell? ⟨gX, 0, none⟩ = some (.int .u64 i1) := (hSw.cell 0 rfl).cell 0; have v1 : w'.cell? ⟨gX, 1, none⟩ = some (.int .i64 i2) := (hSw.cell 0 rfl).cell 1; have v2 := cx_cell (hSw.get 6 (o := cxOb (some ⟨gT, o, none⟩) S) rfl) hn HSN.out; have v3 := v2.1; have v4 := v2.2; go_simp; try with_reducible rfl)
             try simp only [Act.put, List.setIfInBounds_toArray, List.set])
            refine wpHeld_run (fun K hK => ?_)
            have S9 := Lib.hid (S8.out.newCell 42 #[.int .u64 i1, .int .i64 i2, .slice dA dl dk])
            go_simp
            refine hK.out _ _ S9.out.tail.tail ?_
            clear hK K
            try simp only [Act.put, List.setIfInBounds_toArray, List.set]
            refine wpHeld_nil ?_
            simp only [List.length_cons, List.length_nil, List.drop_succ_cons, List.drop_zero]
            have SB := Lib.hid S9.out
            go_wp2_with (at_builtin; (refine wpList_rowS (t := 23) (e := 42) (size := 3) (bytes := 40) (i := ii) SB.out 3 rfl (by rfl) (.tmp 59) (.tmp 68) (by rfl) Tryz.underlying23 gi gz0 gz1 gz2 rfl (by omega) (by rfl) ⟨w7.heap.size, 0, none⟩ 1 [.int .u64 i1, .int .i64 i2, .slice dA dl dk] (by rfl) rfl (mthree_new _ _ _ _ _ _ rfl) (encCH_one ((i1, i2), ⟨⟨dA, dl, dk⟩, ev.bs⟩)) (by unfold maxLen; omega) (by omega) ?_); refine halt_ ?_)
            intro v8 w8 s8
            obtain ⟨g8, c8, rfl⟩ := own_some (s8.get 3 rfl) (by omega)
            have SC : Hid (SW b w0 (rowOb 42 3 (.slice (some ⟨g8, 0, none⟩) (j + 1) c8) (j + 1) ((T ++ [((i1, i2), (⟨⟨dA, dl, dk⟩, ev.bs⟩ : BS))]).flatMap encCH) :: bsOb (T ++ [((i1, i2), (⟨⟨dA, dl, dk⟩, ev.bs⟩ : BS))]) :: rowOb 36 2 (.slice (some ⟨gF, 0, none⟩) F.length d2) F.length (F.flatMap encID) :: cellOb gm 33 #[.int .i64 m.size, .slice rA m.ids.length rc] :: msOb (Y.map (·.1)) (Y.map (·.2)) :: cxOb (some ⟨gT, o, none⟩) S :: cellOb gR 33 #[.int .i64 0, .slice none 0 0] :: l) w8) := by
              have h1 := SW.few (pre := [_, _, _, _, _]) s8 [1, 4, 3] (n := 5) rfl (by decide) (by decide)
              have h2 := SW.front (pre := [_, _]) (SW.bsSnoc h1 (i1, i2)) [1, 0] (n := 2) rfl (by decide)
              rw [Hid, List.flatMap_append]
              exact h2
            have HT2 : Hid ((T ++ [((i1, i2), (⟨⟨dA, dl, dk⟩, ev.bs⟩ : BS))]).map (·.1) = F.take (j + 1)) := by rw [Hid, HTK.out, List.map_append, HT.out]; rfl
            have HTX2 : Hid (∀ e ∈ T ++ [((i1, i2), (⟨⟨dA, dl, dk⟩, ev.bs⟩ : BS))], ∃ x, firstR S e.1 = some x ∧ x.2.bs = e.2.bs) := fun e he => by
              rcases List.mem_append.1 he with he | he
              · exact HTX.out e he
              · rw [List.mem_singleton] at he
                rw [he]
                exact ⟨_, HFI.out, by rw [HSN.out]⟩
            clear s8 SB S9 S8 S7
            go_wp2_with fail
            go_roundw
            case rel => exact ⟨j + 1, _, some ⟨g8, 0, none⟩, c8, by omega, by go_num, rfl, HT2.out, HTX2.out, SC.out⟩
            case measure => simp [intOf]; omega
          · exfalso
            obtain ⟨x, hx⟩ := Option.isSome_iff_exists.1 HSOME.out
            obtain ⟨h1, _, h2⟩ := firstR_id hx
            exact hnx (List.mem_map.2 ⟨x, h2, h1⟩)
        · obtain rfl : j = F.length := by omega
          rw [List.take_length] at HT
          have htl : T.length = F.length := by rw [← HT.out, List.length_map]
          have c0 := (S5.out.cell 3 rfl).cell 0
          have c1 := (S5.out.cell 3 rfl).cell 1
          have z0 := (S5.out.cell 6 rfl).cell 0
          have z1 := (S5.out.cell 6 rfl).cell 1
          have f0 := (S5.out.cell 6 rfl).frozen 0
          have f1 := (S5.out.cell 6 rfl).frozen 1
          have S9 := Lib.hid ((S5.out.setAt 6 rfl 0 (.int .i64 m.size)).setAt 6 rfl 1 (.slice rA m.ids.length rc))
          go_wp2_with fail
          have e0 := (S9.out.cell 6 rfl).cell 0
          have e1 := (S9.out.cell 6 rfl).cell 1
          have HSW : Hid (SW b w0 (rowOb 42 3 (.slice B T.length bc) T.length (T.flatMap encCH) :: bsOb T :: msOb [⟨m.size, rA, m.ids.length, rc⟩] [m] :: l) ((wr.setCell ⟨gR, 0, none⟩ (.int .i64 m.size)).setCell ⟨gR, 1, none⟩ (.slice rA m.ids.length rc))) := by
            rw [Hid, htl]
            have hM := S9.out.get 4 (o := msOb (Y.map (·.1)) (Y.map (·.2))) rfl
            have hL := hM.2 k hk2
            rw [HG1.out, HG2.out] at hL
            have h1 := SW.again (o' := msOb [⟨m.size, rA, m.ids.length, rc⟩] [m]) S9.out (o := msOb (Y.map (·.1)) (Y.map (·.2))) (.tail _ (.tail _ (.tail _ (.tail _ (.head _))))) (fun _ h => h) ⟨rfl, fun j hj => by
              obtain rfl : j = 0 := by simpa using hj
              exact hL⟩ (fun _ h => h) (fun i hi => by
              obtain ⟨j, hj, hp, o, ho⟩ := hi
              obtain rfl : j = 0 := by simpa using hj
              exact ⟨k, hk2, by rw [HG2.out]; exact hp, o, by rw [HG1.out]; exact ho⟩)
            exact SW.few (pre := [_, _, _, _, _, _, _, _]) h1 [1, 2, 0] (n := 8) rfl (by decide) (by decide)
          refine bodyPost_ret (v := .tuple #[.agg #[.int .i64 m.size, .slice rA m.ids.length rc], .slice B F.length bc, .int .i64 0]) (by simp [results, Tryz.results22, go_sem, e0, e1, Result.andThen]) rfl ?_
          exact .inl ⟨ms, Y.map (·.2), S, m, rA, rc, T, B, bc, HVO.out, HOP.out, HCO.out, HMEM.out, HKEY.out, by rw [HT.out, HF.out], HTX.out, by rw [htl], HSW.out⟩
    · have HN : Hid (∀ m ∈ Y.map (·.2), keyM m ≠ (s, z)) := fun m hm => by
        obtain ⟨p, hp, rfl⟩ := List.mem_map.1 hm
        exact hall (cnOf p) (List.mem_map.2 ⟨p, hp, rfl⟩)
      have S1 := Lib.hid t2
      clear hall t2 HIX
      have z0 := (S1.out.cell 3 rfl).cell 0
      have z1 := (S1.out.cell 3 rfl).cell 1
      have f0 := (S1.out.cell 3 rfl).frozen 0
      have f1 := (S1.out.cell 3 rfl).frozen 1
      have S9 := Lib.hid ((S1.out.setAt 3 rfl 0 (.int .i64 0)).setAt 3 rfl 1 (.slice none 0 0))
      go_wp2_with fail
      have e0 := (S9.out.cell 3 rfl).cell 0
      have e1 := (S9.out.cell 3 rfl).cell 1
      refine bodyPost_ret (v := .tuple #[.agg #[.int .i64 0, .slice none 0 0], .slice none 0 0, .int .i64 413]) (by simp [results, Tryz.results22, go_sem, e0, e1, Result.andThen]) rfl ?_
      exact .inr (.inl ⟨ms, _, S, HVO.out, HOP.out, HCO.out, HN.out, rfl, S9.out.tail.tail.tail.tail.tail⟩)
  · have HNO := Lib.hid hno
    have S1 := Lib.hid t1
    clear hno t1 HM S0
    have z0 := (S1.out.cell 0 rfl).cell 0
    have z1 := (S1.out.cell 0 rfl).cell 1
    have f0 := (S1.out.cell 0 rfl).frozen 0
    have f1 := (S1.out.cell 0 rfl).frozen 1
    have S9 := Lib.hid ((S1.out.setAt 0 rfl 0 (.int .i64 0)).setAt 0 rfl 1 (.slice none 0 0))
    go_wp2_with fail
    have e0 := (S9.out.cell 0 rfl).cell 0
    have e1 := (S9.out.cell 0 rfl).cell 1
    refine bodyPost_ret (v := .tuple #[.agg #[.int .i64 0, .slice none 0 0], .slice none 0 0, .int .i64 412]) (by simp [results, Tryz.results22, go_sem, e0, e1, Result.andThen]) rfl ?_
    exact .inr (.inr ⟨HNO.out, rfl, S9.out.tail.tail⟩)
end
end Go.Proofs.YtmiknfneeipkeaaGreat
namespace Go.Proofs.YtmiknfneeipkeaaGreat
open Go.RowKit Go.MapKept Go.ChangeMaps Go.Shelf Go.Sort
def rgOb (A : Option Addr) (ids : List ID) : Ob where
  own := fun _ => False
  rd := fun i => 0 < ids.length ∧ ∃ o, A = some ⟨i, o, none⟩
  holds := fun w => RdID w w.heap.size A ids
  stable := fun w w' h hs hk hp => by
    obtain ⟨b, o, rfl, hb, _, hc⟩ := h hp
    have hB := hk b (.inr ⟨hp, o, rfl⟩)
    refine ⟨b, o, rfl, Nat.lt_of_lt_of_le hb hs.2.2.2, by have := hs.2.2.2; omega, fun j hj i v hv => ?_⟩
    rw [← hc j hj i v hv]
    simp [World.cell?, hB]
theorem SW.asRg {b : Nat} {w0 w : World} {l : List Ob} (h : SW b w0 l w) {r : MR} {m : Man} (hm : msOb [r] [m] ∈ l) : SW b w0 (rgOb r.A m.ids :: l) w := by
  have hM := h.1.holds _ hm
  exact SW.again (o' := rgOb r.A m.ids) h hm (fun _ h => h) (hM.2 0 (by simp)).2.2.2 (fun _ h => h) (fun i hi => ⟨0, by simp, hi.1, hi.2⟩)
theorem SW.rgCell {b : Nat} {w0 w : World} {l : List Ob} (h : SW b w0 l w) {A : Option Addr} {ids : List ID} (hA : rgOb A ids ∈ l) {k : Nat} (hk : k < ids.length) {i : ID} (hi : ids.getD k id0 = i) : ∃ g o, A = some ⟨g, o, none⟩ ∧ w.cell? ⟨g, o + k * 2, none⟩ = some (.int .u64 i.1) ∧ w.cell? ⟨g, o + k * 2 + 1, none⟩ = some (.int .i64 i.2) := by
  obtain ⟨g, o, hA, _, _, hc⟩ := h.1.holds _ hA (by omega)
  subst hi
  exact ⟨g, o, hA, hc k hk 0 _ rfl, hc k hk 1 _ rfl⟩
theorem manE_size {m : Man} (h : manE m = 0) : m.size = sumZ m.ids ∧ m.size ≤ 1048576 := (manE_zero h).2
abbrev PCe := Nat × Int
def encPc (p : PCe) : List Value := [.int .i64 (p.1 : Int), .int .i64 0, .int .i64 p.2]
theorem encPc_len (p : PCe) : (encPc p).length = 3 := rfl
theorem encPc_one (p : PCe) : ∀ u ∈ encPc p, u.oneCell' = true := by
  intro u hu
  simp [encPc] at hu
  rcases hu with rfl | rfl | rfl <;> rfl
def pie (ids : List ID) (k : Nat) : List PCe := (List.range k).map fun j => (j, (ids.getD j id0).2)
theorem pie_succ (ids : List ID) (k : Nat) : pie ids (k + 1) = pie ids k ++ [(k, (ids.getD k id0).2)] := by simp [pie, List.range_succ]
theorem pie_len (ids : List ID) (k : Nat) : (pie ids k).length = k := by simp [pie]
theorem pie_at (ids : List ID) {k j : Nat} (h : j < k) : (pie ids k).getD j (0, 0) = (j, (ids.getD j id0).2) := by simp [pie, List.getD_eq_getElem?_getD, h]
theorem sum_take_succ {l : List ID} {k : Nat} (h : k < l.length) : sumZ (l.take (k + 1)) = sumZ (l.take k) + (l.getD k id0).2 := by rw [take_snoc _ id0 _ h, sumZ_snoc]
theorem sum_take_le {l : List ID} (hc : l.all chunkB = true) (k : Nat) : 0 ≤ sumZ (l.take k) ∧ sumZ (l.take k) ≤ sumZ l := by
  have h0 : ∀ q : List ID, q.all chunkB = true → 0 ≤ sumZ q := fun q hq => by
    have := (sum_take_bd (l := q) (k := q.length) (by rw [List.take_length]; exact hq)).1
    rwa [List.take_length] at this
  rw [List.all_eq_true] at hc
  have e : sumZ l = sumZ (l.take k) + sumZ (l.drop k) := by
    unfold sumZ
    rw [← List.sum_append, ← List.map_append, List.take_append_drop]
  have h1 := h0 (l.take k) (List.all_eq_true.2 (fun x hx => hc x (List.mem_of_mem_take hx)))
  have h2 := h0 (l.drop k) (List.all_eq_true.2 (fun x hx => hc x (List.mem_of_mem_drop hx)))
  omega
theorem info196 : (Tryz.prog.info? 196).map (fun i => (i.zero, i.size, i.bytes)) = some (some (.agg #[.int .i64 0, .int .i64 0, .int .i64 0]), 3, 24) := by kernel_rfl
section
variable {b : Nat} {w0 w w' : World} {l : List Ob}
set_option maxRecDepth 100000 in
set_option maxHeartbeats 8000000 in
theorem Slice_any (h : SW b w0 l w) (z : Int) (ids : List ID) (A : Option Addr) (c : Nat) (hA : rgOb A ids ∈ l) (hE : manE ⟨z, ids⟩ = 0) :
    Calls Tryz.prog 122 #[.agg #[.int .i64 z, .slice A ids.length c], .int .i64 0, .int .i64 z] w (fun e w' => ∃ v, e = .returned (.tuple #[v, .int .i64 0]) ∧ SW b w0 (rowOb 196 3 v ids.length ((pie ids ids.length).flatMap encPc) :: l) w') := by
  have HA := Lib.hid hA
  have hl : ids.length ≤ 1024 := manE_len hE
  obtain ⟨hs1, hs2⟩ : z = sumZ ids ∧ z ≤ 1048576 := manE_size hE
  have hall : ids.all chunkB = true := manE_all hE
  have hnn := sum_take_le hall ids.length
  rw [List.take_length] at hnn
  have HALL := Lib.hid hall
  have S1 := Lib.hid (h.newCell 33 #[.int .i64 z, .slice A ids.length c])
  have HCK := Lib.hid (manCheck_any _ ⟨z, ids⟩ A c _ (S1.out.1.holds (rgOb A ids) (by simp [HA.out])) (by simp only; omega))
  rw [hE] at HCK
  have HE := Lib.hid hE
  obtain ⟨i1, gi, gz0, gz1, gz2⟩ := info_parts info196
  have HS1 := Lib.hid hs1
  have hz00 : 0 ≤ z := by omega
  clear h hA hall hE hs1 hnn
  have hz0 : decide ((0 : Int) > z) = false := decide_eq_false (by omega)
  have hz1 : decide (z > z) = false := decide_eq_false (by omega)
  go_enter Tryz.func122, Tryz.ntmps122
  go_wp2_with (go_at_call 74; (with_reducible refine HCK.out.mono ?_); refine halt_ ?_)
  rintro e w1 ⟨rfl, hb1⟩
  have S2 := Lib.hid (S1.out.on hb1)
  have m0 : w1.cell? ⟨w.heap.size, 0, none⟩ = some (.int .i64 z) := (S2.out.cell 0 rfl).cell 0
  have m1 : w1.cell? ⟨w.heap.size, 1, none⟩ = some (.slice A ids.length c) := (S2.out.cell 0 rfl).cell 1
  clear hb1 HCK S1
  go_wp2_with fail
  go_loopw [9, 10, 36] (fun s9 s10 s36 wr => ∃ k : Nat, k ≤ ids.length ∧ s36 = .int .i64 (k : Int) ∧ s10 = .int .i64 (sumZ (ids.take k)) ∧ SW b w0 (rowOb 196 3 s9 k ((pie ids k).flatMap encPc) :: cellOb w.heap.size 33 #[.int .i64 z, .slice A ids.length c] :: l) wr) (fun _ _ s36 _ => ids.length - (intOf s36).toNat)
  case atStart => exact ⟨0, Nat.zero_le _, rfl, rfl, S2.out.newRow 196 3⟩
  case round =>
    obtain ⟨k, hk, rfl, rfl, hs⟩ := hrel
    have S3 := Lib.hid hs
    clear hs S2 m0 m1
    by_cases hlt : k < ids.length
    · obtain ⟨i, hik⟩ : ∃ i, ids.getD k id0 = i := ⟨_, rfl⟩
      obtain ⟨g1, o1, e1, a0, a1⟩ := S3.out.rgCell (A := A) (ids := ids) (by simp [HA.out]) hlt hik
      have hch : chunkB i = true := by
        have h1 := HALL.out
        rw [List.all_eq_true] at h1
        exact h1 i (by rw [← hik]; exact getD_mem _ _ _ hlt)
      obtain ⟨hc1, hc2⟩ := chunkB_sound hch
      obtain ⟨b1, b2⟩ := sum_take_le HALL.out k
      obtain ⟨b3, b4⟩ := sum_take_le HALL.out (k + 1)
      have hss := sum_take_succ hlt
      rw [hik] at hss
      have HSS := Lib.hid hss
      have HPS : Hid (pie ids (k + 1) = pie ids k ++ [(k, i.2)]) := by rw [Hid, pie_succ, hik]
      rw [hss] at b3 b4
      obtain ⟨N, HN⟩ : ∃ N, Hid (sumZ (ids.take k) = N) := ⟨_, rfl⟩
      rw [HN.out] at HSS b1 b2 b3 b4 ⊢
      rw [← HS1.out] at b2 b4
      subst e1
      clear hik hch hss
      have hwr : IntKind.i64.wrap (N + i.2) = N + i.2 := IntWalk.i64_in _ (by omega)
      have hmx : max 0 N = N := Int.max_eq_right b1
      have hmn : min z (N + i.2) = N + i.2 := Int.min_eq_right (by omega)
      have HMX := Lib.hid hmx
      have HMN := Lib.hid hmn
      clear hmx hmn
      have hw0 : IntKind.i64.wrap (N - N) = 0 := by rw [Int.sub_self]; exact IntWalk.i64_in _ (by omega)
      have hw1 : IntKind.i64.wrap (N + i.2 - N) = i.2 := by rw [Int.add_comm, Int.add_sub_cancel]; exact IntWalk.i64_in _ (by omega)
      have hlt2 : decide (N < N + i.2) = true := decide_eq_true (by omega)
      have hki : (k : Int) < (ids.length : Int) := by omega
      have S4 := Lib.hid (S3.out.newCell 36 #[.int .u64 i.1, .int .i64 i.2])
      have d1 : (wr.alloc (.cells #[.int .u64 i.1, .int .i64 i.2] 36)).cell? ⟨wr.heap.size, 1, none⟩ = some (.int .i64 i.2) := (S4.out.cell 0 rfl).cell 1
      go_upto_region 11 with fail
      generalize wr.alloc (.cells #[.int .u64 i.1, .int .i64 i.2] 36) = W4 at S4 d1 ⊢
      clear S3 a0 a1
      go_region
      rw [HMX.out, HMN.out]
      have S5 := Lib.hid S4.out.drew
      clear S4 d1
      generalize W4.drew = W5 at S5 ⊢
      have S6 : Hid (SW b w0 (rowOb 196 3 u9 k ((pie ids k).flatMap encPc) :: cellOb wr.heap.size 36 #[.int .u64 i.1, .int .i64 i.2] :: cellOb w.heap.size 33 #[.int .i64 z, .slice (some ⟨g1, o1, none⟩) ids.length c] :: l) W5) := SW.front (pre := [_, _]) S5.out [1, 0] (n := 2) rfl (by decide)
      clear S5
      go_wp2_with (at_builtin; (refine wpList_rowS (t := 188) (e := 196) (size := 3) (bytes := 24) (i := i1) (S6.out.alloc _) 0 rfl (by rfl) (.tmp 53) (.tmp 62) (by rfl) Tryz.underlying188 gi gz0 gz1 gz2 rfl (by omega) (by rfl) ⟨W5.heap.size, 0, none⟩ 1 [.int .i64 (k : Int), .int .i64 0, .int .i64 i.2] (by rfl) rfl (mthree_new W5 _ _ _ 196 _ rfl) (encPc_one (k, i.2)) (by unfold maxLen; omega) (by omega) ?_); refine halt_ ?_)
      intro v4 w6 s7
      have S7 : Hid (SW b w0 (rowOb 196 3 v4 (k + 1) ((pie ids (k + 1)).flatMap encPc) :: cellOb wr.heap.size 36 #[.int .u64 i.1, .int .i64 i.2] :: cellOb w.heap.size 33 #[.int .i64 z, .slice (some ⟨g1, o1, none⟩) ids.length c] :: l) w6) := by
        rw [Hid, HPS.out, List.flatMap_append]
        exact s7
      have d1 : w6.cell? ⟨wr.heap.size, 1, none⟩ = some (.int .i64 i.2) := (S7.out.cell 1 rfl).cell 1
      clear s7 S6
      go_wp2_with fail
      go_roundw
      case rel => exact ⟨k + 1, by omega, by go_num, by rw [HSS.out], SW.few (pre := [_, _, _]) S7.out [0, 2] (n := 3) rfl (by decide) (by decide)⟩
      case measure => simp [intOf]; omega
    · obtain rfl : k = ids.length := by omega
      go_wp2_with fail
      go_ret2
      exact ⟨_, rfl, SW.few (pre := [_, _]) S3.out [0] (n := 2) rfl (by decide) (by decide)⟩
end
end Go.Proofs.YtmiknfneeipkeaaGreat
namespace Go.Proofs.YtmiknfneeipkeaaGreat
open Go.RowKit Go.MapKept Go.ChangeMaps Go.Shelf Go.Sort
def fstL (T : List CH) : List (ID × BS) := T.foldl (fun L e => if (asc L e.1).isSome then L else setL L e.1 e.2) []
theorem fstL_snoc (T : List CH) (e : CH) : fstL (T ++ [e]) = if (asc (fstL T) e.1).isSome then fstL T else setL (fstL T) e.1 e.2 := by
  unfold fstL
  rw [List.foldl_append]
  rfl
theorem zero40 (W : World) : (zeroValue 40).run Tryz.prog W = .ok (.slice none 0 0) W := by kernel_rfl
section
variable {b : Nat} {w0 w w' : World} {l : List Ob}
set_option maxRecDepth 100000 in
set_option maxHeartbeats 8000000 in
theorem shelf_any (h : SW b w0 l w) {A : Option Addr} {T : List CH} (hA : cxOb A T ∈ l) (hok : ∀ e ∈ T, okID e.1) (c : Nat) (hn : T.length ≤ 100000) :
    Calls Tryz.prog 123 #[.slice A T.length c] w (fun e w' => ∃ m1 m2, e = .returned (.agg #[.map (some m1), .map (some m2)]) ∧ SW b w0 (mpOb okID vID vBS m1 (fstL T) :: mpOb okID vID vB1 m2 ([] : List (ID × Bool)) :: l) w') := by
  have HA := Lib.hid hA
  have HOK := Lib.hid hok
  have hmk : ∀ W : World, (Instr.makeMap 191 (some (.int .i64 (T.length : Int)))).run Tryz.prog W = .ok (.map (some W.heap.size)) (W.alloc (.map #[] 0)) := fun W => by simp [Instr.makeMap, run_underlying Tryz.underlying191, asInt, asIntOf]
  have hmk2 : ∀ W : World, (Instr.makeMap 146 none).run Tryz.prog W = .ok (.map (some W.heap.size)) (W.alloc (.map #[] 0)) := fun W => by simp [Instr.makeMap, run_underlying Tryz.underlying146, asInt, asIntOf]
  have S0 := Lib.hid (h.newCell 193 #[.map none, .map none])
  have S1 := Lib.hid ((S0.out.addMp (ok := okID) (kv := vID) (vv := vBS)).addMp (ok := okID) (kv := vID) (vv := vB1))
  clear h hA hok
  go_enter Tryz.func123, Tryz.ntmps123
  go_upto_region 2 with fail
  have S2 : Hid (SW b w0 (cellOb (w.heap.size + 1 + 1 + 1) 193 #[.map (some (w.heap.size + 1)), .map (some (w.heap.size + 1 + 1))] :: mpOb okID vID vB1 (w.heap.size + 1 + 1) ([] : List (ID × Bool)) :: mpOb okID vID vBS (w.heap.size + 1) ([] : List (ID × BS)) :: cellOb w.heap.size 193 #[.map none, .map none] :: l) ((((w.alloc (.cells #[.map none, .map none] 193)).alloc (.map #[] 0)).alloc (.map #[] 0)).alloc (.cells #[.map (some (w.heap.size + 1)), .map (some (w.heap.size + 1 + 1))] 193))) := by
    have := S1.out.newCell 193 #[.map (some (w.heap.size + 1)), .map (some (w.heap.size + 1 + 1))]
    rw [Hid]
    simpa using this
  clear S0 S1 hmk hmk2
  obtain ⟨g3, HG3⟩ : ∃ g3, Hid (w.heap.size + 1 + 1 + 1 = g3) := ⟨_, rfl⟩
  rw [HG3.out] at S2 ⊢
  obtain ⟨m2, HM2⟩ : ∃ m2, Hid (w.heap.size + 1 + 1 = m2) := ⟨_, rfl⟩
  rw [HM2.out] at S2 ⊢
  obtain ⟨m1, HM1⟩ : ∃ m1, Hid (w.heap.size + 1 = m1) := ⟨_, rfl⟩
  rw [HM1.out] at S2 ⊢
  obtain ⟨g2, HG2⟩ : ∃ g2, Hid (w.heap.size = g2) := ⟨_, rfl⟩
  rw [HG2.out] at S2 ⊢
  have HNE : Hid (g2 ≠ g3) := by rw [← HG2.out, ← HG3.out, Hid]; omega
  generalize (((w.alloc (Obj.cells #[Value.map none, Value.map none] 193)).alloc (Obj.map #[] 0)).alloc (Obj.map #[] 0)).alloc (Obj.cells #[Value.map (some m1), Value.map (some m2)] 193) = W2 at S2 ⊢
  clear HG3 HM2 HM1 HG2
  go_wp2_with fail
  go_loopw [15] (fun s15 wr => ∃ k : Nat, k ≤ T.length ∧ s15 = .int .i64 (k : Int) ∧ SW b w0 (cellOb g3 193 #[.map (some m1), .map (some m2)] :: mpOb okID vID vB1 m2 ([] : List (ID × Bool)) :: mpOb okID vID vBS m1 (fstL (T.take k)) :: cellOb g2 193 #[.map none, .map none] :: l) wr) (fun s15 _ => T.length - (intOf s15).toNat)
  case atStart => exact ⟨0, Nat.zero_le _, rfl, S2.out⟩
  case round =>
    obtain ⟨k, hk, rfl, hs⟩ := hrel
    have S3 := Lib.hid hs
    clear hs S2
    by_cases hlt : k < T.length
    · obtain ⟨⟨i, e⟩, HE⟩ : ∃ p : CH, Hid (T.getD k ch0 = p) := ⟨_, rfl⟩
      obtain ⟨g, oT, hAe, _, a0, a1, a2, hbs⟩ := cx_at (S3.out.1.holds (cxOb A T) (by simp [HA.out])) hlt HE.out
      have HLE := Lib.hid hbs.2.1
      rw [← HLE.out] at a2
      clear hbs
      have hoki : okID i := HOK.out (i, e) (by rw [← HE.out]; exact getD_mem _ _ _ hlt)
      have HTS : Hid (fstL (T.take (k + 1)) = if (asc (fstL (T.take k)) i).isSome then fstL (T.take k) else setL (fstL (T.take k)) i e) := by rw [Hid, take_snoc _ ch0 _ hlt, fstL_snoc, HE.out]
      have S4 := Lib.hid (S3.out.newCell 42 #[.int .u64 i.1, .int .i64 i.2, .slice e.d.A e.d.len e.d.cap])
      subst hAe
      have m0 : (wr.alloc (.cells #[.int .u64 i.1, .int .i64 i.2, .slice e.d.A e.d.len e.d.cap] 42)).cell? ⟨g3, 0, none⟩ = some (.map (some m1)) := (S4.out.cell 1 rfl).cell 0
      have d0 : (wr.alloc (.cells #[.int .u64 i.1, .int .i64 i.2, .slice e.d.A e.d.len e.d.cap] 42)).cell? ⟨wr.heap.size, 0, none⟩ = some (.int .u64 i.1) := (S4.out.cell 0 rfl).cell 0
      have d1 : (wr.alloc (.cells #[.int .u64 i.1, .int .i64 i.2, .slice e.d.A e.d.len e.d.cap] 42)).cell? ⟨wr.heap.size, 1, none⟩ = some (.int .i64 i.2) := (S4.out.cell 0 rfl).cell 1
      have d2 : (wr.alloc (.cells #[.int .u64 i.1, .int .i64 i.2, .slice e.d.A e.d.len e.d.cap] 42)).cell? ⟨wr.heap.size, 2, none⟩ = some (.slice e.d.A e.d.len e.d.cap) := (S4.out.cell 0 rfl).cell 2
      have hlk := MapIs.look mkI Tryz.underlying191 (zero40 (wr.alloc (.cells #[.int .u64 i.1, .int .i64 i.2, .slice e.d.A e.d.len e.d.cap] 42))) (S4.out.get 3 (o := mpOb okID vID vBS m1 (fstL (T.take k))) rfl) hoki true
      go_upto_region 5 with fail
      generalize wr.alloc (.cells #[.int .u64 i.1, .int .i64 i.2, .slice e.d.A e.d.len e.d.cap] 42) = W4 at S4 m0 d0 d1 d2 hlk ⊢
      clear S3 a0 a1 a2
      cases hx : asc (fstL (T.take k)) i with
      | some v =>
        rw [hx] at hlk HTS
        have hlk : (Instr.lookup 191 (.map (some m1)) (.agg #[.int .u64 i.1, .int .i64 i.2]) true).run Tryz.prog W4 = .ok (.tuple #[vBS v, .bool true]) W4 := hlk
        have HTS2 : Hid (fstL (T.take (k + 1)) = fstL (T.take k)) := by rw [HTS.out]; rfl
        clear hx HTS
        go_wp2_with fail
        go_roundw
        case rel =>
          refine ⟨k + 1, by omega, by go_num, ?_⟩
          rw [HTS2.out]
          exact S4.out.tail
        case measure => simp [intOf]; omega
      | none =>
        rw [hx] at hlk HTS
        have hlk : (Instr.lookup 191 (.map (some m1)) (.agg #[.int .u64 i.1, .int .i64 i.2]) true).run Tryz.prog W4 = .ok (.tuple #[.slice none 0 0, .bool false]) W4 := hlk
        have HTS2 : Hid (fstL (T.take (k + 1)) = setL (fstL (T.take k)) i e) := by rw [HTS.out]; rfl
        obtain ⟨w5, hu, hm5, hg5, hz5⟩ := MapIs.update mkI Tryz.underlying191 (S4.out.get 3 (o := mpOb okID vID vBS m1 (fstL (T.take k))) rfl) hoki e
        have hu' : (Instr.mapUpdate 191 (.map (some m1)) (.agg #[.int .u64 i.1, .int .i64 i.2]) (.slice e.d.A e.d.len e.d.cap)).run Tryz.prog W4 = .ok () w5 := hu
        have S5 := Lib.hid (S4.out.updMp 3 rfl hm5 hg5)
        clear hx HTS hu hm5 hg5 hz5 S4
        go_wp2_with fail
        go_roundw
        case rel =>
          refine ⟨k + 1, by omega, by go_num, ?_⟩
          rw [HTS2.out]
          exact S5.out.tail
        case measure => simp [intOf]; omega
    · obtain rfl : k = T.length := by omega
      rw [List.take_length] at S3
      have m0 := (S3.out.cell 0 rfl).cell 0
      have m1' := (S3.out.cell 0 rfl).cell 1
      have n0 := (S3.out.cell 3 rfl).cell 0
      have n1 := (S3.out.cell 3 rfl).cell 1
      have f0 := (S3.out.cell 3 rfl).frozen 0
      have f1 := (S3.out.cell 3 rfl).frozen 1
      have hne := HNE.out
      have S4 := Lib.hid ((S3.out.setAt 3 rfl 0 (.map (some m1))).setAt 3 rfl 1 (.map (some m2)))
      clear S3
      go_upto_region 9 with fail
      go_wp2_with fail
      generalize (wr.setCell ⟨g2, 0, none⟩ (.map (some m1))).setCell ⟨g2, 1, none⟩ (.map (some m2)) = WF at S4 ⊢
      have q0 := (S4.out.cell 3 rfl).cell 0
      have q1 := (S4.out.cell 3 rfl).cell 1
      refine bodyPost_ret (v := .agg #[.map (some m1), .map (some m2)]) ?_ rfl ⟨m1, m2, rfl, SW.few (pre := [_, _, _, _]) S4.out [2, 1] (n := 4) rfl (by decide) (by decide)⟩
      simp [results, Tryz.results123, go_sem, q0, q1]
end
end Go.Proofs.YtmiknfneeipkeaaGreat
