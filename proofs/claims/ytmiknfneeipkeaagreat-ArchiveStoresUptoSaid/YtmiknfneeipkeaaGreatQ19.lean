/- Contracts of the walk, part 19. -/
import Derived.Test.YtmiknfneeipkeaaGreatQ18
namespace Go.Proofs.YtmiknfneeipkeaaGreat
open Go.RowKit Go.MapKept Go.ChangeMaps
attribute [local go_sem] wext_cell
section
variable {b : Nat} {w0 w : World} {l t : List Ob} {o o' : Ob} {A : Option Addr} {m cm : Nat}
/-- A thing seen in another way. -/
theorem SW.seen (h : SW b w0 (o :: t) w) (hh : o'.holds w) (ho : ∀ i, o'.own i → o.own i) (hr : ∀ i, ¬ o'.rd i) : SW b w0 (o' :: t) w := by
  have ha := List.pairwise_cons.1 h.1.apart
  refine ⟨⟨h.1.base, fun y hy => ?_, fun y hy i hi => ?_, fun y hy i hi => ?_, List.pairwise_cons.2 ⟨fun y hy => ⟨fun i hi => (ha.1 y hy).1 i (ho i hi), fun i hi hr' => absurd hr' (hr i)⟩, ha.2⟩⟩, h.2⟩
  · rcases List.mem_cons.1 hy with rfl | hy
    · exact hh
    · exact h.1.holds y (List.mem_cons_of_mem _ hy)
  · rcases List.mem_cons.1 hy with rfl | hy
    · exact h.1.own o (List.mem_cons_self ..) i (ho i hi)
    · exact h.1.own y (List.mem_cons_of_mem _ hy) i hi
  · rcases List.mem_cons.1 hy with rfl | hy
    · exact absurd hi (hr i)
    · exact h.1.rd y (List.mem_cons_of_mem _ hy) i hi
/-- A block of one element is a row. -/
theorem SW.oneRow {g : Nat} {e : TypeId} {cs : Array Value} {size : Nat} (h : SW b w0 (cellOb g e cs :: l) w) (hs : cs.size = size) : SW b w0 (rowOb e size (.slice (some ⟨g, 0, none⟩) 1 1) 1 cs.toList :: l) w := by
  refine h.seen (o' := rowOb e size (.slice (some ⟨g, 0, none⟩) 1 1) 1 cs.toList) ⟨by simp [hs], .inr ⟨g, 1, cs, rfl, Nat.zero_le _, h.cell 0 rfl, Nat.le_refl _, by unfold maxLen; omega, by omega, ?_⟩⟩ (fun i hi => ?_) (fun i hi => hi.elim)
  · rw [List.take_of_length_le (by simp [hs])]
  · injection (hi : some g = some i) with hi
    exact hi.symm
theorem encR_at (i : Int) : encR i = [.string pA, .int .i64 i, .int .i64 (10 * i), .int .i64 (actI i), .int .i64 1, .bool false, .bool false, .bool false, .int .u64 i, .int .i64 1, .string ⟨#[]⟩, .int .i64 0] := rfl
set_option maxRecDepth 100000 in
set_option maxHeartbeats 8000000 in
theorem line_any (h : SW b w0 l w) (hv : rvOb A m ∈ l) (h0 : 0 < m) (hm : m ≤ 100) : Calls Tryz.prog 142 #[.agg #[.slice A m cm, .slice none 0 0], vF (pA, 1)] w (fun e w' => ∃ A' c', e = .returned (.slice A' m c') ∧ SW b w0 (rowOb 111 12 (.slice A' m c') m ((revs m).flatMap encR) :: l) w') := by
  have S0 : Hid (SW b w0 (cellOb (w.heap.size + 1) 168 #[.string pA, .int .i64 1] :: cellOb w.heap.size 96 #[.slice A m cm, .slice none 0 0] :: l) _) := Lib.hid ((h.newCell 96 #[.slice A m cm, .slice none 0 0]).newCellAt 168 #[.string pA, .int .i64 1] (H := w.heap.size + 1) (by simp))
  have HV := Lib.hid hv
  clear h hv
  go_enter Tryz.func142, Tryz.ntmps142
  go_upto_region 1 with fail
  obtain ⟨w1, HW⟩ : ∃ W, Hid ((w.alloc (.cells #[.slice A m cm, .slice none 0 0] 96)).alloc (.cells #[.string pA, .int .i64 1] 168) = W) := ⟨_, rfl⟩
  rw [HW.out] at S0 ⊢
  clear HW
  obtain ⟨g3, HG3⟩ : ∃ x, Hid (w.heap.size + 1 = x) := ⟨_, rfl⟩
  rw [HG3.out] at S0 ⊢
  clear HG3
  obtain ⟨g2, HG2⟩ : ∃ x, Hid (w.heap.size = x) := ⟨_, rfl⟩
  rw [HG2.out] at S0 ⊢
  clear HG2
  have d0 : w1.cell? ⟨g2, 0, none⟩ = some (.slice A m cm) := (S0.out.cell 1 rfl).cell 0
  have d1 : w1.cell? ⟨g2, 1, none⟩ = some (.slice none 0 0) := (S0.out.cell 1 rfl).cell 1
  have e0 : w1.cell? ⟨g3, 0, none⟩ = some (.string pA) := (S0.out.cell 0 rfl).cell 0
  have e1 : w1.cell? ⟨g3, 1, none⟩ = some (.int .i64 1) := (S0.out.cell 0 rfl).cell 1
  have HGT := Lib.hid (get_any (cm := cm) S0.out (List.mem_cons_of_mem _ (List.mem_cons_of_mem _ HV.out)) h0 hm)
  go_wp2_with (go_at_call 183; (with_reducible refine HGT.out.mono ?_); refine halt_ ?_)
  rintro e w2 ⟨rfl, hb2⟩
  have S1 := Lib.hid (S0.out.on hb2)
  clear hb2 HGT S0 d0 d1 e0 e1
  have S2a := Lib.hid (S1.out.newCell 111 #[.string pA, .int .i64 1, .int .i64 10, .int .i64 1, .int .i64 1, .bool false, .bool false, .bool false, .int .u64 1, .int .i64 1, .string ⟨#[]⟩, .int .i64 0])
  go_upto_region 2 with fail
  obtain ⟨w3, HW⟩ : ∃ W, Hid (w2.alloc (.cells #[.string pA, .int .i64 1, .int .i64 10, .int .i64 1, .int .i64 1, .bool false, .bool false, .bool false, .int .u64 1, .int .i64 1, .string ⟨#[]⟩, .int .i64 0] 111) = W) := ⟨_, rfl⟩
  obtain ⟨g5, HX⟩ : ∃ x, Hid (w2.heap.size = x) := ⟨_, rfl⟩
  rw [HW.out, HX.out] at S2a ⊢
  clear HW HX S1
  have S2 := S2a
  clear S2a
  have c0 : w3.cell? ⟨g5, 0, none⟩ = some (.string pA) := (S2.out.cell 0 rfl).cell 0
  have c1 : w3.cell? ⟨g5, 1, none⟩ = some (.int .i64 1) := (S2.out.cell 0 rfl).cell 1
  have c2 : w3.cell? ⟨g5, 2, none⟩ = some (.int .i64 10) := (S2.out.cell 0 rfl).cell 2
  have c3 : w3.cell? ⟨g5, 3, none⟩ = some (.int .i64 1) := (S2.out.cell 0 rfl).cell 3
  have c4 : w3.cell? ⟨g5, 4, none⟩ = some (.int .i64 1) := (S2.out.cell 0 rfl).cell 4
  have c5 : w3.cell? ⟨g5, 5, none⟩ = some (.bool false) := (S2.out.cell 0 rfl).cell 5
  have c6 : w3.cell? ⟨g5, 6, none⟩ = some (.bool false) := (S2.out.cell 0 rfl).cell 6
  have c7 : w3.cell? ⟨g5, 7, none⟩ = some (.bool false) := (S2.out.cell 0 rfl).cell 7
  have c8 : w3.cell? ⟨g5, 8, none⟩ = some (.int .u64 1) := (S2.out.cell 0 rfl).cell 8
  have c9 : w3.cell? ⟨g5, 9, none⟩ = some (.int .i64 1) := (S2.out.cell 0 rfl).cell 9
  have c10 : w3.cell? ⟨g5, 10, none⟩ = some (.string ⟨#[]⟩) := (S2.out.cell 0 rfl).cell 10
  have c11 : w3.cell? ⟨g5, 11, none⟩ = some (.int .i64 0) := (S2.out.cell 0 rfl).cell 11
  have S3a := Lib.hid ((S2.out.newCell 111 #[.string pA, .int .i64 1, .int .i64 10, .int .i64 1, .int .i64 1, .bool false, .bool false, .bool false, .int .u64 1, .int .i64 1, .string ⟨#[]⟩, .int .i64 0]).oneRow (size := 12) rfl)
  go_upto_region 5 with fail
  obtain ⟨w4, HW⟩ : ∃ W, Hid (w3.alloc (.cells #[.string pA, .int .i64 1, .int .i64 10, .int .i64 1, .int .i64 1, .bool false, .bool false, .bool false, .int .u64 1, .int .i64 1, .string ⟨#[]⟩, .int .i64 0] 111) = W) := ⟨_, rfl⟩
  obtain ⟨g7, HX⟩ : ∃ x, Hid (w3.heap.size = x) := ⟨_, rfl⟩
  rw [HW.out, HX.out] at S3a ⊢
  clear HW HX S2 c0 c1 c2 c3 c4 c5 c6 c7 c8 c9 c10 c11
  have S3 : Hid (SW b w0 (rowOb 111 12 (.slice (some ⟨g7, 0, none⟩) 1 1) 1 ((revs 1).flatMap encR) :: cellOb g2 96 #[.slice A m cm, .slice none 0 0] :: l) w4) := SW.few (pre := [_, _, _, _]) S3a.out [0, 3] (n := 4) rfl (by decide) (by decide)
  clear S3a
  have d0 : w4.cell? ⟨g2, 0, none⟩ = some (.slice A m cm) := (S3.out.cell 1 rfl).cell 0
  go_wp2_with fail
  clear d0
  go_loopw [7, 32] (fun s7 s32 wr => ∃ (k : Nat), s32 = .int .i64 (k : Int) ∧ k ≤ m ∧ ∃ (A' : Option Addr) (c' : Nat), s7 = .slice A' (max k 1) c' ∧ SW b w0 (rowOb 111 12 (.slice A' (max k 1) c') (max k 1) ((revs (max k 1)).flatMap encR) :: l) wr) (fun _ s32 _ => m - (intOf s32).toNat)
  case atStart => exact ⟨0, rfl, Nat.zero_le _, some ⟨g7, 0, none⟩, 1, rfl, SW.few (pre := [_, _]) S3.out [0] (n := 2) rfl (by decide) (by decide)⟩
  case round =>
    obtain ⟨k, rfl, hkm, AX, cX, rfl, hs⟩ := hrel
    clear S3
    by_cases hlt : k < m
    · by_cases h0k : k = 0
      · obtain ⟨gr, hA, hgr, hc⟩ := rv_at (hs.1.holds (rvOb A m) (List.mem_cons_of_mem _ HV.out)) hlt
        subst hA
        subst h0k
        have S1 : Hid (SW b w0 (rowOb 111 12 (.slice AX 1 cX) 1 ((revs 1).flatMap encR) :: l) wr) := hs
        clear hs
        have c0 : wr.cell? ⟨gr, 0, none⟩ = some (.string pA) := hc 0 (by omega)
        have c1 : wr.cell? ⟨gr, 1, none⟩ = some (.int .i64 1) := hc 1 (by omega)
        have c2 : wr.cell? ⟨gr, 2, none⟩ = some (.int .i64 10) := hc 2 (by omega)
        have c3 : wr.cell? ⟨gr, 3, none⟩ = some (.int .i64 1) := hc 3 (by omega)
        have c4 : wr.cell? ⟨gr, 4, none⟩ = some (.int .i64 1) := hc 4 (by omega)
        have c5 : wr.cell? ⟨gr, 5, none⟩ = some (.bool false) := hc 5 (by omega)
        have c6 : wr.cell? ⟨gr, 6, none⟩ = some (.bool false) := hc 6 (by omega)
        have c7 : wr.cell? ⟨gr, 7, none⟩ = some (.bool false) := hc 7 (by omega)
        have c8 : wr.cell? ⟨gr, 8, none⟩ = some (.int .u64 1) := hc 8 (by omega)
        have c9 : wr.cell? ⟨gr, 9, none⟩ = some (.int .i64 1) := hc 9 (by omega)
        have c10 : wr.cell? ⟨gr, 10, none⟩ = some (.string ⟨#[]⟩) := hc 10 (by omega)
        have c11 : wr.cell? ⟨gr, 11, none⟩ = some (.int .i64 0) := hc 11 (by omega)
        clear hc
        have S2a := Lib.hid (S1.out.newCell 111 #[.string pA, .int .i64 1, .int .i64 10, .int .i64 1, .int .i64 1, .bool false, .bool false, .bool false, .int .u64 1, .int .i64 1, .string ⟨#[]⟩, .int .i64 0])
        go_upto_region 8 with fail
        obtain ⟨w5, HW⟩ : ∃ W, Hid (wr.alloc (.cells #[.string pA, .int .i64 1, .int .i64 10, .int .i64 1, .int .i64 1, .bool false, .bool false, .bool false, .int .u64 1, .int .i64 1, .string ⟨#[]⟩, .int .i64 0] 111) = W) := ⟨_, rfl⟩
        obtain ⟨g9, HX⟩ : ∃ x, Hid (wr.heap.size = x) := ⟨_, rfl⟩
        rw [HW.out, HX.out] at S2a ⊢
        clear HW HX S1 c0 c1 c2 c3 c4 c5 c6 c7 c8 c9 c10 c11
        have S2 := S2a
        clear S2a
        have c0 : w5.cell? ⟨g9, 0, none⟩ = some (.string pA) := (S2.out.cell 0 rfl).cell 0
        have c1 : w5.cell? ⟨g9, 1, none⟩ = some (.int .i64 1) := (S2.out.cell 0 rfl).cell 1
        have c2 : w5.cell? ⟨g9, 2, none⟩ = some (.int .i64 10) := (S2.out.cell 0 rfl).cell 2
        have c3 : w5.cell? ⟨g9, 3, none⟩ = some (.int .i64 1) := (S2.out.cell 0 rfl).cell 3
        have c4 : w5.cell? ⟨g9, 4, none⟩ = some (.int .i64 1) := (S2.out.cell 0 rfl).cell 4
        have c5 : w5.cell? ⟨g9, 5, none⟩ = some (.bool false) := (S2.out.cell 0 rfl).cell 5
        have c6 : w5.cell? ⟨g9, 6, none⟩ = some (.bool false) := (S2.out.cell 0 rfl).cell 6
        have c7 : w5.cell? ⟨g9, 7, none⟩ = some (.bool false) := (S2.out.cell 0 rfl).cell 7
        have c8 : w5.cell? ⟨g9, 8, none⟩ = some (.int .u64 1) := (S2.out.cell 0 rfl).cell 8
        have c9 : w5.cell? ⟨g9, 9, none⟩ = some (.int .i64 1) := (S2.out.cell 0 rfl).cell 9
        have c10 : w5.cell? ⟨g9, 10, none⟩ = some (.string ⟨#[]⟩) := (S2.out.cell 0 rfl).cell 10
        have c11 : w5.cell? ⟨g9, 11, none⟩ = some (.int .i64 0) := (S2.out.cell 0 rfl).cell 11
        go_wp2_with fail
        go_roundw
        case rel => exact ⟨1, by go_num, by omega, AX, cX, rfl, S2.out.tail⟩
        case measure => simp [intOf]; omega
      · obtain ⟨gr, hA, hgr, hc⟩ := rv_at (hs.1.holds (rvOb A m) (List.mem_cons_of_mem _ HV.out)) hlt
        subst hA
        obtain ⟨j, rfl⟩ : ∃ j, k = j + 1 := ⟨k - 1, by omega⟩
        have hmx : max (j + 1) 1 = j + 1 := by omega
        rw [hmx] at hs ⊢
        have S1 : Hid (SW b w0 (rowOb 111 12 (.slice AX (j + 1) cX) (j + 1) ((revs (j + 1)).flatMap encR) :: l) wr) := hs
        clear hs
        obtain ⟨i, HI⟩ : ∃ i, Hid (((j + 1 : Nat) : Int) + 1 = i) := ⟨_, rfl⟩
        obtain ⟨ci, HC⟩ : ∃ ci, Hid (10 * i = ci) := ⟨_, rfl⟩
        have HA : Hid (actI i = 2) := by rw [Hid, actI, if_neg (by have := HI.out; omega)]
        have hcc : ∀ c, c < 12 → wr.cell? ⟨gr, (j + 1) * 12 + c, none⟩ = [Value.string pA, .int .i64 i, .int .i64 ci, .int .i64 2, .int .i64 1, .bool false, .bool false, .bool false, .int .u64 i, .int .i64 1, .string ⟨#[]⟩, .int .i64 0][c]? := fun c h => by
          rw [hc c h, HI.out, ← HC.out, ← HA.out]
          rfl
        have c0 : wr.cell? ⟨gr, (j + 1) * 12, none⟩ = some (.string pA) := hcc 0 (by omega)
        have c1 : wr.cell? ⟨gr, (j + 1) * 12 + 1, none⟩ = some (.int .i64 i) := hcc 1 (by omega)
        have c2 : wr.cell? ⟨gr, (j + 1) * 12 + 2, none⟩ = some (.int .i64 ci) := hcc 2 (by omega)
        have c3 : wr.cell? ⟨gr, (j + 1) * 12 + 3, none⟩ = some (.int .i64 2) := hcc 3 (by omega)
        have c4 : wr.cell? ⟨gr, (j + 1) * 12 + 4, none⟩ = some (.int .i64 1) := hcc 4 (by omega)
        have c5 : wr.cell? ⟨gr, (j + 1) * 12 + 5, none⟩ = some (.bool false) := hcc 5 (by omega)
        have c6 : wr.cell? ⟨gr, (j + 1) * 12 + 6, none⟩ = some (.bool false) := hcc 6 (by omega)
        have c7 : wr.cell? ⟨gr, (j + 1) * 12 + 7, none⟩ = some (.bool false) := hcc 7 (by omega)
        have c8 : wr.cell? ⟨gr, (j + 1) * 12 + 8, none⟩ = some (.int .u64 i) := hcc 8 (by omega)
        have c9 : wr.cell? ⟨gr, (j + 1) * 12 + 9, none⟩ = some (.int .i64 1) := hcc 9 (by omega)
        have c10 : wr.cell? ⟨gr, (j + 1) * 12 + 10, none⟩ = some (.string ⟨#[]⟩) := hcc 10 (by omega)
        have c11 : wr.cell? ⟨gr, (j + 1) * 12 + 11, none⟩ = some (.int .i64 0) := hcc 11 (by omega)
        clear hcc
        clear hc
        have S2a := Lib.hid (S1.out.newCell 111 #[.string pA, .int .i64 i, .int .i64 ci, .int .i64 2, .int .i64 1, .bool false, .bool false, .bool false, .int .u64 i, .int .i64 1, .string ⟨#[]⟩, .int .i64 0])
        go_upto_region 8 with fail
        obtain ⟨w5, HW⟩ : ∃ W, Hid (wr.alloc (.cells #[.string pA, .int .i64 i, .int .i64 ci, .int .i64 2, .int .i64 1, .bool false, .bool false, .bool false, .int .u64 i, .int .i64 1, .string ⟨#[]⟩, .int .i64 0] 111) = W) := ⟨_, rfl⟩
        obtain ⟨g9, HX⟩ : ∃ x, Hid (wr.heap.size = x) := ⟨_, rfl⟩
        rw [HW.out, HX.out] at S2a ⊢
        clear HW HX S1 c0 c1 c2 c3 c4 c5 c6 c7 c8 c9 c10 c11
        have S2 := S2a
        clear S2a
        have c0 : w5.cell? ⟨g9, 0, none⟩ = some (.string pA) := (S2.out.cell 0 rfl).cell 0
        have c1 : w5.cell? ⟨g9, 1, none⟩ = some (.int .i64 i) := (S2.out.cell 0 rfl).cell 1
        have c2 : w5.cell? ⟨g9, 2, none⟩ = some (.int .i64 ci) := (S2.out.cell 0 rfl).cell 2
        have c3 : w5.cell? ⟨g9, 3, none⟩ = some (.int .i64 2) := (S2.out.cell 0 rfl).cell 3
        have c4 : w5.cell? ⟨g9, 4, none⟩ = some (.int .i64 1) := (S2.out.cell 0 rfl).cell 4
        have c5 : w5.cell? ⟨g9, 5, none⟩ = some (.bool false) := (S2.out.cell 0 rfl).cell 5
        have c6 : w5.cell? ⟨g9, 6, none⟩ = some (.bool false) := (S2.out.cell 0 rfl).cell 6
        have c7 : w5.cell? ⟨g9, 7, none⟩ = some (.bool false) := (S2.out.cell 0 rfl).cell 7
        have c8 : w5.cell? ⟨g9, 8, none⟩ = some (.int .u64 i) := (S2.out.cell 0 rfl).cell 8
        have c9 : w5.cell? ⟨g9, 9, none⟩ = some (.int .i64 1) := (S2.out.cell 0 rfl).cell 9
        have c10 : w5.cell? ⟨g9, 10, none⟩ = some (.string ⟨#[]⟩) := (S2.out.cell 0 rfl).cell 10
        have c11 : w5.cell? ⟨g9, 11, none⟩ = some (.int .i64 0) := (S2.out.cell 0 rfl).cell 11
        obtain ⟨gx, hAX, hgx, hx⟩ := rv_at (RowV.of (S2.out.get 1 rfl)) (show j < j + 1 by omega)
        subst hAX
        obtain ⟨li, HLI⟩ : ∃ i, Hid ((j : Int) + 1 = i) := ⟨_, rfl⟩
        obtain ⟨lc, HLC⟩ : ∃ ci, Hid (10 * li = ci) := ⟨_, rfl⟩
        obtain ⟨la, HLA⟩ : ∃ x, Hid (actI li = x) := ⟨_, rfl⟩
        have hcc : ∀ c, c < 12 → w5.cell? ⟨gx, j * 12 + c, none⟩ = [Value.string pA, .int .i64 li, .int .i64 lc, .int .i64 la, .int .i64 1, .bool false, .bool false, .bool false, .int .u64 li, .int .i64 1, .string ⟨#[]⟩, .int .i64 0][c]? := fun c h => by
          rw [hx c h, HLI.out, ← HLC.out, ← HLA.out]
          rfl
        have b0 : w5.cell? ⟨gx, j * 12, none⟩ = some (.string pA) := hcc 0 (by omega)
        have b1 : w5.cell? ⟨gx, j * 12 + 1, none⟩ = some (.int .i64 li) := hcc 1 (by omega)
        have b2 : w5.cell? ⟨gx, j * 12 + 2, none⟩ = some (.int .i64 lc) := hcc 2 (by omega)
        have b3 : w5.cell? ⟨gx, j * 12 + 3, none⟩ = some (.int .i64 la) := hcc 3 (by omega)
        have b4 : w5.cell? ⟨gx, j * 12 + 4, none⟩ = some (.int .i64 1) := hcc 4 (by omega)
        have b5 : w5.cell? ⟨gx, j * 12 + 5, none⟩ = some (.bool false) := hcc 5 (by omega)
        have b6 : w5.cell? ⟨gx, j * 12 + 6, none⟩ = some (.bool false) := hcc 6 (by omega)
        have b7 : w5.cell? ⟨gx, j * 12 + 7, none⟩ = some (.bool false) := hcc 7 (by omega)
        have b8 : w5.cell? ⟨gx, j * 12 + 8, none⟩ = some (.int .u64 li) := hcc 8 (by omega)
        have b9 : w5.cell? ⟨gx, j * 12 + 9, none⟩ = some (.int .i64 1) := hcc 9 (by omega)
        have b10 : w5.cell? ⟨gx, j * 12 + 10, none⟩ = some (.string ⟨#[]⟩) := hcc 10 (by omega)
        have b11 : w5.cell? ⟨gx, j * 12 + 11, none⟩ = some (.int .i64 0) := hcc 11 (by omega)
        clear hcc hx
        have hil : (wrap64 (i - 1) == li) = true := by have h1 := HI.out; have h2 := HLI.out; rw [show wrap64 (i - 1) = i - 1 by unfold wrap64; omega]; simp only [beq_iff_eq]; omega
        have S3a := Lib.hid (S2.out.newCell 111 #[.string pA, .int .i64 li, .int .i64 lc, .int .i64 la, .int .i64 1, .bool false, .bool false, .bool false, .int .u64 li, .int .i64 1, .string ⟨#[]⟩, .int .i64 0])
        go_upto_region 10 with fail
        obtain ⟨w6, HW⟩ : ∃ W, Hid (w5.alloc (.cells #[.string pA, .int .i64 li, .int .i64 lc, .int .i64 la, .int .i64 1, .bool false, .bool false, .bool false, .int .u64 li, .int .i64 1, .string ⟨#[]⟩, .int .i64 0] 111) = W) := ⟨_, rfl⟩
        obtain ⟨g10, HX⟩ : ∃ x, Hid (w5.heap.size = x) := ⟨_, rfl⟩
        rw [HW.out, HX.out] at S3a ⊢
        clear HW HX S2 c0 c1 c2 c3 c4 c5 c6 c7 c8 c9 c10 c11 b0 b1 b2 b3 b4 b5 b6 b7 b8 b9 b10 b11
        have S3 := S3a
        clear S3a
        have c0 : w6.cell? ⟨g9, 0, none⟩ = some (.string pA) := (S3.out.cell 1 rfl).cell 0
        have c1 : w6.cell? ⟨g9, 1, none⟩ = some (.int .i64 i) := (S3.out.cell 1 rfl).cell 1
        have c2 : w6.cell? ⟨g9, 2, none⟩ = some (.int .i64 ci) := (S3.out.cell 1 rfl).cell 2
        have c3 : w6.cell? ⟨g9, 3, none⟩ = some (.int .i64 2) := (S3.out.cell 1 rfl).cell 3
        have c4 : w6.cell? ⟨g9, 4, none⟩ = some (.int .i64 1) := (S3.out.cell 1 rfl).cell 4
        have c5 : w6.cell? ⟨g9, 5, none⟩ = some (.bool false) := (S3.out.cell 1 rfl).cell 5
        have c6 : w6.cell? ⟨g9, 6, none⟩ = some (.bool false) := (S3.out.cell 1 rfl).cell 6
        have c7 : w6.cell? ⟨g9, 7, none⟩ = some (.bool false) := (S3.out.cell 1 rfl).cell 7
        have c8 : w6.cell? ⟨g9, 8, none⟩ = some (.int .u64 i) := (S3.out.cell 1 rfl).cell 8
        have c9 : w6.cell? ⟨g9, 9, none⟩ = some (.int .i64 1) := (S3.out.cell 1 rfl).cell 9
        have c10 : w6.cell? ⟨g9, 10, none⟩ = some (.string ⟨#[]⟩) := (S3.out.cell 1 rfl).cell 10
        have c11 : w6.cell? ⟨g9, 11, none⟩ = some (.int .i64 0) := (S3.out.cell 1 rfl).cell 11
        have b0 : w6.cell? ⟨g10, 0, none⟩ = some (.string pA) := (S3.out.cell 0 rfl).cell 0
        have b1 : w6.cell? ⟨g10, 1, none⟩ = some (.int .i64 li) := (S3.out.cell 0 rfl).cell 1
        have b2 : w6.cell? ⟨g10, 2, none⟩ = some (.int .i64 lc) := (S3.out.cell 0 rfl).cell 2
        have b3 : w6.cell? ⟨g10, 3, none⟩ = some (.int .i64 la) := (S3.out.cell 0 rfl).cell 3
        have b4 : w6.cell? ⟨g10, 4, none⟩ = some (.int .i64 1) := (S3.out.cell 0 rfl).cell 4
        have b5 : w6.cell? ⟨g10, 5, none⟩ = some (.bool false) := (S3.out.cell 0 rfl).cell 5
        have b6 : w6.cell? ⟨g10, 6, none⟩ = some (.bool false) := (S3.out.cell 0 rfl).cell 6
        have b7 : w6.cell? ⟨g10, 7, none⟩ = some (.bool false) := (S3.out.cell 0 rfl).cell 7
        have b8 : w6.cell? ⟨g10, 8, none⟩ = some (.int .u64 li) := (S3.out.cell 0 rfl).cell 8
        have b9 : w6.cell? ⟨g10, 9, none⟩ = some (.int .i64 1) := (S3.out.cell 0 rfl).cell 9
        have b10 : w6.cell? ⟨g10, 10, none⟩ = some (.string ⟨#[]⟩) := (S3.out.cell 0 rfl).cell 10
        have b11 : w6.cell? ⟨g10, 11, none⟩ = some (.int .i64 0) := (S3.out.cell 0 rfl).cell 11
        obtain ⟨i0, hi, hz0, hz1, hz2⟩ := info_parts info111
        have S4 := Lib.hid (S3.out.newCell 111 #[.string pA, .int .i64 i, .int .i64 ci, .int .i64 2, .int .i64 1, .bool false, .bool false, .bool false, .int .u64 i, .int .i64 1, .string ⟨#[]⟩, .int .i64 0])
        go_wp2_with (at_builtin; (refine wpList_rowS (t := 93) (e := 111) (size := 12) (bytes := 96) (i := i0) S4.out 3 rfl (by rfl) (.tmp 82) (.tmp 84) (by rfl) Tryz.underlying93 hi hz0 hz1 hz2 rfl (by omega) (by rfl) ⟨w6.heap.size, 0, none⟩ 1 [.string pA, .int .i64 i, .int .i64 ci, .int .i64 2, .int .i64 1, .bool false, .bool false, .bool false, .int .u64 i, .int .i64 1, .string ⟨#[]⟩, .int .i64 0] (by rfl) rfl (fun j u hu => by rw [lit_add, Nat.zero_add, (S4.out.cell 0 rfl).cell, ← Array.getElem?_toList]; exact hu) (fun u hu => by simp only [List.mem_cons, List.not_mem_nil, or_false] at hu; rcases hu with rfl | rfl | rfl | rfl | rfl | rfl | rfl | rfl | rfl | rfl | rfl | rfl <;> rfl) (by unfold maxLen; omega) (by omega) ?_); refine halt_ ?_)
        intro v2 w7 s7
        obtain ⟨A3, cX3, rfl⟩ := own_slice (s7.get 3 rfl : w7.ownsRow 0 111 12 v2 _ _)
        have eR : (revs (j + 1)).flatMap encR ++ [.string pA, .int .i64 i, .int .i64 ci, .int .i64 2, .int .i64 1, .bool false, .bool false, .bool false, .int .u64 i, .int .i64 1, .string ⟨#[]⟩, .int .i64 0] = (revs (j + 1 + 1)).flatMap encR := by
          rw [revs_succ (j + 1), List.flatMap_append]
          simp only [List.flatMap_cons, List.flatMap_nil, List.append_nil, encR]
          rw [HI.out, HA.out, HC.out]
        rw [eR] at s7
        have S7 : Hid (SW b w0 (rowOb 111 12 (.slice A3 (j + 1 + 1) cX3) (j + 1 + 1) ((revs (j + 1 + 1)).flatMap encR) :: l) w7) := s7.tail.tail.tail
        clear s7 S4 S3 eR c0 c1 c2 c3 c4 c5 c6 c7 c8 c9 c10 c11 b0 b1 b2 b3 b4 b5 b6 b7 b8 b9 b10 b11
        go_wp2_with fail
        go_roundw
        case rel => exact ⟨j + 1 + 1, by go_num, by omega, A3, cX3, by rw [show max (j + 1 + 1) 1 = j + 1 + 1 by omega], by rw [show max (j + 1 + 1) 1 = j + 1 + 1 by omega]; exact S7.out⟩
        case measure => simp [intOf]; omega
    · obtain rfl : k = m := by omega
      have hmx : max k 1 = k := by omega
      rw [hmx] at hs ⊢
      have S1 := Lib.hid hs
      clear hs
      go_wp2_with fail
      go_ret
      exact ⟨AX, cX, rfl, S1.out⟩
end
end Go.Proofs.YtmiknfneeipkeaaGreat
