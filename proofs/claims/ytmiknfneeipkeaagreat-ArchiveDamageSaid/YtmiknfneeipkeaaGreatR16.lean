/- Contracts of the walk, part 16. -/
import Derived.Test.YtmiknfneeipkeaaGreatR15
import Derived.Test.YtmiknfneeipkeaaGreatR13
import Derived.Test.YtmiknfneeipkeaaGreatR12
namespace Go.Proofs.YtmiknfneeipkeaaGreat
open Go.RowKit Go.MapKept Go.ChangeMaps
attribute [local go_sem] wext_cell
section
variable {b : Nat} {w0 w : World} {l t : List Ob} {o o' : Ob} {A : Option Addr} {m cm : Nat}
theorem SW.seen (h : SW b w0 (o :: t) w) (hh : o'.holds w) (ho : ∀ i, o'.own i → o.own i) (hr : ∀ i, ¬ o'.rd i) : SW b w0 (o' :: t) w := by
  have ha := List.pairwise_cons.1 h.1.apart
  refine ⟨⟨h.1.base, fun y hy => ?_, fun y hy i hi => ?_, fun y hy i hi => ?_, List.pairwise_cons.2 ⟨fun y hy => ⟨fun i hi => (ha.1 y hy).1 i (ho i hi), fun i hi hr' => absurd hr' (hr i)⟩, ha.2⟩⟩, h.2⟩
  · rcases List.mem_cons.1 hy with rfl | hy
    · exact hh
    · exact h.1.holds y (List.mem_cons_of_mem _ hy)
  · rcases List.mem_cons.1 hy with rfl | hy
    · exact h.1.own o (List.mem_cons_self ..) i (ho i hi)
    · exact h.1.own y (List.mem_cons_of_mem _ hy) i hi
  · rcases List.mem_cons.1 hy with rfl | hy
    · exact absurd hi (hr i)
    · exact h.1.rd y (List.mem_cons_of_mem _ hy) i hi
theorem SW.oneRow {g : Nat} {e : TypeId} {cs : Array Value} {size : Nat} (h : SW b w0 (cellOb g e cs :: l) w) (hs : cs.size = size) : SW b w0 (rowOb e size (.slice (some ⟨g, 0, none⟩) 1 1) 1 cs.toList :: l) w := by
  refine h.seen (o' := rowOb e size (.slice (some ⟨g, 0, none⟩) 1 1) 1 cs.toList) ⟨by simp [hs], .inr ⟨g, 1, cs, rfl, Nat.zero_le _, h.cell 0 rfl, Nat.le_refl _, by unfold maxLen; omega, by omega, ?_⟩⟩ (fun i hi => ?_) (fun i hi => hi.elim)
  · rw [List.take_of_length_le (by simp [hs])]
  · injection (hi : some g = some i) with hi
    exact hi.symm
set_option maxRecDepth 100000 in
set_option maxHeartbeats 8000000 in
theorem line_any (h : SW b w0 l w) (hv : rvOb A m ∈ l) (h0 : 0 < m) (hm : m ≤ 100) : Calls Tryz.prog 142 #[.agg #[.slice A m cm, .slice none 0 0], vF (pA, 1)] w (fun e w' => ∃ A' c', e = .returned (.slice A' m c') ∧ SW b w0 (rowOb 111 12 (.slice A' m c') m ((revs m).flatMap encR) :: l) w') := by
  have S0 : Hid (SW b w0 (cellOb (w.heap.size + 1) 168 #[.string pA, .int .i64 1] :: cellOb w.heap.size 96 #[.slice A m cm, .slice none 0 0] :: l) _) := Lib.hid ((h.newCell 96 #[.slice A m cm, .slice none 0 0]).newCellAt 168 #[.string pA, .int .i64 1] (H := w.heap.size + 1) (by simp))
  have HV := Lib.hid hv
  clear h hv
  go_enter Tryz.func142, Tryz.ntmps142
  go_upto_region 1 with fail
  obtain ⟨w1, HW⟩ : ∃ W, Hid ((w.alloc (.cells #[.slice A m cm, .slice none 0 0] 96)).alloc (.cells #[.string pA, .int .i64 1] 168) = W) := ⟨_, rfl⟩
  rw [HW.out] at S0 ⊢
  clear HW
  obtain ⟨g3, HG3⟩ : ∃ x, Hid (w.heap.size + 1 = x) := ⟨_, rfl⟩
  rw [HG3.out] at S0 ⊢
  clear HG3
  obtain ⟨g2, HG2⟩ : ∃ x, Hid (w.heap.size = x) := ⟨_, rfl⟩
  rw [HG2.out] at S0 ⊢
  clear HG2
  have d0 : w1.cell? ⟨g2, 0, none⟩ = some (.slice A m cm) := (S0.out.cell 1 rfl).cell 0
  have d1 : w1.cell? ⟨g2, 1, none⟩ = some (.slice none 0 0) := (S0.out.cell 1 rfl).cell 1
  have e0 : w1.cell? ⟨g3, 0, none⟩ = some (.string pA) := (S0.out.cell 0 rfl).cell 0
  have e1 : w1.cell? ⟨g3, 1, none⟩ = some (.int .i64 1) := (S0.out.cell 0 rfl).cell 1
  have HGT := Lib.hid (get_any (cm := cm) S0.out (List.mem_cons_of_mem _ (List.mem_cons_of_mem _ HV.out)) h0 hm)
  go_wp2_with (go_at_call 183; (with_reducible refine HGT.out.mono ?_); refine halt_ ?_)
  rintro e w2 ⟨rfl, hb2⟩
  have S1 := Lib.hid (S0.out.on hb2)
  clear hb2 HGT S0 d0 d1 e0 e1
  have S2a := Lib.hid (S1.out.newCell 111 #[.string pA, .int .i64 1, .int .i64 10, .int .i64 1, .int .i64 1, .bool false, .bool false, .bool false, .int .u64 1, .int .i64 1, .string ⟨#[]⟩, .int .i64 0])
  go_upto_region 2 with fail
  obtain ⟨w3, HW⟩ : ∃ W, Hid (w2.alloc (.cells #[.string pA, .int .i64 1, .int .i64 10, .int .i64 1, .int .i64 1, .bool false, .bool false, .bool false, .int .u64 1, .int .i64 1, .string ⟨#[]⟩, .int .i64 0] 111) = W) := ⟨_, rfl⟩
  obtain ⟨g5, HX⟩ : ∃ x, Hid (w2.heap.size = x) := ⟨_, rfl⟩
  rw [HW.out, HX.out] at S2a ⊢
  clear HW HX S1
  have S2 := S2a
  clear S2a
  have c0 : w3.cell? ⟨g5, 0, none⟩ = some (.string pA) := (S2.out.cell 0 rfl).cell 0
  have c1 : w3.cell? ⟨g5, 1, none⟩ = some (.int .i64 1) := (S2.out.cell 0 rfl).cell 1
  have c2 : w3.cell? ⟨g5, 2, none⟩ = some (.int .i64 10) := (S2.out.cell 0 rfl).cell 2
  have c3 : w3.cell? ⟨g5, 3, none⟩ = some (.int .i64 1) := (S2.out.cell 0 rfl).cell 3
  have c4 : w3.cell? ⟨g5, 4, none⟩ = some (.int .i64 1) := (S2.out.cell 0 rfl).cell 4
  have c5 : w3.cell? ⟨g5, 5, none⟩ = some (.bool false) := (S2.out.cell 0 rfl).cell 5
  have c6 : w3.cell? ⟨g5, 6, none⟩ = some (.bool false) := (S2.out.cell 0 rfl).cell 6
  have c7 : w3.cell? ⟨g5, 7, none⟩ = some (.bool false) := (S2.out.cell 0 rfl).cell 7
  have c8 : w3.cell? ⟨g5, 8, none⟩ = some (.int .u64 1) := (S2.out.cell 0 rfl).cell 8
  have c9 : w3.cell? ⟨g5, 9, none⟩ = some (.int .i64 1) := (S2.out.cell 0 rfl).cell 9
  have c10 : w3.cell? ⟨g5, 10, none⟩ = some (.string ⟨#[]⟩) := (S2.out.cell 0 rfl).cell 10
  have c11 : w3.cell? ⟨g5, 11, none⟩ = some (.int .i64 0) := (S2.out.cell 0 rfl).cell 11
  have S3a := Lib.hid ((S2.out.newCell 111 #[.string pA, .int .i64 1, .int .i64 10, .int .i64 1, .int .i64 1, .bool false, .bool false, .bool false, .int .u64 1, .int .i64 1, .string ⟨#[]⟩, .int .i64 0]).oneRow (size := 12) rfl)
  go_upto_region 5 with fail
  obtain ⟨w4, HW⟩ : ∃ W, Hid (w3.alloc (.cells #[.string pA, .int .i64 1, .int .i64 10, .int .i64 1, .int .i64 1, .bool false, .bool false, .bool false, .int .u64 1, .int .i64 1, .string ⟨#[]⟩, .int .i64 0] 111) = W) := ⟨_, rfl⟩
  obtain ⟨g7, HX⟩ : ∃ x, Hid (w3.heap.size = x) := ⟨_, rfl⟩
  rw [HW.out, HX.out] at S3a ⊢
  clear HW HX S2 c0 c1 c2 c3 c4 c5 c6 c7 c8 c9 c10 c11
  have S3 : Hid (SW b w0 (rowOb 111 12 (.slice (some ⟨g7, 0, none⟩) 1 1) 1 ((revs 1).flatMap encR) :: cellOb g2 96 #[.slice A m cm, .slice none 0 0] :: l) w4) := SW.few (pre := [_, _, _, _]) S3a.out [0, 3] (n := 4) rfl (by decide) (by decide)
  clear S3a
  have d0 : w4.cell? ⟨g2, 0, none⟩ = some (.slice A m cm) := (S3.out.cell 1 rfl).cell 0
  go_wp2_with fail
  clear d0
  go_loopw [7, 32] (fun s7 s32 wr => ∃ (k : Nat), s32 = .int .i64 (k : Int) ∧ k ≤ m ∧ ∃ (A' : Option Addr) (c' : Nat), s7 = .slice A' (max k 1) c' ∧ SW b w0 (rowOb 111 12 (.slice A' (max k 1) c') (max k 1) ((revs (max k 1)).flatMap encR) :: l) wr) (fun _ s32 _ => m - (intOf s32).toNat)
  case atStart => exact ⟨0, rfl, Nat.zero_le _, some ⟨g7, 0, none⟩, 1, rfl, SW.few (pre := [_, _]) S3.out [0] (n := 2) rfl (by decide) (by decide)⟩
  case round =>
    obtain ⟨k, rfl, hkm, AX, cX, rfl, hs⟩ := hrel
    clear S3
    by_cases hlt : k < m
    · by_cases h0k : k = 0
      · obtain ⟨gr, hA, hgr, hc⟩ := rv_at (hs.1.holds (rvOb A m) (List.mem_cons_of_mem _ HV.out)) hlt
        subst hA
        subst h0k
        have S1 : Hid (SW b w0 (rowOb 111 12 (.slice AX 1 cX) 1 ((revs 1).flatMap encR) :: l) wr) := hs
        clear hs
        have c0 : wr.cell? ⟨gr, 0, none⟩ = some (.string pA) := hc 0 (by omega)
        have c1 : wr.cell? ⟨gr, 1, none⟩ = some (.int .i64 1) := hc 1 (by omega)
        have c2 : wr.cell? ⟨gr, 2, none⟩ = some (.int .i64 10) := hc 2 (by omega)
        have c3 : wr.cell? ⟨gr, 3, none⟩ = some (.int .i64 1) := hc 3 (by omega)
        have c4 : wr.cell? ⟨gr, 4, none⟩ = some (.int .i64 1) := hc 4 (by omega)
        have c5 : wr.cell? ⟨gr, 5, none⟩ = some (.bool false) := hc 5 (by omega)
        have c6 : wr.cell? ⟨gr, 6, none⟩ = some (.bool false) := hc 6 (by omega)
        have c7 : wr.cell? ⟨gr, 7, none⟩ = some (.bool false) := hc 7 (by omega)
        have c8 : wr.cell? ⟨gr, 8, none⟩ = some (.int .u64 1) := hc 8 (by omega)
        have c9 : wr.cell? ⟨gr, 9, none⟩ = some (.int .i64 1) := hc 9 (by omega)
        have c10 : wr.cell? ⟨gr, 10, none⟩ = some (.string ⟨#[]⟩) := hc 10 (by omega)
        have c11 : wr.cell? ⟨gr, 11, none⟩ = some (.int .i64 0) := hc 11 (by omega)
        clear hc
        have S2a := Lib.hid (S1.out.newCell 111 #[.string pA, .int .i64 1, .int .i64 10, .int .i64 1, .int .i64 1, .bool false, .bool false, .bool false, .int .u64 1, .int .i64 1, .string ⟨#[]⟩, .int .i64 0])
        go_upto_region 8 with fail
        obtain ⟨w5, HW⟩ : ∃ W, Hid (wr.alloc (.cells #[.string pA, .int .i64 1, .int .i64 10, .int .i64 1, .int .i64 1, .bool false, .bool false, .bool false, .int .u64 1, .int .i64 1, .string ⟨#[]⟩, .int .i64 0] 111) = W) := ⟨_, rfl⟩
        obtain ⟨g9, HX⟩ : ∃ x, Hid (wr.heap.size = x) := ⟨_, rfl⟩
        rw [HW.out, HX.out] at S2a ⊢
        clear HW HX S1 c0 c1 c2 c3 c4 c5 c6 c7 c8 c9 c10 c11
        have S2 := S2a
        clear S2a
        have c0 : w5.cell? ⟨g9, 0, none⟩ = some (.string pA) := (S2.out.cell 0 rfl).cell 0
        have c1 : w5.cell? ⟨g9, 1, none⟩ = some (.int .i64 1) := (S2.out.cell 0 rfl).cell 1
        have c2 : w5.cell? ⟨g9, 2, none⟩ = some (.int .i64 10) := (S2.out.cell 0 rfl).cell 2
        have c3 : w5.cell? ⟨g9, 3, none⟩ = some (.int .i64 1) := (S2.out.cell 0 rfl).cell 3
        have c4 : w5.cell? ⟨g9, 4, none⟩ = some (.int .i64 1) := (S2.out.cell 0 rfl).cell 4
        have c5 : w5.cell? ⟨g9, 5, none⟩ = some (.bool false) := (S2.out.cell 0 rfl).cell 5
        have c6 : w5.cell? ⟨g9, 6, none⟩ = some (.bool false) := (S2.out.cell 0 rfl).cell 6
        have c7 : w5.cell? ⟨g9, 7, none⟩ = some (.bool false) := (S2.out.cell 0 rfl).cell 7
        have c8 : w5.cell? ⟨g9, 8, none⟩ = some (.int .u64 1) := (S2.out.cell 0 rfl).cell 8
        have c9 : w5.cell? ⟨g9, 9, none⟩ = some (.int .i64 1) := (S2.out.cell 0 rfl).cell 9
        have c10 : w5.cell? ⟨g9, 10, none⟩ = some (.string ⟨#[]⟩) := (S2.out.cell 0 rfl).cell 10
        have c11 : w5.cell? ⟨g9, 11, none⟩ = some (.int .i64 0) := (S2.out.cell 0 rfl).cell 11
        go_wp2_with fail
        go_roundw
        case rel => exact ⟨1, by go_num, by omega, AX, cX, rfl, S2.out.tail⟩
        case measure => simp [intOf]; omega
      · obtain ⟨gr, hA, hgr, hc⟩ := rv_at (hs.1.holds (rvOb A m) (List.mem_cons_of_mem _ HV.out)) hlt
        subst hA
        obtain ⟨j, rfl⟩ : ∃ j, k = j + 1 := ⟨k - 1, by omega⟩
        have hmx : max (j + 1) 1 = j + 1 := by omega
        rw [hmx] at hs ⊢
        have S1 : Hid (SW b w0 (rowOb 111 12 (.slice AX (j + 1) cX) (j + 1) ((revs (j + 1)).flatMap encR) :: l) wr) := hs
        clear hs
        obtain ⟨i, HI⟩ : ∃ i, Hid (((j + 1 : Nat) : Int) + 1 = i) := ⟨_, rfl⟩
        obtain ⟨ci, HC⟩ : ∃ ci, Hid (10 * i = ci) := ⟨_, rfl⟩
        have HA : Hid (actI i = 2) := by rw [Hid, actI, if_neg (by have := HI.out; omega)]
        have hcc : ∀ c, c < 12 → wr.cell? ⟨gr, (j + 1) * 12 + c, none⟩ = [Value.string pA, .int .i64 i, .int .i64 ci, .int .i64 2, .int .i64 1, .bool false, .bool false, .bool false, .int .u64 i, .int .i64 1, .string ⟨#[]⟩, .int .i64 0][c]? := fun c h => by
          rw [hc c h, HI.out, ← HC.out, ← HA.out]
          rfl
        have c0 : wr.cell? ⟨gr, (j + 1) * 12, none⟩ = some (.string pA) := hcc 0 (by omega)
        have c1 : wr.cell? ⟨gr, (j + 1) * 12 + 1, none⟩ = some (.int .i64 i) := hcc 1 (by omega)
        have c2 : wr.cell? ⟨gr, (j + 1) * 12 + 2, none⟩ = some (.int .i64 ci) := hcc 2 (by omega)
        have c3 : wr.cell? ⟨gr, (j + 1) * 12 + 3, none⟩ = some (.int .i64 2) := hcc 3 (by omega)
        have c4 : wr.cell? ⟨gr, (j + 1) * 12 + 4, none⟩ = some (.int .i64 1) := hcc 4 (by omega)
        have c5 : wr.cell? ⟨gr, (j + 1) * 12 + 5, none⟩ = some (.bool false) := hcc 5 (by omega)
        have c6 : wr.cell? ⟨gr, (j + 1) * 12 + 6, none⟩ = some (.bool false) := hcc 6 (by omega)
        have c7 : wr.cell? ⟨gr, (j + 1) * 12 + 7, none⟩ = some (.bool false) := hcc 7 (by omega)
        have c8 : wr.cell? ⟨gr, (j + 1) * 12 + 8, none⟩ = some (.int .u64 i) := hcc 8 (by omega)
        have c9 : wr.cell? ⟨gr, (j + 1) * 12 + 9, none⟩ = some (.int .i64 1) := hcc 9 (by omega)
        have c10 : wr.cell? ⟨gr, (j + 1) * 12 + 10, none⟩ = some (.string ⟨#[]⟩) := hcc 10 (by omega)
        have c11 : wr.cell? ⟨gr, (j + 1) * 12 + 11, none⟩ = some (.int .i64 0) := hcc 11 (by omega)
        clear hcc
        clear hc
        have S2a := Lib.hid (S1.out.newCell 111 #[.string pA, .int .i64 i, .int .i64 ci, .int .i64 2, .int .i64 1, .bool false, .bool false, .bool false, .int .u64 i, .int .i64 1, .string ⟨#[]⟩, .int .i64 0])
        go_upto_region 8 with fail
        obtain ⟨w5, HW⟩ : ∃ W, Hid (wr.alloc (.cells #[.string pA, .int .i64 i, .int .i64 ci, .int .i64 2, .int .i64 1, .bool false, .bool false, .bool false, .int .u64 i, .int .i64 1, .string ⟨#[]⟩, .int .i64 0] 111) = W) := ⟨_, rfl⟩
        obtain ⟨g9, HX⟩ : ∃ x, Hid (wr.heap.size = x) := ⟨_, rfl⟩
        rw [HW.out, HX.out] at S2a ⊢
        clear HW HX S1 c0 c1 c2 c3 c4 c5 c6 c7 c8 c9 c10 c11
        have S2 := S2a
        clear S2a
        have c0 : w5.cell? ⟨g9, 0, none⟩ = some (.string pA) := (S2.out.cell 0 rfl).cell 0
        have c1 : w5.cell? ⟨g9, 1, none⟩ = some (.int .i64 i) := (S2.out.cell 0 rfl).cell 1
        have c2 : w5.cell? ⟨g9, 2, none⟩ = some (.int .i64 ci) := (S2.out.cell 0 rfl).cell 2
        have c3 : w5.cell? ⟨g9, 3, none⟩ = some (.int .i64 2) := (S2.out.cell 0 rfl).cell 3
        have c4 : w5.cell? ⟨g9, 4, none⟩ = some (.int .i64 1) := (S2.out.cell 0 rfl).cell 4
        have c5 : w5.cell? ⟨g9, 5, none⟩ = some (.bool false) := (S2.out.cell 0 rfl).cell 5
        have c6 : w5.cell? ⟨g9, 6, none⟩ = some (.bool false) := (S2.out.cell 0 rfl).cell 6
        have c7 : w5.cell? ⟨g9, 7, none⟩ = some (.bool false) := (S2.out.cell 0 rfl).cell 7
        have c8 : w5.cell? ⟨g9, 8, none⟩ = some (.int .u64 i) := (S2.out.cell 0 rfl).cell 8
        have c9 : w5.cell? ⟨g9, 9, none⟩ = some (.int .i64 1) := (S2.out.cell 0 rfl).cell 9
        have c10 : w5.cell? ⟨g9, 10, none⟩ = some (.string ⟨#[]⟩) := (S2.out.cell 0 rfl).cell 10
        have c11 : w5.cell? ⟨g9, 11, none⟩ = some (.int .i64 0) := (S2.out.cell 0 rfl).cell 11
        obtain ⟨gx, hAX, hgx, hx⟩ := rv_at (RowV.of (S2.out.get 1 rfl)) (show j < j + 1 by omega)
        subst hAX
        obtain ⟨li, HLI⟩ : ∃ i, Hid ((j : Int) + 1 = i) := ⟨_, rfl⟩
        obtain ⟨lc, HLC⟩ : ∃ ci, Hid (10 * li = ci) := ⟨_, rfl⟩
        obtain ⟨la, HLA⟩ : ∃ x, Hid (actI li = x) := ⟨_, rfl⟩
        have hcc : ∀ c, c < 12 → w5.cell? ⟨gx, j * 12 + c, none⟩ = [Value.string pA, .int .i64 li, .int .i64 lc, .int .i64 la, .int .i64 1, .bool false, .bool false, .bool false, .int .u64 li, .int .i64 1, .string ⟨#[]⟩, .int .i64 0][c]? := fun c h => by
          rw [hx c h, HLI.out, ← HLC.out, ← HLA.out]
          rfl
        have b0 : w5.cell? ⟨gx, j * 12, none⟩ = some (.string pA) := hcc 0 (by omega)
        have b1 : w5.cell? ⟨gx, j * 12 + 1, none⟩ = some (.int .i64 li) := hcc 1 (by omega)
        have b2 : w5.cell? ⟨gx, j * 12 + 2, none⟩ = some (.int .i64 lc) := hcc 2 (by omega)
        have b3 : w5.cell? ⟨gx, j * 12 + 3, none⟩ = some (.int .i64 la) := hcc 3 (by omega)
        have b4 : w5.cell? ⟨gx, j * 12 + 4, none⟩ = some (.int .i64 1) := hcc 4 (by omega)
        have b5 : w5.cell? ⟨gx, j * 12 + 5, none⟩ = some (.bool false) := hcc 5 (by omega)
        have b6 : w5.cell? ⟨gx, j * 12 + 6, none⟩ = some (.bool false) := hcc 6 (by omega)
        have b7 : w5.cell? ⟨gx, j * 12 + 7, none⟩ = some (.bool false) := hcc 7 (by omega)
        have b8 : w5.cell? ⟨gx, j * 12 + 8, none⟩ = some (.int .u64 li) := hcc 8 (by omega)
        have b9 : w5.cell? ⟨gx, j * 12 + 9, none⟩ = some (.int .i64 1) := hcc 9 (by omega)
        have b10 : w5.cell? ⟨gx, j * 12 + 10, none⟩ = some (.string ⟨#[]⟩) := hcc 10 (by omega)
        have b11 : w5.cell? ⟨gx, j * 12 + 11, none⟩ = some (.int .i64 0) := hcc 11 (by omega)
        clear hcc hx
        have hil : (wrap64 (i - 1) == li) = true := by have h1 := HI.out; have h2 := HLI.out; rw [show wrap64 (i - 1) = i - 1 by unfold wrap64; omega]; simp only [beq_iff_eq]; omega
        have S3a := Lib.hid (S2.out.newCell 111 #[.string pA, .int .i64 li, .int .i64 lc, .int .i64 la, .int .i64 1, .bool false, .bool false, .bool false, .int .u64 li, .int .i64 1, .string ⟨#[]⟩, .int .i64 0])
        go_upto_region 10 with fail
        obtain ⟨w6, HW⟩ : ∃ W, Hid (w5.alloc (.cells #[.string pA, .int .i64 li, .int .i64 lc, .int .i64 la, .int .i64 1, .bool false, .bool false, .bool false, .int .u64 li, .int .i64 1, .string ⟨#[]⟩, .int .i64 0] 111) = W) := ⟨_, rfl⟩
        obtain ⟨g10, HX⟩ : ∃ x, Hid (w5.heap.size = x) := ⟨_, rfl⟩
        rw [HW.out, HX.out] at S3a ⊢
        clear HW HX S2 c0 c1 c2 c3 c4 c5 c6 c7 c8 c9 c10 c11 b0 b1 b2 b3 b4 b5 b6 b7 b8 b9 b10 b11
        have S3 := S3a
        clear S3a
        have c0 : w6.cell? ⟨g9, 0, none⟩ = some (.string pA) := (S3.out.cell 1 rfl).cell 0
        have c1 : w6.cell? ⟨g9, 1, none⟩ = some (.int .i64 i) := (S3.out.cell 1 rfl).cell 1
        have c2 : w6.cell? ⟨g9, 2, none⟩ = some (.int .i64 ci) := (S3.out.cell 1 rfl).cell 2
        have c3 : w6.cell? ⟨g9, 3, none⟩ = some (.int .i64 2) := (S3.out.cell 1 rfl).cell 3
        have c4 : w6.cell? ⟨g9, 4, none⟩ = some (.int .i64 1) := (S3.out.cell 1 rfl).cell 4
        have c5 : w6.cell? ⟨g9, 5, none⟩ = some (.bool false) := (S3.out.cell 1 rfl).cell 5
        have c6 : w6.cell? ⟨g9, 6, none⟩ = some (.bool false) := (S3.out.cell 1 rfl).cell 6
        have c7 : w6.cell? ⟨g9, 7, none⟩ = some (.bool false) := (S3.out.cell 1 rfl).cell 7
        have c8 : w6.cell? ⟨g9, 8, none⟩ = some (.int .u64 i) := (S3.out.cell 1 rfl).cell 8
        have c9 : w6.cell? ⟨g9, 9, none⟩ = some (.int .i64 1) := (S3.out.cell 1 rfl).cell 9
        have c10 : w6.cell? ⟨g9, 10, none⟩ = some (.string ⟨#[]⟩) := (S3.out.cell 1 rfl).cell 10
        have c11 : w6.cell? ⟨g9, 11, none⟩ = some (.int .i64 0) := (S3.out.cell 1 rfl).cell 11
        have b0 : w6.cell? ⟨g10, 0, none⟩ = some (.string pA) := (S3.out.cell 0 rfl).cell 0
        have b1 : w6.cell? ⟨g10, 1, none⟩ = some (.int .i64 li) := (S3.out.cell 0 rfl).cell 1
        have b2 : w6.cell? ⟨g10, 2, none⟩ = some (.int .i64 lc) := (S3.out.cell 0 rfl).cell 2
        have b3 : w6.cell? ⟨g10, 3, none⟩ = some (.int .i64 la) := (S3.out.cell 0 rfl).cell 3
        have b4 : w6.cell? ⟨g10, 4, none⟩ = some (.int .i64 1) := (S3.out.cell 0 rfl).cell 4
        have b5 : w6.cell? ⟨g10, 5, none⟩ = some (.bool false) := (S3.out.cell 0 rfl).cell 5
        have b6 : w6.cell? ⟨g10, 6, none⟩ = some (.bool false) := (S3.out.cell 0 rfl).cell 6
        have b7 : w6.cell? ⟨g10, 7, none⟩ = some (.bool false) := (S3.out.cell 0 rfl).cell 7
        have b8 : w6.cell? ⟨g10, 8, none⟩ = some (.int .u64 li) := (S3.out.cell 0 rfl).cell 8
        have b9 : w6.cell? ⟨g10, 9, none⟩ = some (.int .i64 1) := (S3.out.cell 0 rfl).cell 9
        have b10 : w6.cell? ⟨g10, 10, none⟩ = some (.string ⟨#[]⟩) := (S3.out.cell 0 rfl).cell 10
        have b11 : w6.cell? ⟨g10, 11, none⟩ = some (.int .i64 0) := (S3.out.cell 0 rfl).cell 11
        obtain ⟨i0, hi, hz0, hz1, hz2⟩ := info_parts info111
        have S4 := Lib.hid (S3.out.newCell 111 #[.string pA, .int .i64 i, .int .i64 ci, .int .i64 2, .int .i64 1, .bool false, .bool false, .bool false, .int .u64 i, .int .i64 1, .string ⟨#[]⟩, .int .i64 0])
        go_wp2_with (at_builtin; (refine wpList_rowS (t := 93) (e := 111) (size := 12) (bytes := 96) (i := i0) S4.out 3 rfl (by rfl) (.tmp 82) (.tmp 84) (by rfl) Tryz.underlying93 hi hz0 hz1 hz2 rfl (by omega) (by rfl) ⟨w6.heap.size, 0, none⟩ 1 [.string pA, .int .i64 i, .int .i64 ci, .int .i64 2, .int .i64 1, .bool false, .bool false, .bool false, .int .u64 i, .int .i64 1, .string ⟨#[]⟩, .int .i64 0] (by rfl) rfl (fun j u hu => by rw [lit_add, Nat.zero_add, (S4.out.cell 0 rfl).cell, ← Array.getElem?_toList]; exact hu) (fun u hu => by simp only [List.mem_cons, List.not_mem_nil, or_false] at hu; rcases hu with rfl | rfl | rfl | rfl | rfl | rfl | rfl | rfl | rfl | rfl | rfl | rfl <;> rfl) (by unfold maxLen; omega) (by omega) ?_); refine halt_ ?_)
        intro v2 w7 s7
        obtain ⟨A3, cX3, rfl⟩ := own_slice (s7.get 3 rfl : w7.ownsRow 0 111 12 v2 _ _)
        have eR : (revs (j + 1)).flatMap encR ++ [.string pA, .int .i64 i, .int .i64 ci, .int .i64 2, .int .i64 1, .bool false, .bool false, .bool false, .int .u64 i, .int .i64 1, .string ⟨#[]⟩, .int .i64 0] = (revs (j + 1 + 1)).flatMap encR := by
          rw [revs_succ (j + 1), List.flatMap_append]
          simp only [List.flatMap_cons, List.flatMap_nil, List.append_nil, encR]
          rw [HI.out, HA.out, HC.out]
        rw [eR] at s7
        have S7 : Hid (SW b w0 (rowOb 111 12 (.slice A3 (j + 1 + 1) cX3) (j + 1 + 1) ((revs (j + 1 + 1)).flatMap encR) :: l) w7) := s7.tail.tail.tail
        clear s7 S4 S3 eR c0 c1 c2 c3 c4 c5 c6 c7 c8 c9 c10 c11 b0 b1 b2 b3 b4 b5 b6 b7 b8 b9 b10 b11
        go_wp2_with fail
        go_roundw
        case rel => exact ⟨j + 1 + 1, by go_num, by omega, A3, cX3, by rw [show max (j + 1 + 1) 1 = j + 1 + 1 by omega], by rw [show max (j + 1 + 1) 1 = j + 1 + 1 by omega]; exact S7.out⟩
        case measure => simp [intOf]; omega
    · obtain rfl : k = m := by omega
      have hmx : max k 1 = k := by omega
      rw [hmx] at hs ⊢
      have S1 := Lib.hid hs
      clear hs
      go_wp2_with fail
      go_ret
      exact ⟨AX, cX, rfl, S1.out⟩
end
end Go.Proofs.YtmiknfneeipkeaaGreat
namespace Go.Proofs.YtmiknfneeipkeaaGreat
open Go.RowKit Go.MapKept Go.ChangeMaps Go.Shelf Go.Sort
attribute [local go_sem] wext_cell
theorem ltI_trans {a b c : ID} (h1 : ltID a b = true) (h2 : ltID b c = true) : ltID a c = true := by
  simp only [ltID, decide_eq_true_eq] at *
  omega
theorem ltI_irr (a : ID) : ltID a a = false := by simp [ltID]
theorem ltI_asym {a b : ID} (h1 : ltID a b = true) : ltID b a = false := by
  simp only [ltID, decide_eq_true_eq, decide_eq_false_iff_not] at *
  omega
theorem ltI_tri {a b : ID} (h1 : ltID a b = false) (h2 : a ≠ b) : ltID b a = true := by
  obtain ⟨a1, a2⟩ := a
  obtain ⟨b1, b2⟩ := b
  simp only [ltID, decide_eq_true_eq, decide_eq_false_iff_not] at *
  have : ¬ (a1 = b1 ∧ a2 = b2) := fun h => h2 (by rw [h.1, h.2])
  omega
theorem sorted_uniq : ∀ {a b : List ID}, a.Pairwise (fun x y => ltID x y = true) → b.Pairwise (fun x y => ltID x y = true) → (∀ i, i ∈ a ↔ i ∈ b) → a = b
  | [], [], _, _, _ => rfl
  | [], y :: b, _, _, h => absurd ((h y).2 (List.mem_cons_self ..)) (by simp)
  | x :: a, [], _, _, h => absurd ((h x).1 (List.mem_cons_self ..)) (by simp)
  | x :: a, y :: b, ha, hb, h => by
    obtain ⟨a1, a2⟩ := List.pairwise_cons.1 ha
    obtain ⟨b1, b2⟩ := List.pairwise_cons.1 hb
    have exy : x = y := by
      rcases List.mem_cons.1 ((h x).1 (List.mem_cons_self ..)) with e | hx
      · exact e
      · rcases List.mem_cons.1 ((h y).2 (List.mem_cons_self ..)) with e | hy
        · exact e.symm
        · have := ltI_asym (b1 x hx)
          rw [a1 y hy] at this
          cases this
    subst exy
    have : a = b := sorted_uniq a2 b2 (fun i => ⟨fun hi => by
      rcases List.mem_cons.1 ((h i).1 (List.mem_cons_of_mem _ hi)) with e | h1
      · have := a1 i hi
        rw [e, ltI_irr] at this
        cases this
      · exact h1, fun hi => by
      rcases List.mem_cons.1 ((h i).2 (List.mem_cons_of_mem _ hi)) with e | h1
      · have := b1 i hi
        rw [e, ltI_irr] at this
        cases this
      · exact h1⟩)
    rw [this]
def setR (l : List ID) : List ID := (allR [] l).map (·.1)
theorem setR_strict (l : List ID) : (setR l).Pairwise (fun a b => ltID a b = true) := List.pairwise_map.2 (allR_spec l List.Pairwise.nil).1
theorem setR_mem (l : List ID) (i : ID) : i ∈ setR l ↔ i ∈ l := by
  have h := (allR_spec l (t := []) List.Pairwise.nil).2 i
  have h2 := @asc_none_iff (allR [] l) i
  unfold setR
  constructor
  · intro hi
    by_cases hm : i ∈ l
    · exact hm
    · rw [if_neg hm] at h
      exact absurd hi (h2.1 (by rw [h]; rfl))
  · intro hm
    rw [if_pos hm] at h
    exact key_of_asc h
theorem setR_len (l : List ID) : (setR l).length ≤ l.length := by
  unfold setR
  have := allR_len [] l
  simpa using this
theorem dd_setR {l ys : List ID} (hp : ys.Perm l) (hs : ys.Pairwise (fun a b => ltOf cmpID b a = false)) : dd ys = setR l :=
  sorted_uniq (dd_strict hs) (setR_strict l) (fun i => by rw [dd_mem, setR_mem, hp.mem_iff])
theorem idsOf_snoc (ms : List Man) (m : Man) : idsOf (ms ++ [m]) = idsOf ms ++ m.ids := by simp [idsOf]
def rwOb (A : Option Addr) (ys : List ID) : Ob where
  own := fun i => A = some ⟨i, 0, none⟩
  rd := fun _ => False
  holds := fun w => (A = none → ys = []) ∧ ∀ ad, A = some ad → ∃ g, ad = ⟨g, 0, none⟩ ∧ RowI w g ys ∧ g < w.heap.size
  stable := fun w w' h hs hk => by
    refine ⟨h.1, fun ad e => ?_⟩
    obtain ⟨g, rfl, ⟨cur, hi, hr⟩, hlt⟩ := h.2 ad e
    exact ⟨g, rfl, ⟨cur, (hk g (.inl e)).trans hi, hr⟩, Nat.lt_of_lt_of_le hlt hs.2.2.2⟩
theorem SW.rwRi {b : Nat} {w0 w : World} {l : List Ob} {A : Option Addr} {F : List ID} (h : SW b w0 (rwOb A F :: l) w) : SW b w0 (riOb A F :: l) w := h.asRead (o' := riOb A F) (h.get 0 (o := rwOb A F) rfl) (fun _ h => h) (fun _ h => h)
theorem SW.rowRw {b : Nat} {w0 w : World} {l : List Ob} {A : Option Addr} {cap : Nat} {F : List ID} (h : SW b w0 (rowOb 36 2 (.slice A F.length cap) F.length (F.flatMap encID) :: l) w) : SW b w0 (rwOb A F :: l) w := by
  have hh : w.ownsRow 0 36 2 (.slice A F.length cap) F.length (F.flatMap encID) := h.get 0 (o := rowOb 36 2 (.slice A F.length cap) F.length (F.flatMap encID)) rfl
  refine h.seen (o' := rwOb A F) ?_ (fun i hi => ?_) (fun _ h => h)
  · by_cases hF : F.length = 0
    · have hF' : F = [] := List.eq_nil_of_length_eq_zero hF
      subst hF'
      refine ⟨fun _ => rfl, fun ad e => ?_⟩
      rcases hh.2 with ⟨hv, _⟩ | ⟨g, cap', cur, hv, _⟩
      · injection hv with hv
        rw [e] at hv
        cases hv
      · subst e
        injection hv with h1
        injection h1 with h1
        subst h1
        obtain ⟨_, h2, h3, _⟩ := own_rowI hh
        exact ⟨g, rfl, h2, h3⟩
    · obtain ⟨g, c', e⟩ := own_some hh hF
      injection e with e1 e2 e3
      subst e1
      obtain ⟨_, h2, h3, _⟩ := own_rowI hh
      exact ⟨(fun e => by cases e), fun ad e => by injection e with e; exact ⟨g, e.symm, h2, h3⟩⟩
  · have hi : A = some ⟨i, 0, none⟩ := hi
    show (Value.slice A F.length cap).ownBlock = some i
    rw [hi]
    rfl
section
variable {b : Nat} {w0 w w' : World} {l : List Ob}
theorem SW.rowCell {A : Option Addr} {ids : List ID} (h : SW b w0 l w) (hA : riOb A ids ∈ l) {k : Nat} (hk : k < ids.length) {i : ID} (hi : ids.getD k id0 = i) : ∃ g, A = some ⟨g, 0, none⟩ ∧ w.cell? ⟨g, k * 2, none⟩ = some (.int .u64 i.1) ∧ w.cell? ⟨g, k * 2 + 1, none⟩ = some (.int .i64 i.2) := by
  have hri := h.1.holds (riOb A ids) hA
  cases A with
  | none =>
    have h0 := hri.1 rfl
    rw [h0] at hk
    simp at hk
  | some ad =>
    obtain ⟨g, rfl, hr, _⟩ := hri.2 ad rfl
    obtain ⟨a0, a1, _, _⟩ := hr.cells hk hi
    exact ⟨g, rfl, a0, a1⟩
theorem append_zero_run (w : World) (t ty e : TypeId) (i : TypeInfo) (size : Nat) (ht : Tryz.prog.underlying t = some (.slice e)) (hi : Tryz.prog.info? e = some i)
    (v : Value) (n : Nat) (xs : List Value) (hown : w.ownsRow 0 e size v n xs) (A : Option Addr) (c : Nat) : (Builtin.append_ #[t, t] ty #[v, .slice A 0 c]).run Tryz.prog w = .ok v w := by
  rcases hown.2 with ⟨rfl, rfl⟩ | ⟨g, cap, cur, rfl, _, _, hnc, _⟩
  · cases A with
    | none => simp [Builtin.append_, run_underlying ht, sizeOf, typeInfo, hi, Builtin.lenOf, Builtin.firstCells]
    | some ad =>
      have h0 := run_loadCells_list (P := Tryz.prog) w ad [] (fun j v hj => by simp at hj)
      simp only [List.length_nil] at h0
      simp [Builtin.append_, run_underlying ht, sizeOf, typeInfo, hi, Builtin.lenOf, Builtin.firstCells, h0]
  · cases A with
    | none => simp [Builtin.append_, run_underlying ht, sizeOf, typeInfo, hi, Builtin.lenOf, Builtin.firstCells, hnc, storeCells]
    | some ad =>
      have h0 := run_loadCells_list (P := Tryz.prog) w ad [] (fun j v hj => by simp at hj)
      simp only [List.length_nil] at h0
      simp [Builtin.append_, run_underlying ht, sizeOf, typeInfo, hi, Builtin.lenOf, Builtin.firstCells, hnc, h0, storeCells]
theorem step_rowM {ops : Array Oper} {o : Oper} {a : Act} {K : Act → World → Prop} {Q : Exit → Act → World → Prop} {E : Prop} {t e : TypeId} {i : TypeInfo} {z : Value} {size bytes : Nat} (hS : SW b w0 l w) (k : Nat) {v : Value} {n : Nat} {xs : List Value} (hk : l[k]? = some (rowOb e size v n xs))
    (hgd : o.guard = none) (s x : Operand) (ho : o.op = .call { callee := .builtin .append, args := #[s, x], argTypes := #[t, t] })
    (ht : Tryz.prog.underlying t = some (.slice e)) (hi : Tryz.prog.info? e = some i) (hz : i.zero = some z) (hsize : i.size = size) (hby : i.bytes = bytes) (hzs : z.cells.size = size) (hsz : 0 < size)
    (hs : a.eval s = v) (A : Option Addr) (m c : Nat) (news : List Value) (hx : a.eval x = .slice A m c) (hl : news.length = m * size) (hA : 0 < m → ∃ ad, A = some ad ∧ ∀ j u, news[j]? = some u → w.cell? (ad.add j) = some u) (h1 : ∀ u ∈ news, u.oneCell' = true)
    (h63 : n + m ≤ maxLen) (hbytes : (n + m) * bytes ≤ 140737488355328)
    (h : ∀ v' w', SW b w0 (l.set k (rowOb e size v' (n + m) (xs ++ news))) w' → K (a.put o.dst v') w') :
    if Region.wanted o (yielded ops a.tmps) = true then Oper.wp Tryz.prog o a w K Q else E := by
  rcases Nat.eq_zero_or_pos m with rfl | hm
  · have hw : Region.wanted o (yielded ops a.tmps) = true := by simp [Region.wanted, hgd]
    rw [if_pos hw]
    have hn : news = [] := List.eq_nil_of_length_eq_zero (by simpa using hl)
    subst hn
    have hrun := append_zero_run w t o.type e i size ht hi v n xs (hS.get k hk) A c
    unfold Oper.wp execOp
    simp only [ho, resolve, invoke, builtin, Sem.run_bind, Sem.run_pure, Result.andThen_ok, List.map_toArray, List.map_cons, List.map_nil, hs, hx, hrun]
    refine h v w ?_
    have e : l.set k (rowOb e size v (n + 0) (xs ++ [])) = l := by
      rw [List.append_nil]
      exact set_self l k _ hk
    rw [e]
    exact hS
  · obtain ⟨ad, rfl, hnews⟩ := hA hm
    exact step_append_row hgd s x t ho e i z size bytes ht hi hz hsize hby hzs hsz v n xs hs (hS.get k hk) ad m c news hx hl hnews h1 hm h63 hbytes (fun v' w' h2 hg hv => h v' w' (hS.row k hk h2 hg hv))
theorem wpList_rowMO {ops : Array Oper} {o : Oper} {rest : List Oper} {a : Act} {Q : Exit → Act → World → Prop} {t e : TypeId} {i : TypeInfo} {z : Value} {size bytes : Nat} (hS : SW b w0 l w) (k : Nat) {v : Value} {n : Nat} {xs : List Value} (hk : l[k]? = some (rowOb e size v n xs))
    (hgd : o.guard = none) (s x : Operand) (ho : o.op = .call { callee := .builtin .append, args := #[s, x], argTypes := #[t, t] })
    (ht : Tryz.prog.underlying t = some (.slice e)) (hi : Tryz.prog.info? e = some i) (hz : i.zero = some z) (hsize : i.size = size) (hby : i.bytes = bytes) (hzs : z.cells.size = size) (hsz : 0 < size)
    (hs : a.eval s = v) (A : Option Addr) (m c : Nat) (news : List Value) (hx : a.eval x = .slice A m c) (hl : news.length = m * size) (hA : 0 < m → ∃ ad, A = some ad ∧ ∀ j u, news[j]? = some u → w.cell? (ad.add j) = some u) (h1 : ∀ u ∈ news, u.oneCell' = true)
    (h63 : n + m ≤ maxLen) (hbytes : (n + m) * bytes ≤ 140737488355328)
    (h : ∀ v' w', SW b w0 (l.set k (rowOb e size v' (n + m) (xs ++ news))) w' → wpList Tryz.prog ops Q rest (a.put o.dst v') w') :
    wpList Tryz.prog ops Q (o :: rest) a w := by
  have := step_rowM (ops := ops) (Q := Q) (E := False) (K := wpList Tryz.prog ops Q rest) hS k hk hgd s x ho ht hi hz hsize hby hzs hsz hs A m c news hx hl hA h1 h63 hbytes h
  have hw : Region.wanted o (yielded ops a.tmps) = true := by simp [Region.wanted, hgd]
  rw [if_pos hw] at this
  unfold wpList
  first
    | (rw [if_pos hw]; exact .inl this)
    | (simp only [hw, if_true]; exact .inl this)
    | (simp only [hw, if_true]; exact this)
end
section
variable {b : Nat} {w0 w w' : World} {l : List Ob}
theorem SW.sortP {v : Value} {xs : List ID} (h : SW b w0 (rowOb 36 2 v xs.length (xs.flatMap encID) :: l) w) (hn : xs.length ≤ 4294967296) :
    Calls Tryz.prog 82 #[v, .func (.func 55) #[] #[]] w (fun e w' => e = .returned (.tuple #[]) ∧ ∃ ys : List ID, ys.Perm xs ∧ ys.Pairwise (fun a b => ltOf cmpID b a = false) ∧ SW b w0 (rowOb 36 2 v ys.length (ys.flatMap encID) :: l) w') := by
  have hh : w.ownsRow 0 36 2 v xs.length (xs.flatMap encID) := h.get 0 rfl
  by_cases h0 : v = .slice none 0 0
  · subst h0
    refine (sortP_none none 0 w).mono ?_
    rintro e w' ⟨rfl, rfl⟩
    have hx : xs = [] := by
      rcases hh.2 with ⟨_, h2⟩ | ⟨g, cap, cur, hv, _⟩
      · exact List.eq_nil_of_length_eq_zero h2
      · cases hv
    subst hx
    exact ⟨rfl, [], List.Perm.refl _, List.Pairwise.nil, h⟩
  · obtain ⟨g, cap, rfl⟩ : ∃ g cap, v = .slice (some ⟨g, 0, none⟩) xs.length cap := by
      rcases hh.2 with ⟨hv, _⟩ | ⟨g, cap, cur, hv, _⟩
      · exact absurd hv h0
      · exact ⟨g, cap, hv⟩
    refine (sortP_any 0 g _ cap xs w hh hn).mono ?_
    rintro e w' ⟨rfl, ys, hp, hs, hown, hg⟩
    refine ⟨rfl, ys, hp, hs, ?_⟩
    have := h.row (w' := w') 0 rfl hown hg (.inl rfl)
    rw [hp.length_eq]
    exact this
theorem SW.compactO {v : Value} {xs : List ID} (h : SW b w0 (rowOb 36 2 v xs.length (xs.flatMap encID) :: l) w) (hn : xs.length ≤ 4294967296) :
    Calls Tryz.prog 83 #[v] w (fun e w' => ∃ A c, e = .returned (.slice A (dd xs).length c) ∧ (dd xs).length ≤ c ∧ SW b w0 (rwOb A (dd xs) :: l) w') := by
  have hh : w.ownsRow 0 36 2 v xs.length (xs.flatMap encID) := h.get 0 rfl
  by_cases h0 : v = .slice none 0 0
  · subst h0
    have hx : xs = [] := by
      rcases hh.2 with ⟨_, h2⟩ | ⟨g, cap, cur, hv, _⟩
      · exact List.eq_nil_of_length_eq_zero h2
      · cases hv
    subst hx
    have S := Lib.hid h
    clear h hh
    go_enter Tryz.func83, Tryz.ntmps83
    go_wp2_with fail
    go_ret
    exact ⟨none, 0, rfl, Nat.le_refl _, SW.rowRw (A := none) (cap := 0) (F := []) S.out⟩
  · obtain ⟨g, cap, rfl⟩ : ∃ g cap, v = .slice (some ⟨g, 0, none⟩) xs.length cap := by
      rcases hh.2 with ⟨hv, _⟩ | ⟨g, cap, cur, hv, _⟩
      · exact absurd hv h0
      · exact ⟨g, cap, hv⟩
    obtain ⟨_, hr, hlt, _⟩ := own_rowI hh
    have hcap : xs.length ≤ cap := own_cap hh
    refine (compact_any g cap xs w hr hn hlt hcap).mono ?_
    rintro e w' ⟨rfl, hr', hg⟩
    refine ⟨some ⟨g, 0, none⟩, cap, rfl, Nat.le_trans (dd_len xs) hcap, ?_⟩
    have hgl : g < w'.heap.size := Nat.lt_of_lt_of_le hlt hg.size
    have := h.1.stepAt (w' := w') (o' := rwOb (some ⟨g, 0, none⟩) (dd xs)) 0 rfl ⟨hg.os, hg.tape, hg.output, hg.size, fun i hi hn' => hg.block i hi (fun e => hn' e.symm), fun i hi => .inl (by
      have hi : (some ⟨g, 0, none⟩ : Option Addr) = some ⟨i, 0, none⟩ := hi
      injection hi with hi
      injection hi with hi
      show (some g : Option Nat) = some i
      rw [hi])⟩ (fun i hi => hi.elim) ⟨(fun e => by cases e), fun ad e => by injection e with e; subst e; exact ⟨g, rfl, hr', hgl⟩⟩ (fun i hi => by
      rcases hi with hi | hi
      · have hi : (some ⟨g, 0, none⟩ : Option Addr) = some ⟨i, 0, none⟩ := hi
        injection hi with hi
        injection hi with hi
        subst hi
        exact hgl
      · exact hi.elim)
    exact ⟨this.1, h.2.trans this.2⟩
abbrev LiveO (pin : List ID) (ms : List Man) (b : Nat) (w0 : World) (l : List Ob) (e : Ending) (w' : World) : Prop :=
  (errM ms = 0 ∧ ∃ A c, e = .returned (.tuple #[.slice A (setR (pin ++ idsOf ms)).length c, .int .i64 0]) ∧ (setR (pin ++ idsOf ms)).length ≤ c ∧ SW b w0 (rwOb A (setR (pin ++ idsOf ms)) :: l) w') ∨
  (errM ms ≠ 0 ∧ e = .returned (.tuple #[.slice none 0 0, .int .i64 (errM ms)]) ∧ SW b w0 l w')
theorem idsOf_take {ms : List Man} {k : Nat} (hk : k < ms.length) : idsOf (ms.take (k + 1)) = idsOf (ms.take k) ++ (ms.getD k man0).ids := by
  rw [take_snoc _ man0 _ hk, idsOf_snoc]
end
section
variable {b : Nat} {w0 w : World} {l : List Ob}
end
end Go.Proofs.YtmiknfneeipkeaaGreat
namespace Go.Proofs.YtmiknfneeipkeaaGreat
open Go.RowKit Go.MapKept Go.ChangeMaps Go.Shelf Go.Sort
attribute [local go_sem] wext_cell
section
variable {b : Nat} {w0 w w' : World} {l : List Ob}
set_option maxRecDepth 100000 in
set_option maxHeartbeats 8000000 in
theorem chunksOf_pin (h : SW b w0 l w) {A : Option Addr} {rs : List MR} {ms : List Man} (hm : imOb A rs ms ∈ l) (hn : ms.length ≤ 100000) (hi : ∀ m ∈ ms, m.ids.length ≤ 9223372036854775807) (pin : List ID) (hpin : pin = []) (c : Nat) :
    Calls Tryz.prog 39 #[.slice A ms.length c] w (LiveO pin ms b w0 l) := by
  have HM := Lib.hid hm
  have HI := Lib.hid hi
  clear hm hi
  obtain ⟨i1, gi, gz0, gz1, gz2⟩ := info_parts info36
  go_enter Tryz.func39, Tryz.ntmps39
  have hpl : pin.length ≤ 100000 := by rw [hpin]; exact Nat.zero_le _
  have S1 : Hid (SW b w0 (rowOb 36 2 (.slice none 0 0) (pin ++ idsOf (ms.take 0)).length ((pin ++ idsOf (ms.take 0)).flatMap encID) :: l) w) := by
    rw [hpin]
    exact h.newRow 36 2
  clear h hpin
  go_wp2_with fail
  go_loopw [4, 10] (fun s4 s10 wr => ∃ k : Nat, k ≤ ms.length ∧ s10 = .int .i64 (k : Int) ∧ Hid (errM (ms.take k) = 0) ∧ SW b w0 (rowOb 36 2 s4 (pin ++ idsOf (ms.take k)).length ((pin ++ idsOf (ms.take k)).flatMap encID) :: l) wr) (fun _ s10 _ => ms.length - (intOf s10).toNat)
  case atStart => exact ⟨0, Nat.zero_le _, rfl, rfl, S1.out⟩
  case round =>
    obtain ⟨k, hk, rfl, HE, hs⟩ := hrel
    have S2 := Lib.hid hs
    clear hs S1
    have hbig : (idsOf (ms.take k)).length ≤ 1024 * 100000 := by
      have h1 := idsOf_len HE.out
      rw [List.length_take] at h1
      omega
    by_cases hlt : k < ms.length
    · obtain ⟨h1, h2, h3⟩ := S2.out.1.holds (imOb A rs ms) (List.mem_cons_of_mem _ HM.out)
      obtain ⟨g, o, rfl, hgB, _, hc⟩ := h1 (by omega)
      obtain ⟨l1, l2, l3, l4⟩ := h3 k hlt
      have hmem := getD_mem ms man0 k hlt
      have HTK := Lib.hid (idsOf_take hlt)
      obtain ⟨m, HMK⟩ : ∃ m, Hid (ms.getD k man0 = m) := ⟨_, rfl⟩
      obtain ⟨⟨rz, rA, rl, rc⟩, HR⟩ : ∃ r, Hid (rs.getD k mr0 = r) := ⟨_, rfl⟩
      rw [HMK.out] at l1 l2 l4 hmem HTK
      rw [HR.out] at l1 l2 l3 l4
      simp only at l1 l2 l3 l4
      subst l1 l2
      have hil := HI.out m hmem
      have c0 : wr.cell? ⟨g, o + k * 2, none⟩ = some (.int .i64 m.size) := hc k (by omega) 0 _ (by rw [HR.out]; rfl)
      have c1 : wr.cell? ⟨g, o + k * 2 + 1, none⟩ = some (.slice rA m.ids.length rc) := hc k (by omega) 1 _ (by rw [HR.out]; rfl)
      have HB : Hid (manE m ≠ 0 → errM ms = manE m) := fun h => by have := errM_at HE.out hlt (by rw [HMK.out]; exact h); rwa [HMK.out] at this
      have HZ : Hid (manE m = 0 → errM (ms.take (k + 1)) = 0) := fun h => by rw [take_snoc _ man0 _ hlt, errM_snoc _ _ HE.out, HMK.out]; exact h
      have S3 := Lib.hid (S2.out.newCell 33 #[.int .i64 m.size, .slice rA m.ids.length rc])
      have HRD : Hid (RdID (wr.alloc (.cells #[.int .i64 m.size, .slice rA m.ids.length rc] 33)) (wr.alloc (.cells #[.int .i64 m.size, .slice rA m.ids.length rc] 33)).heap.size rA m.ids) := rd_top (l4.alloc _)
      have HCK := Lib.hid (manCheck_any _ m rA rc _ HRD.out hil)
      clear h1 h2 h3 hc l4 hmem S2
      go_wp2_with (go_at_call 74; (with_reducible refine HCK.out.mono ?_); refine halt_ ?_)
      rintro e w2 ⟨rfl, hb2⟩
      have S4 := Lib.hid (S3.out.on hb2)
      have HRD2 := Lib.hid (rd_top (HRD.out.on hb2))
      have d1 : w2.cell? ⟨wr.heap.size, 1, none⟩ = some (.slice rA m.ids.length rc) := (S4.out.cell 0 rfl).cell 1
      clear hb2 HCK S3 HRD c0 c1
      by_cases hE : manE m = 0
      · have hle := manE_len hE
        have HE2 := Lib.hid (HZ.out hE)
        rw [hE]
        clear hE HB HZ
        go_wp2_with (at_builtin; (refine wpList_rowMO (t := 31) (e := 36) (size := 2) (bytes := 16) (i := i1) S4.out 1 rfl (by rfl) (.tmp 19) (.tmp 21) (by rfl) Tryz.underlying31 gi gz0 gz1 gz2 rfl (by omega) (by rfl) rA m.ids.length rc (m.ids.flatMap encID) (by rfl) (flat_len encID_len m.ids) (rd_src HRD2.out) (encID_all m.ids) (by rw [List.length_append]; unfold maxLen; omega) (by rw [List.length_append]; omega) ?_); refine halt_ ?_)
        intro v4 w4 s4
        have S5 : Hid (SW b w0 (rowOb 36 2 v4 (pin ++ idsOf (ms.take (k + 1))).length ((pin ++ idsOf (ms.take (k + 1))).flatMap encID) :: l) w4) := by
          rw [Hid, HTK.out]
          simp only [List.flatMap_append, List.length_append, List.append_assoc, ← Nat.add_assoc]
          exact s4.tail
        clear s4 S4 d1
        go_wp2_with fail
        go_roundw
        case rel => exact ⟨k + 1, by omega, by go_num, HE2, S5.out⟩
        case measure => simp [intOf]; omega
      · have HEM := Lib.hid (HB.out hE)
        have HN : Hid (errM ms ≠ 0) := by rw [Hid, HEM.out]; exact hE
        have hbe : (manE m != 0) = true := bne_iff_ne.2 hE
        clear hE HB HZ
        go_wp2_with fail
        go_ret2
        exact .inr ⟨HN.out, by rw [HEM.out]; rfl, S4.out.tail.tail⟩
    · obtain rfl : k = ms.length := by omega
      have hT := HE.out
      rw [List.take_length] at hT hbig
      rw [List.take_length] at S2
      have HT := Lib.hid hT
      have HSO := Lib.hid (S2.out.sortP (by rw [List.length_append]; omega))
      obtain ⟨xs, HXS⟩ : ∃ xs, Hid (pin ++ idsOf ms = xs) := ⟨_, rfl⟩
      have hxl : xs.length ≤ 4294967296 := by rw [← HXS.out, List.length_append]; omega
      rw [HXS.out] at HSO
      clear hT S2 hbig
      go_wp2_with (go_at_call 82; (with_reducible refine HSO.out.mono ?_); refine halt_ ?_)
      rintro e w2 ⟨rfl, ys, hp, hso, s3⟩
      have HCO := Lib.hid (s3.compactO (by rw [hp.length_eq]; exact hxl))
      rw [dd_setR hp hso] at HCO
      clear s3 HSO hp hso
      go_wp2_with (go_at_call 83; (with_reducible refine HCO.out.mono ?_); refine halt_ ?_)
      rintro e w3 ⟨B, cb, rfl, hcb, s4⟩
      have HCB := Lib.hid hcb
      clear hcb
      have S4 := Lib.hid s4
      clear s4 HCO
      go_wp2_with fail
      go_ret2
      refine .inl ⟨HT.out, B, cb, ?_, by rw [HXS.out]; exact HCB.out, ?_⟩
      · rw [HXS.out]
        rfl
      · rw [HXS.out]
        exact S4.out
theorem chunksOf_any (h : SW b w0 l w) {A : Option Addr} {rs : List MR} {ms : List Man} (hm : imOb A rs ms ∈ l) (hn : ms.length ≤ 100000) (hi : ∀ m ∈ ms, m.ids.length ≤ 9223372036854775807) (c : Nat) : Calls Tryz.prog 39 #[.slice A ms.length c] w (LiveO [] ms b w0 l) := chunksOf_pin h hm hn hi [] rfl c
end
end Go.Proofs.YtmiknfneeipkeaaGreat
