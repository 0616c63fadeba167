/- Contracts of the walk, part 15. -/
import Derived.Test.YtmiknfneeipkeaaGreatR14
namespace Go.Proofs.YtmiknfneeipkeaaGreat
open Go.RowKit Go.MapKept Go.ChangeMaps
attribute [local go_sem] wext_cell
abbrev vRi (i ci ai : Int) : Value := .agg #[.string pA, .int .i64 i, .int .i64 ci, .int .i64 ai, .int .i64 1, .bool false, .bool false, .bool false, .int .u64 i, .int .i64 1, .string ⟨#[]⟩, .int .i64 0]
section
variable {b : Nat} {w0 w : World} {l : List Ob} {A : Option Addr} {m cm : Nat} {i ci ai : Int}
theorem name_any (w : World) : Calls Tryz.prog 140 #[vRi i ci ai] w (fun e w' => e = .returned (vF (pA, i)) ∧ Below w.heap.size w w') := by
  go_enter Tryz.func140, Tryz.ntmps140
  go_wp2_with fail
  refine bodyPost_ret (v := vF (pA, i)) ?_ rfl ⟨rfl, ((Below.refl _ _).alloc (Nat.le_refl _) _).alloc (by simp) _⟩
  simp [results, Tryz.results140, go_sem]
theorem same_number (w : World) (g : Nat) (hg : w.cell? ⟨g, 0, none⟩ = some (.int .i64 1)) : Calls Tryz.prog 216 #[vRi i ci ai, vPtr g] w (fun e w' => e = .returned (.bool (i == 1)) ∧ Below w.heap.size w w') := by
  have hlt : g < w.heap.size := by
    refine Classical.byContradiction (fun h => ?_)
    have : w.heap[g]? = none := Array.getElem?_eq_none (by omega)
    simp [World.cell?, this] at hg
  go_enter Tryz.func216, Tryz.ntmps216
  go_wp2_with fail
  go_ret
  exact ⟨rfl, (Below.refl _ _).alloc (Nat.le_refl _) _⟩
theorem greatest_any (h : SW b w0 l w) (hv : rvOb A m ∈ l) (h0 : 0 < m) (hm : m ≤ 100) (g : Nat) (hg : cellOb g 3 #[.int .i64 1] ∈ l) : Calls Tryz.prog 215 #[.agg #[.slice A m cm, .slice none 0 0], .string pA, .func (.func 216) #[] #[vPtr g]] w (fun e w' => e = .returned (.tuple #[vRi 1 10 1, .bool true]) ∧ Below w.heap.size w w') := by
  have SN := SW.refl (Sep.nil w (Nat.le_refl _))
  have S0 := Lib.hid (((SN.newCell 96 #[.slice A m cm, .slice none 0 0]).newCellAt 111 zC (H := w.heap.size + 1) (by simp)).newCellAt 111 zC (H := w.heap.size + 1 + 1) (by simp))
  have HRV := Lib.hid (fun (W : World) (hB : Below w.heap.size w W) => ((h.on hB).1.holds (rvOb A m) hv : RowV W 111 12 A m ((revs m).flatMap encR)))
  have HG := Lib.hid (fun (W : World) (hB : Below w.heap.size w W) => ((h.on hB).1.holds (cellOb g 3 #[.int .i64 1]) hg : IsB W g 3 #[.int .i64 1]))
  clear h hv hg SN
  go_enter Tryz.func215, Tryz.ntmps215
  go_upto_region 3 with fail
  obtain ⟨w1, HW⟩ : ∃ W, Hid (((w.alloc (.cells #[.slice A m cm, .slice none 0 0] 96)).alloc (.cells zC 111)).alloc (.cells zC 111) = W) := ⟨_, rfl⟩
  rw [HW.out] at S0 ⊢
  clear HW
  obtain ⟨g8, HG8⟩ : ∃ x, Hid (w.heap.size + 1 + 1 = x) := ⟨_, rfl⟩
  rw [HG8.out] at S0 ⊢
  clear HG8
  obtain ⟨g6, HG6⟩ : ∃ x, Hid (w.heap.size + 1 = x) := ⟨_, rfl⟩
  rw [HG6.out] at S0 ⊢
  clear HG6
  have d0 : w1.cell? ⟨w.heap.size, 0, none⟩ = some (.slice A m cm) := (S0.out.cell 2 rfl).cell 0
  go_wp2_with fail
  clear d0
  go_loopw [9, 15] (fun s9 s15 wr => ∃ (k : Nat), s15 = .int .i64 (k : Int) ∧ s9 = .bool (decide (0 < k)) ∧ k ≤ m ∧ SW w.heap.size w [cellOb g8 111 (if k = 0 then zC else #[.string pA, .int .i64 1, .int .i64 10, .int .i64 1, .int .i64 1, .bool false, .bool false, .bool false, .int .u64 1, .int .i64 1, .string ⟨#[]⟩, .int .i64 0]), cellOb g6 111 zC, cellOb w.heap.size 96 #[.slice A m cm, .slice none 0 0]] wr) (fun _ s15 _ => m - (intOf s15).toNat)
  case atStart => exact ⟨0, rfl, rfl, Nat.zero_le _, S0.out⟩
  case round =>
    obtain ⟨k, rfl, rfl, hkm, hs⟩ := hrel
    clear S0
    by_cases hlt : k < m
    · by_cases h0k : k = 0
      · obtain ⟨gr, hA, hgr, hc⟩ := rv_at (HRV.out wr hs.2) hlt
        subst hA
        subst h0k
        have S1 : Hid (SW w.heap.size w [cellOb g8 111 zC, cellOb g6 111 zC, cellOb w.heap.size 96 #[.slice (some ⟨gr, 0, none⟩) m cm, .slice none 0 0]] wr) := hs
        clear hs
        have c0 : wr.cell? ⟨gr, 0, none⟩ = some (.string pA) := hc 0 (by omega)
        have c1 : wr.cell? ⟨gr, 1, none⟩ = some (.int .i64 1) := hc 1 (by omega)
        have c2 : wr.cell? ⟨gr, 2, none⟩ = some (.int .i64 10) := hc 2 (by omega)
        have c3 : wr.cell? ⟨gr, 3, none⟩ = some (.int .i64 1) := hc 3 (by omega)
        have c4 : wr.cell? ⟨gr, 4, none⟩ = some (.int .i64 1) := hc 4 (by omega)
        have c5 : wr.cell? ⟨gr, 5, none⟩ = some (.bool false) := hc 5 (by omega)
        have c6 : wr.cell? ⟨gr, 6, none⟩ = some (.bool false) := hc 6 (by omega)
        have c7 : wr.cell? ⟨gr, 7, none⟩ = some (.bool false) := hc 7 (by omega)
        have c8 : wr.cell? ⟨gr, 8, none⟩ = some (.int .u64 1) := hc 8 (by omega)
        have c9 : wr.cell? ⟨gr, 9, none⟩ = some (.int .i64 1) := hc 9 (by omega)
        have c10 : wr.cell? ⟨gr, 10, none⟩ = some (.string ⟨#[]⟩) := hc 10 (by omega)
        have c11 : wr.cell? ⟨gr, 11, none⟩ = some (.int .i64 0) := hc 11 (by omega)
        clear hc
        have S2a := Lib.hid (S1.out.newCell 111 #[.string pA, .int .i64 1, .int .i64 10, .int .i64 1, .int .i64 1, .bool false, .bool false, .bool false, .int .u64 1, .int .i64 1, .string ⟨#[]⟩, .int .i64 0])
        go_upto_region 6 with fail
        obtain ⟨w2, HW⟩ : ∃ W, Hid (wr.alloc (.cells #[.string pA, .int .i64 1, .int .i64 10, .int .i64 1, .int .i64 1, .bool false, .bool false, .bool false, .int .u64 1, .int .i64 1, .string ⟨#[]⟩, .int .i64 0] 111) = W) := ⟨_, rfl⟩
        obtain ⟨g11, HX⟩ : ∃ x, Hid (wr.heap.size = x) := ⟨_, rfl⟩
        rw [HW.out, HX.out] at S2a ⊢
        clear HW HX S1 c0 c1 c2 c3 c4 c5 c6 c7 c8 c9 c10 c11
        have S2 := S2a
        clear S2a
        have c0 : w2.cell? ⟨g11, 0, none⟩ = some (.string pA) := (S2.out.cell 0 rfl).cell 0
        have c1 : w2.cell? ⟨g11, 1, none⟩ = some (.int .i64 1) := (S2.out.cell 0 rfl).cell 1
        have c2 : w2.cell? ⟨g11, 2, none⟩ = some (.int .i64 10) := (S2.out.cell 0 rfl).cell 2
        have c3 : w2.cell? ⟨g11, 3, none⟩ = some (.int .i64 1) := (S2.out.cell 0 rfl).cell 3
        have c4 : w2.cell? ⟨g11, 4, none⟩ = some (.int .i64 1) := (S2.out.cell 0 rfl).cell 4
        have c5 : w2.cell? ⟨g11, 5, none⟩ = some (.bool false) := (S2.out.cell 0 rfl).cell 5
        have c6 : w2.cell? ⟨g11, 6, none⟩ = some (.bool false) := (S2.out.cell 0 rfl).cell 6
        have c7 : w2.cell? ⟨g11, 7, none⟩ = some (.bool false) := (S2.out.cell 0 rfl).cell 7
        have c8 : w2.cell? ⟨g11, 8, none⟩ = some (.int .u64 1) := (S2.out.cell 0 rfl).cell 8
        have c9 : w2.cell? ⟨g11, 9, none⟩ = some (.int .i64 1) := (S2.out.cell 0 rfl).cell 9
        have c10 : w2.cell? ⟨g11, 10, none⟩ = some (.string ⟨#[]⟩) := (S2.out.cell 0 rfl).cell 10
        have c11 : w2.cell? ⟨g11, 11, none⟩ = some (.int .i64 0) := (S2.out.cell 0 rfl).cell 11
        have hg1 : w2.cell? ⟨g, 0, none⟩ = some (.int .i64 1) := (HG.out w2 S2.out.2).cell 0
        have HSN := Lib.hid (same_number (i := 1) (ci := 10) (ai := 1) w2 g hg1)
        go_wp2_with (go_at_call 216; (with_reducible refine HSN.out.mono ?_); refine halt_ ?_)
        rintro e w3 ⟨rfl, hb3⟩
        have S3 := Lib.hid (S2.out.on hb3)
        clear hb3 S2 HSN hg1 c0 c1 c2 c3 c4 c5 c6 c7 c8 c9 c10 c11
        have c0 : w3.cell? ⟨g11, 0, none⟩ = some (.string pA) := (S3.out.cell 0 rfl).cell 0
        have c1 : w3.cell? ⟨g11, 1, none⟩ = some (.int .i64 1) := (S3.out.cell 0 rfl).cell 1
        have c2 : w3.cell? ⟨g11, 2, none⟩ = some (.int .i64 10) := (S3.out.cell 0 rfl).cell 2
        have c3 : w3.cell? ⟨g11, 3, none⟩ = some (.int .i64 1) := (S3.out.cell 0 rfl).cell 3
        have c4 : w3.cell? ⟨g11, 4, none⟩ = some (.int .i64 1) := (S3.out.cell 0 rfl).cell 4
        have c5 : w3.cell? ⟨g11, 5, none⟩ = some (.bool false) := (S3.out.cell 0 rfl).cell 5
        have c6 : w3.cell? ⟨g11, 6, none⟩ = some (.bool false) := (S3.out.cell 0 rfl).cell 6
        have c7 : w3.cell? ⟨g11, 7, none⟩ = some (.bool false) := (S3.out.cell 0 rfl).cell 7
        have c8 : w3.cell? ⟨g11, 8, none⟩ = some (.int .u64 1) := (S3.out.cell 0 rfl).cell 8
        have c9 : w3.cell? ⟨g11, 9, none⟩ = some (.int .i64 1) := (S3.out.cell 0 rfl).cell 9
        have c10 : w3.cell? ⟨g11, 10, none⟩ = some (.string ⟨#[]⟩) := (S3.out.cell 0 rfl).cell 10
        have c11 : w3.cell? ⟨g11, 11, none⟩ = some (.int .i64 0) := (S3.out.cell 0 rfl).cell 11
        have d0 : w3.cell? ⟨g8, 0, none⟩ = some (.string ⟨#[]⟩) := (S3.out.cell 1 rfl).cell 0
        have d1 : w3.cell? ⟨g8, 1, none⟩ = some (.int .i64 0) := (S3.out.cell 1 rfl).cell 1
        have d2 : w3.cell? ⟨g8, 2, none⟩ = some (.int .i64 0) := (S3.out.cell 1 rfl).cell 2
        have d3 : w3.cell? ⟨g8, 3, none⟩ = some (.int .i64 0) := (S3.out.cell 1 rfl).cell 3
        have d4 : w3.cell? ⟨g8, 4, none⟩ = some (.int .i64 0) := (S3.out.cell 1 rfl).cell 4
        have d5 : w3.cell? ⟨g8, 5, none⟩ = some (.bool false) := (S3.out.cell 1 rfl).cell 5
        have d6 : w3.cell? ⟨g8, 6, none⟩ = some (.bool false) := (S3.out.cell 1 rfl).cell 6
        have d7 : w3.cell? ⟨g8, 7, none⟩ = some (.bool false) := (S3.out.cell 1 rfl).cell 7
        have d8 : w3.cell? ⟨g8, 8, none⟩ = some (.int .u64 0) := (S3.out.cell 1 rfl).cell 8
        have d9 : w3.cell? ⟨g8, 9, none⟩ = some (.int .i64 0) := (S3.out.cell 1 rfl).cell 9
        have d10 : w3.cell? ⟨g8, 10, none⟩ = some (.string ⟨#[]⟩) := (S3.out.cell 1 rfl).cell 10
        have d11 : w3.cell? ⟨g8, 11, none⟩ = some (.int .i64 0) := (S3.out.cell 1 rfl).cell 11
        have f0 := (S3.out.cell 1 rfl).frozen 0
        have f1 := (S3.out.cell 1 rfl).frozen 1
        have f2 := (S3.out.cell 1 rfl).frozen 2
        have f3 := (S3.out.cell 1 rfl).frozen 3
        have f4 := (S3.out.cell 1 rfl).frozen 4
        have f5 := (S3.out.cell 1 rfl).frozen 5
        have f6 := (S3.out.cell 1 rfl).frozen 6
        have f7 := (S3.out.cell 1 rfl).frozen 7
        have f8 := (S3.out.cell 1 rfl).frozen 8
        have f9 := (S3.out.cell 1 rfl).frozen 9
        have f10 := (S3.out.cell 1 rfl).frozen 10
        have f11 := (S3.out.cell 1 rfl).frozen 11
        have S4 := Lib.hid ((S3.out.setAll12 1 rfl (.string pA) (.int .i64 1) (.int .i64 10) (.int .i64 1) (.int .i64 1) (.bool false) (.bool false) (.bool false) (.int .u64 1) (.int .i64 1) (.string ⟨#[]⟩) (.int .i64 0)).tail)
        go_wp2_with fail
        go_roundw
        case rel => exact ⟨1, by go_num, rfl, by omega, S4.out⟩
        case measure => simp [intOf]; omega
      · obtain ⟨gr, hA, hgr, hc⟩ := rv_at (HRV.out wr hs.2) hlt
        subst hA
        have S1 : Hid (SW w.heap.size w [cellOb g8 111 #[.string pA, .int .i64 1, .int .i64 10, .int .i64 1, .int .i64 1, .bool false, .bool false, .bool false, .int .u64 1, .int .i64 1, .string ⟨#[]⟩, .int .i64 0], cellOb g6 111 zC, cellOb w.heap.size 96 #[.slice (some ⟨gr, 0, none⟩) m cm, .slice none 0 0]] wr) := by rw [if_neg h0k] at hs; exact hs
        clear hs
        obtain ⟨i, HI⟩ : ∃ i, Hid ((k : Int) + 1 = i) := ⟨_, rfl⟩
        obtain ⟨ci, HC⟩ : ∃ ci, Hid (10 * i = ci) := ⟨_, rfl⟩
        obtain ⟨ai, HA⟩ : ∃ ai, Hid (actI i = ai) := ⟨_, rfl⟩
        have hcc : ∀ c, c < 12 → wr.cell? ⟨gr, k * 12 + c, none⟩ = [Value.string pA, .int .i64 i, .int .i64 ci, .int .i64 ai, .int .i64 1, .bool false, .bool false, .bool false, .int .u64 i, .int .i64 1, .string ⟨#[]⟩, .int .i64 0][c]? := fun c h => by
          rw [hc c h, HI.out, ← HC.out, ← HA.out]
          rfl
        have c0 : wr.cell? ⟨gr, k * 12, none⟩ = some (.string pA) := hcc 0 (by omega)
        have c1 : wr.cell? ⟨gr, k * 12 + 1, none⟩ = some (.int .i64 i) := hcc 1 (by omega)
        have c2 : wr.cell? ⟨gr, k * 12 + 2, none⟩ = some (.int .i64 ci) := hcc 2 (by omega)
        have c3 : wr.cell? ⟨gr, k * 12 + 3, none⟩ = some (.int .i64 ai) := hcc 3 (by omega)
        have c4 : wr.cell? ⟨gr, k * 12 + 4, none⟩ = some (.int .i64 1) := hcc 4 (by omega)
        have c5 : wr.cell? ⟨gr, k * 12 + 5, none⟩ = some (.bool false) := hcc 5 (by omega)
        have c6 : wr.cell? ⟨gr, k * 12 + 6, none⟩ = some (.bool false) := hcc 6 (by omega)
        have c7 : wr.cell? ⟨gr, k * 12 + 7, none⟩ = some (.bool false) := hcc 7 (by omega)
        have c8 : wr.cell? ⟨gr, k * 12 + 8, none⟩ = some (.int .u64 i) := hcc 8 (by omega)
        have c9 : wr.cell? ⟨gr, k * 12 + 9, none⟩ = some (.int .i64 1) := hcc 9 (by omega)
        have c10 : wr.cell? ⟨gr, k * 12 + 10, none⟩ = some (.string ⟨#[]⟩) := hcc 10 (by omega)
        have c11 : wr.cell? ⟨gr, k * 12 + 11, none⟩ = some (.int .i64 0) := hcc 11 (by omega)
        clear hcc
        have hd0 : decide (0 < k) = true := decide_eq_true (by omega)
        have hi1 : (i == 1) = false := by have := HI.out; simp only [beq_eq_false_iff_ne, ne_eq]; omega
        clear hc
        have S2a := Lib.hid (S1.out.newCell 111 #[.string pA, .int .i64 i, .int .i64 ci, .int .i64 ai, .int .i64 1, .bool false, .bool false, .bool false, .int .u64 i, .int .i64 1, .string ⟨#[]⟩, .int .i64 0])
        go_upto_region 6 with fail
        obtain ⟨w2, HW⟩ : ∃ W, Hid (wr.alloc (.cells #[.string pA, .int .i64 i, .int .i64 ci, .int .i64 ai, .int .i64 1, .bool false, .bool false, .bool false, .int .u64 i, .int .i64 1, .string ⟨#[]⟩, .int .i64 0] 111) = W) := ⟨_, rfl⟩
        obtain ⟨g11, HX⟩ : ∃ x, Hid (wr.heap.size = x) := ⟨_, rfl⟩
        rw [HW.out, HX.out] at S2a ⊢
        clear HW HX S1 c0 c1 c2 c3 c4 c5 c6 c7 c8 c9 c10 c11
        have S2 := S2a
        clear S2a
        have c0 : w2.cell? ⟨g11, 0, none⟩ = some (.string pA) := (S2.out.cell 0 rfl).cell 0
        have c1 : w2.cell? ⟨g11, 1, none⟩ = some (.int .i64 i) := (S2.out.cell 0 rfl).cell 1
        have c2 : w2.cell? ⟨g11, 2, none⟩ = some (.int .i64 ci) := (S2.out.cell 0 rfl).cell 2
        have c3 : w2.cell? ⟨g11, 3, none⟩ = some (.int .i64 ai) := (S2.out.cell 0 rfl).cell 3
        have c4 : w2.cell? ⟨g11, 4, none⟩ = some (.int .i64 1) := (S2.out.cell 0 rfl).cell 4
        have c5 : w2.cell? ⟨g11, 5, none⟩ = some (.bool false) := (S2.out.cell 0 rfl).cell 5
        have c6 : w2.cell? ⟨g11, 6, none⟩ = some (.bool false) := (S2.out.cell 0 rfl).cell 6
        have c7 : w2.cell? ⟨g11, 7, none⟩ = some (.bool false) := (S2.out.cell 0 rfl).cell 7
        have c8 : w2.cell? ⟨g11, 8, none⟩ = some (.int .u64 i) := (S2.out.cell 0 rfl).cell 8
        have c9 : w2.cell? ⟨g11, 9, none⟩ = some (.int .i64 1) := (S2.out.cell 0 rfl).cell 9
        have c10 : w2.cell? ⟨g11, 10, none⟩ = some (.string ⟨#[]⟩) := (S2.out.cell 0 rfl).cell 10
        have c11 : w2.cell? ⟨g11, 11, none⟩ = some (.int .i64 0) := (S2.out.cell 0 rfl).cell 11
        have hg1 : w2.cell? ⟨g, 0, none⟩ = some (.int .i64 1) := (HG.out w2 S2.out.2).cell 0
        have HSN := Lib.hid (same_number (i := i) (ci := ci) (ai := ai) w2 g hg1)
        rw [hi1] at HSN
        go_wp2_with (go_at_call 216; (with_reducible refine HSN.out.mono ?_); refine halt_ ?_)
        rintro e w3 ⟨rfl, hb3⟩
        have S3 := Lib.hid (S2.out.on hb3)
        clear hb3 S2 HSN hg1 c0 c1 c2 c3 c4 c5 c6 c7 c8 c9 c10 c11
        have c0 : w3.cell? ⟨g11, 0, none⟩ = some (.string pA) := (S3.out.cell 0 rfl).cell 0
        have c1 : w3.cell? ⟨g11, 1, none⟩ = some (.int .i64 i) := (S3.out.cell 0 rfl).cell 1
        have c2 : w3.cell? ⟨g11, 2, none⟩ = some (.int .i64 ci) := (S3.out.cell 0 rfl).cell 2
        have c3 : w3.cell? ⟨g11, 3, none⟩ = some (.int .i64 ai) := (S3.out.cell 0 rfl).cell 3
        have c4 : w3.cell? ⟨g11, 4, none⟩ = some (.int .i64 1) := (S3.out.cell 0 rfl).cell 4
        have c5 : w3.cell? ⟨g11, 5, none⟩ = some (.bool false) := (S3.out.cell 0 rfl).cell 5
        have c6 : w3.cell? ⟨g11, 6, none⟩ = some (.bool false) := (S3.out.cell 0 rfl).cell 6
        have c7 : w3.cell? ⟨g11, 7, none⟩ = some (.bool false) := (S3.out.cell 0 rfl).cell 7
        have c8 : w3.cell? ⟨g11, 8, none⟩ = some (.int .u64 i) := (S3.out.cell 0 rfl).cell 8
        have c9 : w3.cell? ⟨g11, 9, none⟩ = some (.int .i64 1) := (S3.out.cell 0 rfl).cell 9
        have c10 : w3.cell? ⟨g11, 10, none⟩ = some (.string ⟨#[]⟩) := (S3.out.cell 0 rfl).cell 10
        have c11 : w3.cell? ⟨g11, 11, none⟩ = some (.int .i64 0) := (S3.out.cell 0 rfl).cell 11
        go_wp2_with fail
        go_roundw
        case rel => exact ⟨k + 1, by go_num, by simp [hd0], by omega, by rw [if_neg (by omega)]; exact S3.out.tail⟩
        case measure => simp [intOf]; omega
    · obtain rfl : k = m := by omega
      have S1 : Hid (SW w.heap.size w [cellOb g8 111 #[.string pA, .int .i64 1, .int .i64 10, .int .i64 1, .int .i64 1, .bool false, .bool false, .bool false, .int .u64 1, .int .i64 1, .string ⟨#[]⟩, .int .i64 0], cellOb g6 111 zC, cellOb w.heap.size 96 #[.slice A k cm, .slice none 0 0]] wr) := by rw [if_neg (by omega)] at hs; exact hs
      clear hs
      have hd0 : decide (0 < k) = true := decide_eq_true (by omega)
      have c0 : wr.cell? ⟨g8, 0, none⟩ = some (.string pA) := (S1.out.cell 0 rfl).cell 0
      have c1 : wr.cell? ⟨g8, 1, none⟩ = some (.int .i64 1) := (S1.out.cell 0 rfl).cell 1
      have c2 : wr.cell? ⟨g8, 2, none⟩ = some (.int .i64 10) := (S1.out.cell 0 rfl).cell 2
      have c3 : wr.cell? ⟨g8, 3, none⟩ = some (.int .i64 1) := (S1.out.cell 0 rfl).cell 3
      have c4 : wr.cell? ⟨g8, 4, none⟩ = some (.int .i64 1) := (S1.out.cell 0 rfl).cell 4
      have c5 : wr.cell? ⟨g8, 5, none⟩ = some (.bool false) := (S1.out.cell 0 rfl).cell 5
      have c6 : wr.cell? ⟨g8, 6, none⟩ = some (.bool false) := (S1.out.cell 0 rfl).cell 6
      have c7 : wr.cell? ⟨g8, 7, none⟩ = some (.bool false) := (S1.out.cell 0 rfl).cell 7
      have c8 : wr.cell? ⟨g8, 8, none⟩ = some (.int .u64 1) := (S1.out.cell 0 rfl).cell 8
      have c9 : wr.cell? ⟨g8, 9, none⟩ = some (.int .i64 1) := (S1.out.cell 0 rfl).cell 9
      have c10 : wr.cell? ⟨g8, 10, none⟩ = some (.string ⟨#[]⟩) := (S1.out.cell 0 rfl).cell 10
      have c11 : wr.cell? ⟨g8, 11, none⟩ = some (.int .i64 0) := (S1.out.cell 0 rfl).cell 11
      have d0 : wr.cell? ⟨g6, 0, none⟩ = some (.string ⟨#[]⟩) := (S1.out.cell 1 rfl).cell 0
      have d1 : wr.cell? ⟨g6, 1, none⟩ = some (.int .i64 0) := (S1.out.cell 1 rfl).cell 1
      have d2 : wr.cell? ⟨g6, 2, none⟩ = some (.int .i64 0) := (S1.out.cell 1 rfl).cell 2
      have d3 : wr.cell? ⟨g6, 3, none⟩ = some (.int .i64 0) := (S1.out.cell 1 rfl).cell 3
      have d4 : wr.cell? ⟨g6, 4, none⟩ = some (.int .i64 0) := (S1.out.cell 1 rfl).cell 4
      have d5 : wr.cell? ⟨g6, 5, none⟩ = some (.bool false) := (S1.out.cell 1 rfl).cell 5
      have d6 : wr.cell? ⟨g6, 6, none⟩ = some (.bool false) := (S1.out.cell 1 rfl).cell 6
      have d7 : wr.cell? ⟨g6, 7, none⟩ = some (.bool false) := (S1.out.cell 1 rfl).cell 7
      have d8 : wr.cell? ⟨g6, 8, none⟩ = some (.int .u64 0) := (S1.out.cell 1 rfl).cell 8
      have d9 : wr.cell? ⟨g6, 9, none⟩ = some (.int .i64 0) := (S1.out.cell 1 rfl).cell 9
      have d10 : wr.cell? ⟨g6, 10, none⟩ = some (.string ⟨#[]⟩) := (S1.out.cell 1 rfl).cell 10
      have d11 : wr.cell? ⟨g6, 11, none⟩ = some (.int .i64 0) := (S1.out.cell 1 rfl).cell 11
      have f0 := (S1.out.cell 1 rfl).frozen 0
      have f1 := (S1.out.cell 1 rfl).frozen 1
      have f2 := (S1.out.cell 1 rfl).frozen 2
      have f3 := (S1.out.cell 1 rfl).frozen 3
      have f4 := (S1.out.cell 1 rfl).frozen 4
      have f5 := (S1.out.cell 1 rfl).frozen 5
      have f6 := (S1.out.cell 1 rfl).frozen 6
      have f7 := (S1.out.cell 1 rfl).frozen 7
      have f8 := (S1.out.cell 1 rfl).frozen 8
      have f9 := (S1.out.cell 1 rfl).frozen 9
      have f10 := (S1.out.cell 1 rfl).frozen 10
      have f11 := (S1.out.cell 1 rfl).frozen 11
      have S2 := Lib.hid (S1.out.setAll12 1 rfl (.string pA) (.int .i64 1) (.int .i64 10) (.int .i64 1) (.int .i64 1) (.bool false) (.bool false) (.bool false) (.int .u64 1) (.int .i64 1) (.string ⟨#[]⟩) (.int .i64 0))
      go_wp2_with fail
      clear c0 c1 c2 c3 c4 c5 c6 c7 c8 c9 c10 c11 d0 d1 d2 d3 d4 d5 d6 d7 d8 d9 d10 d11 f0 f1 f2 f3 f4 f5 f6 f7 f8 f9 f10 f11
      have e0 : _ = some (Value.string pA) := (S2.out.cell 1 rfl).cell 0
      have e1 : _ = some (Value.int .i64 1) := (S2.out.cell 1 rfl).cell 1
      have e2 : _ = some (Value.int .i64 10) := (S2.out.cell 1 rfl).cell 2
      have e3 : _ = some (Value.int .i64 1) := (S2.out.cell 1 rfl).cell 3
      have e4 : _ = some (Value.int .i64 1) := (S2.out.cell 1 rfl).cell 4
      have e5 : _ = some (Value.bool false) := (S2.out.cell 1 rfl).cell 5
      have e6 : _ = some (Value.bool false) := (S2.out.cell 1 rfl).cell 6
      have e7 : _ = some (Value.bool false) := (S2.out.cell 1 rfl).cell 7
      have e8 : _ = some (Value.int .u64 1) := (S2.out.cell 1 rfl).cell 8
      have e9 : _ = some (Value.int .i64 1) := (S2.out.cell 1 rfl).cell 9
      have e10 : _ = some (Value.string ⟨#[]⟩) := (S2.out.cell 1 rfl).cell 10
      have e11 : _ = some (Value.int .i64 0) := (S2.out.cell 1 rfl).cell 11
      have hb := S2.out.2
      refine bodyPost_ret (v := .tuple #[vRi 1 10 1, .bool true]) ?_ rfl ⟨rfl, hb⟩
      simp only [results, Tryz.results215]
      go_simp
end
end Go.Proofs.YtmiknfneeipkeaaGreat
namespace Go.Proofs.YtmiknfneeipkeaaGreat
open Go.RowKit Go.MapKept Go.ChangeMaps
attribute [local go_sem] wext_cell
section
variable {b : Nat} {w0 w : World} {l : List Ob} {A : Option Addr} {m cm : Nat}
theorem SW.reader {o : Ob} (h : SW b w0 l w) (hm : o ∈ l) (hn : ∀ i, ¬ o.own i) : SW w.heap.size w [o] w := by
  refine SW.refl ⟨Nat.le_refl _, fun y hy => ?_, fun y hy i hi => ?_, fun y hy i hi => ?_, List.pairwise_singleton _ _⟩ <;> obtain rfl := List.mem_singleton.1 hy
  · exact h.1.holds _ hm
  · exact absurd hi (hn i)
  · exact h.1.rd _ hm i hi
set_option maxRecDepth 100000 in
set_option maxHeartbeats 8000000 in
theorem get_any (h : SW b w0 l w) (hv : rvOb A m ∈ l) (h0 : 0 < m) (hm : m ≤ 100) : Calls Tryz.prog 183 #[.agg #[.slice A m cm, .slice none 0 0], .string pA, .int .i64 1] w (fun e w' => e = .returned (.tuple #[vRi 1 10 1, .bool true]) ∧ Below w.heap.size w w') := by
  have S0 : Hid (SW w.heap.size w (cellOb (w.heap.size + 1 + 1) 111 zC :: cellOb (w.heap.size + 1) 3 #[.int .i64 1] :: cellOb w.heap.size 96 #[.slice A m cm, .slice none 0 0] :: [rvOb A m]) _) := Lib.hid ((((h.reader hv (fun _ hi => hi)).newCell 96 #[.slice A m cm, .slice none 0 0]).newCellAt 3 #[.int .i64 1] (H := w.heap.size + 1) (by simp)).newCellAt 111 zC (H := w.heap.size + 1 + 1) (by simp))
  clear h hv
  go_enter Tryz.func183, Tryz.ntmps183
  go_upto_region 1 with fail
  obtain ⟨w1, HW⟩ : ∃ W, Hid (((w.alloc (.cells #[.slice A m cm, .slice none 0 0] 96)).alloc (.cells #[.int .i64 1] 3)).alloc (.cells zC 111) = W) := ⟨_, rfl⟩
  rw [HW.out] at S0 ⊢
  clear HW
  obtain ⟨g6, HG6⟩ : ∃ x, Hid (w.heap.size + 1 + 1 = x) := ⟨_, rfl⟩
  rw [HG6.out] at S0 ⊢
  clear HG6
  obtain ⟨g5, HG5⟩ : ∃ x, Hid (w.heap.size + 1 = x) := ⟨_, rfl⟩
  rw [HG5.out] at S0 ⊢
  clear HG5
  have c0 : w1.cell? ⟨w.heap.size, 0, none⟩ = some (.slice A m cm) := (S0.out.cell 2 rfl).cell 0
  have c1 : w1.cell? ⟨w.heap.size, 1, none⟩ = some (.slice none 0 0) := (S0.out.cell 2 rfl).cell 1
  have HGR := Lib.hid (greatest_any (cm := cm) S0.out (A := A) (m := m) (by simp) h0 hm g5 (by simp))
  go_wp2_with (go_at_call 215; (with_reducible refine HGR.out.mono ?_); refine halt_ ?_)
  rintro e w2 ⟨rfl, hb2⟩
  have S1 := Lib.hid (S0.out.on hb2)
  clear hb2 HGR S0 c0 c1
  have d0 : w2.cell? ⟨g6, 0, none⟩ = some (.string ⟨#[]⟩) := (S1.out.cell 0 rfl).cell 0
  have d1 : w2.cell? ⟨g6, 1, none⟩ = some (.int .i64 0) := (S1.out.cell 0 rfl).cell 1
  have d2 : w2.cell? ⟨g6, 2, none⟩ = some (.int .i64 0) := (S1.out.cell 0 rfl).cell 2
  have d3 : w2.cell? ⟨g6, 3, none⟩ = some (.int .i64 0) := (S1.out.cell 0 rfl).cell 3
  have d4 : w2.cell? ⟨g6, 4, none⟩ = some (.int .i64 0) := (S1.out.cell 0 rfl).cell 4
  have d5 : w2.cell? ⟨g6, 5, none⟩ = some (.bool false) := (S1.out.cell 0 rfl).cell 5
  have d6 : w2.cell? ⟨g6, 6, none⟩ = some (.bool false) := (S1.out.cell 0 rfl).cell 6
  have d7 : w2.cell? ⟨g6, 7, none⟩ = some (.bool false) := (S1.out.cell 0 rfl).cell 7
  have d8 : w2.cell? ⟨g6, 8, none⟩ = some (.int .u64 0) := (S1.out.cell 0 rfl).cell 8
  have d9 : w2.cell? ⟨g6, 9, none⟩ = some (.int .i64 0) := (S1.out.cell 0 rfl).cell 9
  have d10 : w2.cell? ⟨g6, 10, none⟩ = some (.string ⟨#[]⟩) := (S1.out.cell 0 rfl).cell 10
  have d11 : w2.cell? ⟨g6, 11, none⟩ = some (.int .i64 0) := (S1.out.cell 0 rfl).cell 11
  have f0 := (S1.out.cell 0 rfl).frozen 0
  have f1 := (S1.out.cell 0 rfl).frozen 1
  have f2 := (S1.out.cell 0 rfl).frozen 2
  have f3 := (S1.out.cell 0 rfl).frozen 3
  have f4 := (S1.out.cell 0 rfl).frozen 4
  have f5 := (S1.out.cell 0 rfl).frozen 5
  have f6 := (S1.out.cell 0 rfl).frozen 6
  have f7 := (S1.out.cell 0 rfl).frozen 7
  have f8 := (S1.out.cell 0 rfl).frozen 8
  have f9 := (S1.out.cell 0 rfl).frozen 9
  have f10 := (S1.out.cell 0 rfl).frozen 10
  have f11 := (S1.out.cell 0 rfl).frozen 11
  have S2 := Lib.hid (S1.out.setAll12 0 rfl (.string pA) (.int .i64 1) (.int .i64 10) (.int .i64 1) (.int .i64 1) (.bool false) (.bool false) (.bool false) (.int .u64 1) (.int .i64 1) (.string ⟨#[]⟩) (.int .i64 0))
  go_wp2_with fail
  clear d0 d1 d2 d3 d4 d5 d6 d7 d8 d9 d10 d11 f0 f1 f2 f3 f4 f5 f6 f7 f8 f9 f10 f11
  have e0 : _ = some (Value.string pA) := (S2.out.cell 0 rfl).cell 0
  have e1 : _ = some (Value.int .i64 1) := (S2.out.cell 0 rfl).cell 1
  have e2 : _ = some (Value.int .i64 10) := (S2.out.cell 0 rfl).cell 2
  have e3 : _ = some (Value.int .i64 1) := (S2.out.cell 0 rfl).cell 3
  have e4 : _ = some (Value.int .i64 1) := (S2.out.cell 0 rfl).cell 4
  have e5 : _ = some (Value.bool false) := (S2.out.cell 0 rfl).cell 5
  have e6 : _ = some (Value.bool false) := (S2.out.cell 0 rfl).cell 6
  have e7 : _ = some (Value.bool false) := (S2.out.cell 0 rfl).cell 7
  have e8 : _ = some (Value.int .u64 1) := (S2.out.cell 0 rfl).cell 8
  have e9 : _ = some (Value.int .i64 1) := (S2.out.cell 0 rfl).cell 9
  have e10 : _ = some (Value.string ⟨#[]⟩) := (S2.out.cell 0 rfl).cell 10
  have e11 : _ = some (Value.int .i64 0) := (S2.out.cell 0 rfl).cell 11
  have hb := S2.out.2
  refine bodyPost_ret (v := .tuple #[vRi 1 10 1, .bool true]) ?_ rfl ⟨rfl, hb⟩
  simp only [results, Tryz.results183]
  go_simp
end
end Go.Proofs.YtmiknfneeipkeaaGreat
namespace Go.Proofs.YtmiknfneeipkeaaGreat
open Go.RowKit Go.MapKept Go.ChangeMaps
attribute [local go_sem] wext_cell
theorem info168 : (Tryz.prog.info? 168).map (fun i => (i.zero, i.size, i.bytes)) = some (some (.agg #[.string ⟨#[]⟩, .int .i64 0]), 2, 24) := by kernel_rfl
def oneL (k : Nat) (xs : List Value) : List Value := if k = 0 then [] else xs
section
variable {b : Nat} {w0 w : World} {l : List Ob} {A : Option Addr} {m cm : Nat}
set_option maxRecDepth 100000 in
set_option maxHeartbeats 8000000 in
theorem lines_any (h : SW b w0 l w) (hv : rvOb A m ∈ l) (h0 : 0 < m) (hm : m ≤ 100) : Calls Tryz.prog 102 #[.agg #[.slice A m cm, .slice none 0 0]] w (fun e w' => ∃ A' c', e = .returned (.slice A' 1 c') ∧ SW b w0 (rowOb 168 2 (.slice A' 1 c') 1 [.string pA, .int .i64 1] :: l) w') := by
  have S0 : Hid (SW b w0 (rowOb 168 2 (.slice none 0 0) 0 [] :: cellOb w.heap.size 96 #[.slice A m cm, .slice none 0 0] :: l) _) := Lib.hid ((h.newCell 96 #[.slice A m cm, .slice none 0 0]).newRow 168 2)
  have HV := Lib.hid hv
  clear h hv
  go_enter Tryz.func102, Tryz.ntmps102
  go_upto_region 2 with fail
  obtain ⟨w1, HW⟩ : ∃ W, Hid (w.alloc (.cells #[.slice A m cm, .slice none 0 0] 96) = W) := ⟨_, rfl⟩
  rw [HW.out] at S0 ⊢
  clear HW
  have d0 : w1.cell? ⟨w.heap.size, 0, none⟩ = some (.slice A m cm) := (S0.out.cell 1 rfl).cell 0
  go_wp2_with fail
  clear d0
  go_loopw [3, 9] (fun s3 s9 wr => ∃ (k : Nat), s9 = .int .i64 (k : Int) ∧ k ≤ m ∧ ∃ (A' : Option Addr) (c' : Nat), s3 = .slice A' (if k = 0 then 0 else 1) c' ∧ SW b w0 (rowOb 168 2 (.slice A' (if k = 0 then 0 else 1) c') (if k = 0 then 0 else 1) (oneL k [.string pA, .int .i64 1]) :: l) wr) (fun _ s9 _ => m - (intOf s9).toNat)
  case atStart => exact ⟨0, rfl, Nat.zero_le _, none, 0, rfl, SW.few (pre := [_, _]) S0.out [0] (n := 2) rfl (by decide) (by decide)⟩
  case round =>
    obtain ⟨k, rfl, hkm, AX, cX, rfl, hs⟩ := hrel
    clear S0
    by_cases hlt : k < m
    · by_cases h0k : k = 0
      · obtain ⟨gr, hA, hgr, hc⟩ := rv_at (hs.1.holds (rvOb A m) (List.mem_cons_of_mem _ HV.out)) hlt
        subst hA
        subst h0k
        have S1 : Hid (SW b w0 (rowOb 168 2 (.slice AX 0 cX) 0 [] :: l) wr) := hs
        clear hs
        have c0 : wr.cell? ⟨gr, 0, none⟩ = some (.string pA) := hc 0 (by omega)
        have c1 : wr.cell? ⟨gr, 1, none⟩ = some (.int .i64 1) := hc 1 (by omega)
        have c2 : wr.cell? ⟨gr, 2, none⟩ = some (.int .i64 10) := hc 2 (by omega)
        have c3 : wr.cell? ⟨gr, 3, none⟩ = some (.int .i64 1) := hc 3 (by omega)
        have c4 : wr.cell? ⟨gr, 4, none⟩ = some (.int .i64 1) := hc 4 (by omega)
        have c5 : wr.cell? ⟨gr, 5, none⟩ = some (.bool false) := hc 5 (by omega)
        have c6 : wr.cell? ⟨gr, 6, none⟩ = some (.bool false) := hc 6 (by omega)
        have c7 : wr.cell? ⟨gr, 7, none⟩ = some (.bool false) := hc 7 (by omega)
        have c8 : wr.cell? ⟨gr, 8, none⟩ = some (.int .u64 1) := hc 8 (by omega)
        have c9 : wr.cell? ⟨gr, 9, none⟩ = some (.int .i64 1) := hc 9 (by omega)
        have c10 : wr.cell? ⟨gr, 10, none⟩ = some (.string ⟨#[]⟩) := hc 10 (by omega)
        have c11 : wr.cell? ⟨gr, 11, none⟩ = some (.int .i64 0) := hc 11 (by omega)
        clear hc
        have S2a := Lib.hid (S1.out.newCell 111 #[.string pA, .int .i64 1, .int .i64 10, .int .i64 1, .int .i64 1, .bool false, .bool false, .bool false, .int .u64 1, .int .i64 1, .string ⟨#[]⟩, .int .i64 0])
        go_upto_region 5 with fail
        obtain ⟨w2, HW⟩ : ∃ W, Hid (wr.alloc (.cells #[.string pA, .int .i64 1, .int .i64 10, .int .i64 1, .int .i64 1, .bool false, .bool false, .bool false, .int .u64 1, .int .i64 1, .string ⟨#[]⟩, .int .i64 0] 111) = W) := ⟨_, rfl⟩
        obtain ⟨g5, HX⟩ : ∃ x, Hid (wr.heap.size = x) := ⟨_, rfl⟩
        rw [HW.out, HX.out] at S2a ⊢
        clear HW HX S1 c0 c1 c2 c3 c4 c5 c6 c7 c8 c9 c10 c11
        have S2 := S2a
        clear S2a
        have c0 : w2.cell? ⟨g5, 0, none⟩ = some (.string pA) := (S2.out.cell 0 rfl).cell 0
        have c1 : w2.cell? ⟨g5, 1, none⟩ = some (.int .i64 1) := (S2.out.cell 0 rfl).cell 1
        have c2 : w2.cell? ⟨g5, 2, none⟩ = some (.int .i64 10) := (S2.out.cell 0 rfl).cell 2
        have c3 : w2.cell? ⟨g5, 3, none⟩ = some (.int .i64 1) := (S2.out.cell 0 rfl).cell 3
        have c4 : w2.cell? ⟨g5, 4, none⟩ = some (.int .i64 1) := (S2.out.cell 0 rfl).cell 4
        have c5 : w2.cell? ⟨g5, 5, none⟩ = some (.bool false) := (S2.out.cell 0 rfl).cell 5
        have c6 : w2.cell? ⟨g5, 6, none⟩ = some (.bool false) := (S2.out.cell 0 rfl).cell 6
        have c7 : w2.cell? ⟨g5, 7, none⟩ = some (.bool false) := (S2.out.cell 0 rfl).cell 7
        have c8 : w2.cell? ⟨g5, 8, none⟩ = some (.int .u64 1) := (S2.out.cell 0 rfl).cell 8
        have c9 : w2.cell? ⟨g5, 9, none⟩ = some (.int .i64 1) := (S2.out.cell 0 rfl).cell 9
        have c10 : w2.cell? ⟨g5, 10, none⟩ = some (.string ⟨#[]⟩) := (S2.out.cell 0 rfl).cell 10
        have c11 : w2.cell? ⟨g5, 11, none⟩ = some (.int .i64 0) := (S2.out.cell 0 rfl).cell 11
        obtain ⟨i0, hi, hz0, hz1, hz2⟩ := info_parts info168
        go_wp2_with (first | (go_at_call 140; (with_reducible refine (name_any (i := 1) (ci := 10) (ai := 1) _).mono ?_); refine halt_ ?_) | (at_builtin; fail))
        rintro e w3 ⟨rfl, hb3⟩
        have S3 := Lib.hid (S2.out.on hb3)
        clear hb3 S2 c0 c1 c2 c3 c4 c5 c6 c7 c8 c9 c10 c11
        have S4 := Lib.hid (S3.out.newCell 168 #[.string pA, .int .i64 1])
        go_wp2_with (at_builtin; (refine wpList_rowS (t := 165) (e := 168) (size := 2) (bytes := 24) (i := i0) S4.out 2 rfl (by rfl) (.tmp 16) (.tmp 19) (by rfl) Tryz.underlying165 hi hz0 hz1 hz2 rfl (by omega) (by rfl) ⟨w3.heap.size, 0, none⟩ 1 [.string pA, .int .i64 1] (by rfl) rfl (fun j u hu => by rw [lit_add, Nat.zero_add, (S4.out.cell 0 rfl).cell, ← Array.getElem?_toList]; exact hu) (fun u hu => by simp only [List.mem_cons, List.not_mem_nil, or_false] at hu; rcases hu with rfl | rfl <;> rfl) (by unfold maxLen; omega) (by omega) ?_); refine halt_ ?_)
        intro v2 w6 s6
        obtain ⟨A2, c2, rfl⟩ := own_slice (s6.get 2 rfl : w6.ownsRow 0 168 2 v2 _ _)
        have S6 : Hid (SW b w0 (rowOb 168 2 (.slice A2 1 c2) 1 [.string pA, .int .i64 1] :: l) w6) := s6.tail.tail
        clear s6 S4 S3
        go_wp2_with fail
        go_roundw
        case rel => exact ⟨1, by go_num, by omega, A2, c2, rfl, S6.out⟩
        case measure => simp [intOf]; omega
      · obtain ⟨gr, hA, hgr, hc⟩ := rv_at (hs.1.holds (rvOb A m) (List.mem_cons_of_mem _ HV.out)) hlt
        subst hA
        have S1 : Hid (SW b w0 (rowOb 168 2 (.slice AX 1 cX) 1 [.string pA, .int .i64 1] :: l) wr) := by rw [if_neg h0k, oneL, if_neg h0k] at hs; exact hs
        clear hs
        obtain ⟨i, HI⟩ : ∃ i, Hid ((k : Int) + 1 = i) := ⟨_, rfl⟩
        obtain ⟨ci, HC⟩ : ∃ ci, Hid (10 * i = ci) := ⟨_, rfl⟩
        have HA : Hid (actI i = 2) := by rw [Hid, actI, if_neg (by have := HI.out; omega)]
        have hcc : ∀ c, c < 12 → wr.cell? ⟨gr, k * 12 + c, none⟩ = [Value.string pA, .int .i64 i, .int .i64 ci, .int .i64 2, .int .i64 1, .bool false, .bool false, .bool false, .int .u64 i, .int .i64 1, .string ⟨#[]⟩, .int .i64 0][c]? := fun c h => by
          rw [hc c h, HI.out, ← HC.out, ← HA.out]
          rfl
        have c0 : wr.cell? ⟨gr, k * 12, none⟩ = some (.string pA) := hcc 0 (by omega)
        have c1 : wr.cell? ⟨gr, k * 12 + 1, none⟩ = some (.int .i64 i) := hcc 1 (by omega)
        have c2 : wr.cell? ⟨gr, k * 12 + 2, none⟩ = some (.int .i64 ci) := hcc 2 (by omega)
        have c3 : wr.cell? ⟨gr, k * 12 + 3, none⟩ = some (.int .i64 2) := hcc 3 (by omega)
        have c4 : wr.cell? ⟨gr, k * 12 + 4, none⟩ = some (.int .i64 1) := hcc 4 (by omega)
        have c5 : wr.cell? ⟨gr, k * 12 + 5, none⟩ = some (.bool false) := hcc 5 (by omega)
        have c6 : wr.cell? ⟨gr, k * 12 + 6, none⟩ = some (.bool false) := hcc 6 (by omega)
        have c7 : wr.cell? ⟨gr, k * 12 + 7, none⟩ = some (.bool false) := hcc 7 (by omega)
        have c8 : wr.cell? ⟨gr, k * 12 + 8, none⟩ = some (.int .u64 i) := hcc 8 (by omega)
        have c9 : wr.cell? ⟨gr, k * 12 + 9, none⟩ = some (.int .i64 1) := hcc 9 (by omega)
        have c10 : wr.cell? ⟨gr, k * 12 + 10, none⟩ = some (.string ⟨#[]⟩) := hcc 10 (by omega)
        have c11 : wr.cell? ⟨gr, k * 12 + 11, none⟩ = some (.int .i64 0) := hcc 11 (by omega)
        clear hcc
        have hif : (if k = 0 then (0 : Nat) else 1) = 1 := if_neg h0k
        clear hc
        have S2a := Lib.hid (S1.out.newCell 111 #[.string pA, .int .i64 i, .int .i64 ci, .int .i64 2, .int .i64 1, .bool false, .bool false, .bool false, .int .u64 i, .int .i64 1, .string ⟨#[]⟩, .int .i64 0])
        go_upto_region 5 with fail
        obtain ⟨w2, HW⟩ : ∃ W, Hid (wr.alloc (.cells #[.string pA, .int .i64 i, .int .i64 ci, .int .i64 2, .int .i64 1, .bool false, .bool false, .bool false, .int .u64 i, .int .i64 1, .string ⟨#[]⟩, .int .i64 0] 111) = W) := ⟨_, rfl⟩
        obtain ⟨g5, HX⟩ : ∃ x, Hid (wr.heap.size = x) := ⟨_, rfl⟩
        rw [HW.out, HX.out] at S2a ⊢
        clear HW HX S1 c0 c1 c2 c3 c4 c5 c6 c7 c8 c9 c10 c11
        have S2 := S2a
        clear S2a
        have c0 : w2.cell? ⟨g5, 0, none⟩ = some (.string pA) := (S2.out.cell 0 rfl).cell 0
        have c1 : w2.cell? ⟨g5, 1, none⟩ = some (.int .i64 i) := (S2.out.cell 0 rfl).cell 1
        have c2 : w2.cell? ⟨g5, 2, none⟩ = some (.int .i64 ci) := (S2.out.cell 0 rfl).cell 2
        have c3 : w2.cell? ⟨g5, 3, none⟩ = some (.int .i64 2) := (S2.out.cell 0 rfl).cell 3
        have c4 : w2.cell? ⟨g5, 4, none⟩ = some (.int .i64 1) := (S2.out.cell 0 rfl).cell 4
        have c5 : w2.cell? ⟨g5, 5, none⟩ = some (.bool false) := (S2.out.cell 0 rfl).cell 5
        have c6 : w2.cell? ⟨g5, 6, none⟩ = some (.bool false) := (S2.out.cell 0 rfl).cell 6
        have c7 : w2.cell? ⟨g5, 7, none⟩ = some (.bool false) := (S2.out.cell 0 rfl).cell 7
        have c8 : w2.cell? ⟨g5, 8, none⟩ = some (.int .u64 i) := (S2.out.cell 0 rfl).cell 8
        have c9 : w2.cell? ⟨g5, 9, none⟩ = some (.int .i64 1) := (S2.out.cell 0 rfl).cell 9
        have c10 : w2.cell? ⟨g5, 10, none⟩ = some (.string ⟨#[]⟩) := (S2.out.cell 0 rfl).cell 10
        have c11 : w2.cell? ⟨g5, 11, none⟩ = some (.int .i64 0) := (S2.out.cell 0 rfl).cell 11
        go_wp2_with fail
        go_roundw
        case rel => exact ⟨k + 1, by go_num, by omega, AX, cX, by simp [h0k], by rw [if_neg (by omega), oneL, if_neg (by omega)]; exact S2.out.tail⟩
        case measure => simp [intOf]; omega
    · obtain rfl : k = m := by omega
      have hif : (if k = 0 then (0 : Nat) else 1) = 1 := if_neg (by omega)
      rw [if_neg (by omega), oneL, if_neg (by omega)] at hs
      have S1 := Lib.hid hs
      clear hs
      go_wp2_with fail
      go_ret
      exact ⟨AX, cX, by simp [hif], S1.out⟩
end
end Go.Proofs.YtmiknfneeipkeaaGreat
