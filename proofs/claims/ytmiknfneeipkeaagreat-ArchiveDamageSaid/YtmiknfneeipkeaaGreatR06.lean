/- Contracts of the walk, part 6. -/
import Derived.Deep.RegionWith
import Derived.Test.YtmiknfneeipkeaaGreatR05
namespace Go.Proofs.YtmiknfneeipkeaaGreat
open Go.RowKit Go.MapKept Go.ChangeMaps
attribute [local go_sem] wext_cell
theorem ftype_any (w : World) : Calls Tryz.prog 210 #[.agg #[.int .i64 1, .bool false, .bool false, .bool false]] w (fun e w' => e = .returned (.int .i64 0) ∧ Below w.heap.size w w') := by
  go_enter Tryz.func210, Tryz.ntmps210
  go_wp2_with fail
  go_ret
  exact ⟨rfl, (Below.refl _ _).alloc (Nat.le_refl _) _⟩
abbrev vRw (k : Int) : Value := vRa (actI k) k
abbrev zR : Value := .agg #[.string ⟨#[]⟩, .int .i64 0, .int .i64 0, .int .i64 0, .int .i64 0, .bool false, .bool false, .bool false, .int .u64 0, .int .i64 0, .string ⟨#[]⟩, .int .i64 0]
section
variable {b : Nat} {w0 w : World} {l : List Ob} {R E : Value} {n : Int} {kb ml me mi : Nat} {L : List (ByteArray × Int)}
theorem look_R {w : World} {m : Nat} (h : MapIs okS kS vRw w m L) (c : Bool) (W : World) (hW : Below w.heap.size w W) : (Instr.lookup 205 (.map (some m)) (.string pA) c).run Tryz.prog W = .ok (if c then .tuple #[((asc L pA).map vRw).getD zR, .bool (asc L pA).isSome] else ((asc L pA).map vRw).getD zR) W := by
  have := MapIs.look mkS Tryz.underlying205 (zero111 W) (h.on hW) okS_pA c
  rw [show (Value.string pA) = kS pA from rfl, this]
  cases asc L pA <;> cases c <;> rfl
abbrev zC : Array Value := #[.string ⟨#[]⟩, .int .i64 0, .int .i64 0, .int .i64 0, .int .i64 0, .bool false, .bool false, .bool false, .int .u64 0, .int .i64 0, .string ⟨#[]⟩, .int .i64 0]
abbrev rC (k c a : Int) : Array Value := #[.string pA, .int .i64 k, .int .i64 c, .int .i64 a, .int .i64 1, .bool false, .bool false, .bool false, .int .u64 k, .int .i64 1, .string ⟨#[]⟩, .int .i64 0]
abbrev vRg (k c a : Int) : Value := .agg #[.string pA, .int .i64 k, .int .i64 c, .int .i64 a, .int .i64 1, .bool false, .bool false, .bool false, .int .u64 k, .int .i64 1, .string ⟨#[]⟩, .int .i64 0]
set_option maxRecDepth 100000 in
set_option maxHeartbeats 8000000 in
theorem live_none (h : SW b w0 l w) (hk : cellOb kb 209 (ckC R n E ml me mi) ∈ l) (hm : mpOb okS kS vRw ml L ∈ l) (ha : asc L pA = none) : Calls Tryz.prog 209 #[vPtr kb, .string pA] w (fun e w' => e = .returned (.tuple #[zR, .bool false]) ∧ Below w.heap.size w w') := by
  have hkb : IsB w kb 209 (ckC R n E ml me mi) := h.1.holds (cellOb kb 209 (ckC R n E ml me mi)) hk
  have k7 : w.cell? ⟨kb, 7, none⟩ = some (.map (some ml)) := hkb.cell 7
  have hlt := hkb.lt
  have HL := Lib.hid (fun (W : World) (hW : Below w.heap.size w W) => look_R (h.1.holds (mpOb okS kS vRw ml L) hm) true W hW)
  rw [ha] at HL
  have S0 := Lib.hid ((SW.refl (Sep.nil w (Nat.le_refl _))).newCell 111 zC)
  clear h hk hm hkb ha
  go_enter Tryz.func209, Tryz.ntmps209
  go_upto_region 1 with fail
  obtain ⟨W1, HW⟩ : ∃ W1, Hid (w.alloc (.cells zC 111) = W1) := ⟨_, rfl⟩
  have hb : Below w.heap.size w W1 := by rw [← HW.out]; exact (Below.refl _ _).alloc (Nat.le_refl _) _
  have k7 : W1.cell? ⟨kb, 7, none⟩ = some (.map (some ml)) := by rw [← HW.out]; simp [go_sem, hlt, k7]
  have hl0 : (Instr.lookup 205 (.map (some ml)) (.string pA) true).run Tryz.prog W1 = .ok (.tuple #[zR, .bool false]) W1 := HL.out W1 hb
  rw [HW.out] at S0 ⊢
  have S1 := Lib.hid (S0.out.newCell 111 zC)
  clear HL HW hb S0
  go_upto_region 2 with fail
  obtain ⟨W2, HW⟩ : ∃ W2, Hid (W1.alloc (.cells zC 111) = W2) := ⟨_, rfl⟩
  obtain ⟨g6, HG⟩ : ∃ g6, Hid (W1.heap.size = g6) := ⟨_, rfl⟩
  rw [HW.out, HG.out] at S1 ⊢
  clear HW HG k7 hl0
  refine wp_region_held_tail [(0, true), (1, true), (2, true), (3, true), (4, true), (5, true), (6, true), (7, false)] (SW w.heap.size w [cellOb g6 111 zC]) (by kernel_rfl) (fun _ _ d _ _ h => by cases d <;> exact h) (by kernel_rfl) (S1.out.drew.sub (List.Sublist.cons_cons _ (List.nil_sublist _))) ?_
  simp only [picked, List.map_cons, List.map_nil, List.getD_cons_succ, List.getD_cons_zero]
  (refine wpHeld_take (v := ?_) (Or.inl ⟨by rfl, ?_⟩) ?_
   rotate_left
   · (intro w' hSw; have z0 : w'.cell? ⟨g6, 0, none⟩ = some (.string ⟨#[]⟩) := (hSw.cell 0 rfl).cell 0; have z1 : w'.cell? ⟨g6, 1, none⟩ = some (.int .i64 0) := (hSw.cell 0 rfl).cell 1; have z2 : w'.cell? ⟨g6, 2, none⟩ = some (.int .i64 0) := (hSw.cell 0 rfl).cell 2; have z3 : w'.cell? ⟨g6, 3, none⟩ = some (.int .i64 0) := (hSw.cell 0 rfl).cell 3; have z4 : w'.cell? ⟨g6, 4, none⟩ = some (.int .i64 0) := (hSw.cell 0 rfl).cell 4; have z5 : w'.cell? ⟨g6, 5, none⟩ = some (.bool false) := (hSw.cell 0 rfl).cell 5; have z6 : w'.cell? ⟨g6, 6, none⟩ = some (.bool false) := (hSw.cell 0 rfl).cell 6; have z7 : w'.cell? ⟨g6, 7, none⟩ = some (.bool false) := (hSw.cell 0 rfl).cell 7; have z8 : w'.cell? ⟨g6, 8, none⟩ = some (.int .u64 0) := (hSw.cell 0 rfl).cell 8; have z9 : w'.cell? ⟨g6, 9, none⟩ = some (.int .i64 0) := (hSw.cell 0 rfl).cell 9; have z10 : w'.cell? ⟨g6, 10, none⟩ = some (.string ⟨#[]⟩) := (hSw.cell 0 rfl).cell 10; have z11 : w'.cell? ⟨g6, 11, none⟩ = some (.int .i64 0) := (hSw.cell 0 rfl).cell 11; go_simp; try with_reducible rfl)
   try simp only [Act.put, List.setIfInBounds_toArray, List.set])
  (refine wpHeld_take (v := ?_) (Or.inl ⟨by rfl, ?_⟩) ?_
   rotate_left
   · (intro w' hSw; have z0 : w'.cell? ⟨g6, 0, none⟩ = some (.string ⟨#[]⟩) := (hSw.cell 0 rfl).cell 0; have z1 : w'.cell? ⟨g6, 1, none⟩ = some (.int .i64 0) := (hSw.cell 0 rfl).cell 1; have z2 : w'.cell? ⟨g6, 2, none⟩ = some (.int .i64 0) := (hSw.cell 0 rfl).cell 2; have z3 : w'.cell? ⟨g6, 3, none⟩ = some (.int .i64 0) := (hSw.cell 0 rfl).cell 3; have z4 : w'.cell? ⟨g6, 4, none⟩ = some (.int .i64 0) := (hSw.cell 0 rfl).cell 4; have z5 : w'.cell? ⟨g6, 5, none⟩ = some (.bool false) := (hSw.cell 0 rfl).cell 5; have z6 : w'.cell? ⟨g6, 6, none⟩ = some (.bool false) := (hSw.cell 0 rfl).cell 6; have z7 : w'.cell? ⟨g6, 7, none⟩ = some (.bool false) := (hSw.cell 0 rfl).cell 7; have z8 : w'.cell? ⟨g6, 8, none⟩ = some (.int .u64 0) := (hSw.cell 0 rfl).cell 8; have z9 : w'.cell? ⟨g6, 9, none⟩ = some (.int .i64 0) := (hSw.cell 0 rfl).cell 9; have z10 : w'.cell? ⟨g6, 10, none⟩ = some (.string ⟨#[]⟩) := (hSw.cell 0 rfl).cell 10; have z11 : w'.cell? ⟨g6, 11, none⟩ = some (.int .i64 0) := (hSw.cell 0 rfl).cell 11; go_simp; try with_reducible rfl)
   try simp only [Act.put, List.setIfInBounds_toArray, List.set])
  (refine wpHeld_take (v := ?_) (Or.inl ⟨by rfl, ?_⟩) ?_
   rotate_left
   · (intro w' hSw; have z0 : w'.cell? ⟨g6, 0, none⟩ = some (.string ⟨#[]⟩) := (hSw.cell 0 rfl).cell 0; have z1 : w'.cell? ⟨g6, 1, none⟩ = some (.int .i64 0) := (hSw.cell 0 rfl).cell 1; have z2 : w'.cell? ⟨g6, 2, none⟩ = some (.int .i64 0) := (hSw.cell 0 rfl).cell 2; have z3 : w'.cell? ⟨g6, 3, none⟩ = some (.int .i64 0) := (hSw.cell 0 rfl).cell 3; have z4 : w'.cell? ⟨g6, 4, none⟩ = some (.int .i64 0) := (hSw.cell 0 rfl).cell 4; have z5 : w'.cell? ⟨g6, 5, none⟩ = some (.bool false) := (hSw.cell 0 rfl).cell 5; have z6 : w'.cell? ⟨g6, 6, none⟩ = some (.bool false) := (hSw.cell 0 rfl).cell 6; have z7 : w'.cell? ⟨g6, 7, none⟩ = some (.bool false) := (hSw.cell 0 rfl).cell 7; have z8 : w'.cell? ⟨g6, 8, none⟩ = some (.int .u64 0) := (hSw.cell 0 rfl).cell 8; have z9 : w'.cell? ⟨g6, 9, none⟩ = some (.int .i64 0) := (hSw.cell 0 rfl).cell 9; have z10 : w'.cell? ⟨g6, 10, none⟩ = some (.string ⟨#[]⟩) := (hSw.cell 0 rfl).cell 10; have z11 : w'.cell? ⟨g6, 11, none⟩ = some (.int .i64 0) := (hSw.cell 0 rfl).cell 11; go_simp; try with_reducible rfl)
   try simp only [Act.put, List.setIfInBounds_toArray, List.set])
  (refine wpHeld_take (v := undef) (Or.inr ⟨by rfl, rfl⟩) ?_
   try simp only [Act.put, List.setIfInBounds_toArray, List.set])
  (refine wpHeld_take (v := undef) (Or.inr ⟨by rfl, rfl⟩) ?_
   try simp only [Act.put, List.setIfInBounds_toArray, List.set])
  (refine wpHeld_take (v := undef) (Or.inr ⟨by rfl, rfl⟩) ?_
   try simp only [Act.put, List.setIfInBounds_toArray, List.set])
  (refine wpHeld_take (v := ?_) (Or.inl ⟨by rfl, ?_⟩) ?_
   rotate_left
   · (intro w' hSw; have z0 : w'.cell? ⟨g6, 0, none⟩ = some (.string ⟨#[]⟩) := (hSw.cell 0 rfl).cell 0; have z1 : w'.cell? ⟨g6, 1, none⟩ = some (.int .i64 0) := (hSw.cell 0 rfl).cell 1; have z2 : w'.cell? ⟨g6, 2, none⟩ = some (.int .i64 0) := (hSw.cell 0 rfl).cell 2; have z3 : w'.cell? ⟨g6, 3, none⟩ = some (.int .i64 0) := (hSw.cell 0 rfl).cell 3; have z4 : w'.cell? ⟨g6, 4, none⟩ = some (.int .i64 0) := (hSw.cell 0 rfl).cell 4; have z5 : w'.cell? ⟨g6, 5, none⟩ = some (.bool false) := (hSw.cell 0 rfl).cell 5; have z6 : w'.cell? ⟨g6, 6, none⟩ = some (.bool false) := (hSw.cell 0 rfl).cell 6; have z7 : w'.cell? ⟨g6, 7, none⟩ = some (.bool false) := (hSw.cell 0 rfl).cell 7; have z8 : w'.cell? ⟨g6, 8, none⟩ = some (.int .u64 0) := (hSw.cell 0 rfl).cell 8; have z9 : w'.cell? ⟨g6, 9, none⟩ = some (.int .i64 0) := (hSw.cell 0 rfl).cell 9; have z10 : w'.cell? ⟨g6, 10, none⟩ = some (.string ⟨#[]⟩) := (hSw.cell 0 rfl).cell 10; have z11 : w'.cell? ⟨g6, 11, none⟩ = some (.int .i64 0) := (hSw.cell 0 rfl).cell 11; go_simp; try with_reducible rfl)
   try simp only [Act.put, List.setIfInBounds_toArray, List.set])
  refine wpHeld_run (fun K hK => ?_)
  have S3 := Lib.hid S1.out
  have d0 : _ = some (Value.string ⟨#[]⟩) := (S3.out.cell 1 rfl).cell 0
  have f0 := (S3.out.cell 1 rfl).frozen 0
  have d1 : _ = some (Value.int .i64 0) := (S3.out.cell 1 rfl).cell 1
  have f1 := (S3.out.cell 1 rfl).frozen 1
  have d2 : _ = some (Value.int .i64 0) := (S3.out.cell 1 rfl).cell 2
  have f2 := (S3.out.cell 1 rfl).frozen 2
  have d3 : _ = some (Value.int .i64 0) := (S3.out.cell 1 rfl).cell 3
  have f3 := (S3.out.cell 1 rfl).frozen 3
  have d4 : _ = some (Value.int .i64 0) := (S3.out.cell 1 rfl).cell 4
  have f4 := (S3.out.cell 1 rfl).frozen 4
  have d5 : _ = some (Value.bool false) := (S3.out.cell 1 rfl).cell 5
  have f5 := (S3.out.cell 1 rfl).frozen 5
  have d6 : _ = some (Value.bool false) := (S3.out.cell 1 rfl).cell 6
  have f6 := (S3.out.cell 1 rfl).frozen 6
  have d7 : _ = some (Value.bool false) := (S3.out.cell 1 rfl).cell 7
  have f7 := (S3.out.cell 1 rfl).frozen 7
  have d8 : _ = some (Value.int .u64 0) := (S3.out.cell 1 rfl).cell 8
  have f8 := (S3.out.cell 1 rfl).frozen 8
  have d9 : _ = some (Value.int .i64 0) := (S3.out.cell 1 rfl).cell 9
  have f9 := (S3.out.cell 1 rfl).frozen 9
  have d10 : _ = some (Value.string ⟨#[]⟩) := (S3.out.cell 1 rfl).cell 10
  have f10 := (S3.out.cell 1 rfl).frozen 10
  have d11 : _ = some (Value.int .i64 0) := (S3.out.cell 1 rfl).cell 11
  have f11 := (S3.out.cell 1 rfl).frozen 11
  have S2 : Hid (SW w.heap.size w [cellOb g6 111 zC, cellOb w.heap.size 111 #[.string ⟨#[]⟩, .int .i64 0, .int .i64 0, .int .i64 0, .int .i64 0, .bool false, .bool false, .bool false, .int .u64 0, .int .i64 0, .string ⟨#[]⟩, .int .i64 0]] _) := (S3.out.setAll12 1 rfl (.string ⟨#[]⟩) (.int .i64 0) (.int .i64 0) (.int .i64 0) (.int .i64 0) (.bool false) (.bool false) (.bool false) (.int .u64 0) (.int .i64 0) (.string ⟨#[]⟩) (.int .i64 0)).drew
  go_simp
  refine hK.out _ _ (S2.out.sub (List.Sublist.cons_cons _ (List.nil_sublist _))) ?_
  try simp only [Act.put, List.setIfInBounds_toArray, List.set]
  refine wpHeld_nil ?_
  simp only [List.length_cons, List.length_nil, List.drop_succ_cons, List.drop_zero]
  clear d0 f0 d1 f1 d2 f2 d3 f3 d4 f4 d5 f5 d6 f6 d7 f7 d8 f8 d9 f9 d10 f10 d11 f11
  have e0 : _ = some (Value.string ⟨#[]⟩) := (S2.out.cell 1 rfl).cell 0
  have e1 : _ = some (Value.int .i64 0) := (S2.out.cell 1 rfl).cell 1
  have e2 : _ = some (Value.int .i64 0) := (S2.out.cell 1 rfl).cell 2
  have e3 : _ = some (Value.int .i64 0) := (S2.out.cell 1 rfl).cell 3
  have e4 : _ = some (Value.int .i64 0) := (S2.out.cell 1 rfl).cell 4
  have e5 : _ = some (Value.bool false) := (S2.out.cell 1 rfl).cell 5
  have e6 : _ = some (Value.bool false) := (S2.out.cell 1 rfl).cell 6
  have e7 : _ = some (Value.bool false) := (S2.out.cell 1 rfl).cell 7
  have e8 : _ = some (Value.int .u64 0) := (S2.out.cell 1 rfl).cell 8
  have e9 : _ = some (Value.int .i64 0) := (S2.out.cell 1 rfl).cell 9
  have e10 : _ = some (Value.string ⟨#[]⟩) := (S2.out.cell 1 rfl).cell 10
  have e11 : _ = some (Value.int .i64 0) := (S2.out.cell 1 rfl).cell 11
  clear S3 S1
  go_wp2_with fail
  have hb := S2.out.2
  revert e0 e1 e2 e3 e4 e5 e6 e7 e8 e9 e10 e11 hb
  clear S2
  generalize World.drew _ = W9
  intro e0 e1 e2 e3 e4 e5 e6 e7 e8 e9 e10 e11 hb
  refine bodyPost_ret (v := .tuple #[zR, .bool false]) ?_ rfl ⟨rfl, hb⟩
  simp only [results, Tryz.results209]
  go_simp -- e0, e1, e2, e3, e4, e5, e6, e7, e8, e9, e10, e11
set_option maxRecDepth 100000 in
set_option maxHeartbeats 8000000 in
theorem live_gen (h : SW b w0 l w) (hk : cellOb kb 209 (ckC R n E ml me mi) ∈ l) {k c a : Int} (hl : ∀ W, Below w.heap.size w W → (Instr.lookup 205 (.map (some ml)) (.string pA) true).run Tryz.prog W = .ok (.tuple #[vRg k c a, .bool true]) W) (h3 : a ≠ 3) (h5 : a ≠ 5) : Calls Tryz.prog 209 #[vPtr kb, .string pA] w (fun e w' => e = .returned (.tuple #[vRg k c a, .bool true]) ∧ Below w.heap.size w w') := by
  have hkb : IsB w kb 209 (ckC R n E ml me mi) := h.1.holds (cellOb kb 209 (ckC R n E ml me mi)) hk
  have k7 : w.cell? ⟨kb, 7, none⟩ = some (.map (some ml)) := hkb.cell 7
  have hlt := hkb.lt
  have HL := Lib.hid hl
  have S0 := Lib.hid ((SW.refl (Sep.nil w (Nat.le_refl _))).newCell 111 zC)
  clear h hk hkb hl
  go_enter Tryz.func209, Tryz.ntmps209
  go_upto_region 1 with fail
  obtain ⟨W1, HW⟩ : ∃ W1, Hid (w.alloc (.cells zC 111) = W1) := ⟨_, rfl⟩
  have hb : Below w.heap.size w W1 := by rw [← HW.out]; exact (Below.refl _ _).alloc (Nat.le_refl _) _
  have k7 : W1.cell? ⟨kb, 7, none⟩ = some (.map (some ml)) := by rw [← HW.out]; simp [go_sem, hlt, k7]
  have hl0 : (Instr.lookup 205 (.map (some ml)) (.string pA) true).run Tryz.prog W1 = .ok (.tuple #[vRg k c a, .bool true]) W1 := HL.out W1 hb
  rw [HW.out] at S0 ⊢
  have S1 := Lib.hid (S0.out.newCell 111 (rC k c a))
  clear HL HW hb S0
  go_upto_region 2 with fail
  obtain ⟨W2, HW⟩ : ∃ W2, Hid (W1.alloc (.cells (rC k c a) 111) = W2) := ⟨_, rfl⟩
  obtain ⟨g6, HG⟩ : ∃ g6, Hid (W1.heap.size = g6) := ⟨_, rfl⟩
  rw [HW.out, HG.out] at S1 ⊢
  clear HW HG k7 hl0
  refine wp_region_held_tail [(0, true), (1, true), (2, true), (3, true), (4, true), (5, false), (6, true), (7, false)] (SW w.heap.size w [cellOb g6 111 (rC k c a)]) (by kernel_rfl) (fun _ _ d _ _ h => by cases d <;> exact h) (by kernel_rfl) (S1.out.drew.sub (List.Sublist.cons_cons _ (List.nil_sublist _))) ?_
  simp only [picked, List.map_cons, List.map_nil, List.getD_cons_succ, List.getD_cons_zero]
  (refine wpHeld_take (v := ?_) (Or.inl ⟨by rfl, ?_⟩) ?_
   rotate_left
   · (intro w' hSw; have z0 : w'.cell? ⟨g6, 0, none⟩ = some (.string pA) := (hSw.cell 0 rfl).cell 0; have z1 : w'.cell? ⟨g6, 1, none⟩ = some (.int .i64 k) := (hSw.cell 0 rfl).cell 1; have z2 : w'.cell? ⟨g6, 2, none⟩ = some (.int .i64 c) := (hSw.cell 0 rfl).cell 2; have z3 : w'.cell? ⟨g6, 3, none⟩ = some (.int .i64 a) := (hSw.cell 0 rfl).cell 3; have z4 : w'.cell? ⟨g6, 4, none⟩ = some (.int .i64 1) := (hSw.cell 0 rfl).cell 4; have z5 : w'.cell? ⟨g6, 5, none⟩ = some (.bool false) := (hSw.cell 0 rfl).cell 5; have z6 : w'.cell? ⟨g6, 6, none⟩ = some (.bool false) := (hSw.cell 0 rfl).cell 6; have z7 : w'.cell? ⟨g6, 7, none⟩ = some (.bool false) := (hSw.cell 0 rfl).cell 7; have z8 : w'.cell? ⟨g6, 8, none⟩ = some (.int .u64 k) := (hSw.cell 0 rfl).cell 8; have z9 : w'.cell? ⟨g6, 9, none⟩ = some (.int .i64 1) := (hSw.cell 0 rfl).cell 9; have z10 : w'.cell? ⟨g6, 10, none⟩ = some (.string ⟨#[]⟩) := (hSw.cell 0 rfl).cell 10; have z11 : w'.cell? ⟨g6, 11, none⟩ = some (.int .i64 0) := (hSw.cell 0 rfl).cell 11; go_simp; try with_reducible rfl)
   try simp only [Act.put, List.setIfInBounds_toArray, List.set])
  (refine wpHeld_take (v := ?_) (Or.inl ⟨by rfl, ?_⟩) ?_
   rotate_left
   · (intro w' hSw; have z0 : w'.cell? ⟨g6, 0, none⟩ = some (.string pA) := (hSw.cell 0 rfl).cell 0; have z1 : w'.cell? ⟨g6, 1, none⟩ = some (.int .i64 k) := (hSw.cell 0 rfl).cell 1; have z2 : w'.cell? ⟨g6, 2, none⟩ = some (.int .i64 c) := (hSw.cell 0 rfl).cell 2; have z3 : w'.cell? ⟨g6, 3, none⟩ = some (.int .i64 a) := (hSw.cell 0 rfl).cell 3; have z4 : w'.cell? ⟨g6, 4, none⟩ = some (.int .i64 1) := (hSw.cell 0 rfl).cell 4; have z5 : w'.cell? ⟨g6, 5, none⟩ = some (.bool false) := (hSw.cell 0 rfl).cell 5; have z6 : w'.cell? ⟨g6, 6, none⟩ = some (.bool false) := (hSw.cell 0 rfl).cell 6; have z7 : w'.cell? ⟨g6, 7, none⟩ = some (.bool false) := (hSw.cell 0 rfl).cell 7; have z8 : w'.cell? ⟨g6, 8, none⟩ = some (.int .u64 k) := (hSw.cell 0 rfl).cell 8; have z9 : w'.cell? ⟨g6, 9, none⟩ = some (.int .i64 1) := (hSw.cell 0 rfl).cell 9; have z10 : w'.cell? ⟨g6, 10, none⟩ = some (.string ⟨#[]⟩) := (hSw.cell 0 rfl).cell 10; have z11 : w'.cell? ⟨g6, 11, none⟩ = some (.int .i64 0) := (hSw.cell 0 rfl).cell 11; go_simp; try with_reducible rfl)
   try simp only [Act.put, List.setIfInBounds_toArray, List.set])
  (refine wpHeld_take (v := ?_) (Or.inl ⟨by rfl, ?_⟩) ?_
   rotate_left
   · (intro w' hSw; have z0 : w'.cell? ⟨g6, 0, none⟩ = some (.string pA) := (hSw.cell 0 rfl).cell 0; have z1 : w'.cell? ⟨g6, 1, none⟩ = some (.int .i64 k) := (hSw.cell 0 rfl).cell 1; have z2 : w'.cell? ⟨g6, 2, none⟩ = some (.int .i64 c) := (hSw.cell 0 rfl).cell 2; have z3 : w'.cell? ⟨g6, 3, none⟩ = some (.int .i64 a) := (hSw.cell 0 rfl).cell 3; have z4 : w'.cell? ⟨g6, 4, none⟩ = some (.int .i64 1) := (hSw.cell 0 rfl).cell 4; have z5 : w'.cell? ⟨g6, 5, none⟩ = some (.bool false) := (hSw.cell 0 rfl).cell 5; have z6 : w'.cell? ⟨g6, 6, none⟩ = some (.bool false) := (hSw.cell 0 rfl).cell 6; have z7 : w'.cell? ⟨g6, 7, none⟩ = some (.bool false) := (hSw.cell 0 rfl).cell 7; have z8 : w'.cell? ⟨g6, 8, none⟩ = some (.int .u64 k) := (hSw.cell 0 rfl).cell 8; have z9 : w'.cell? ⟨g6, 9, none⟩ = some (.int .i64 1) := (hSw.cell 0 rfl).cell 9; have z10 : w'.cell? ⟨g6, 10, none⟩ = some (.string ⟨#[]⟩) := (hSw.cell 0 rfl).cell 10; have z11 : w'.cell? ⟨g6, 11, none⟩ = some (.int .i64 0) := (hSw.cell 0 rfl).cell 11; go_simp; try with_reducible rfl)
   try simp only [Act.put, List.setIfInBounds_toArray, List.set])
  (refine wpHeld_take (v := ?_) (Or.inl ⟨by rfl, ?_⟩) ?_
   rotate_left
   · (intro w' hSw; have z0 : w'.cell? ⟨g6, 0, none⟩ = some (.string pA) := (hSw.cell 0 rfl).cell 0; have z1 : w'.cell? ⟨g6, 1, none⟩ = some (.int .i64 k) := (hSw.cell 0 rfl).cell 1; have z2 : w'.cell? ⟨g6, 2, none⟩ = some (.int .i64 c) := (hSw.cell 0 rfl).cell 2; have z3 : w'.cell? ⟨g6, 3, none⟩ = some (.int .i64 a) := (hSw.cell 0 rfl).cell 3; have z4 : w'.cell? ⟨g6, 4, none⟩ = some (.int .i64 1) := (hSw.cell 0 rfl).cell 4; have z5 : w'.cell? ⟨g6, 5, none⟩ = some (.bool false) := (hSw.cell 0 rfl).cell 5; have z6 : w'.cell? ⟨g6, 6, none⟩ = some (.bool false) := (hSw.cell 0 rfl).cell 6; have z7 : w'.cell? ⟨g6, 7, none⟩ = some (.bool false) := (hSw.cell 0 rfl).cell 7; have z8 : w'.cell? ⟨g6, 8, none⟩ = some (.int .u64 k) := (hSw.cell 0 rfl).cell 8; have z9 : w'.cell? ⟨g6, 9, none⟩ = some (.int .i64 1) := (hSw.cell 0 rfl).cell 9; have z10 : w'.cell? ⟨g6, 10, none⟩ = some (.string ⟨#[]⟩) := (hSw.cell 0 rfl).cell 10; have z11 : w'.cell? ⟨g6, 11, none⟩ = some (.int .i64 0) := (hSw.cell 0 rfl).cell 11; go_simp; try with_reducible rfl)
   try simp only [Act.put, List.setIfInBounds_toArray, List.set])
  (refine wpHeld_take (v := ?_) (Or.inl ⟨by rfl, ?_⟩) ?_
   rotate_left
   · (intro w' hSw; have z0 : w'.cell? ⟨g6, 0, none⟩ = some (.string pA) := (hSw.cell 0 rfl).cell 0; have z1 : w'.cell? ⟨g6, 1, none⟩ = some (.int .i64 k) := (hSw.cell 0 rfl).cell 1; have z2 : w'.cell? ⟨g6, 2, none⟩ = some (.int .i64 c) := (hSw.cell 0 rfl).cell 2; have z3 : w'.cell? ⟨g6, 3, none⟩ = some (.int .i64 a) := (hSw.cell 0 rfl).cell 3; have z4 : w'.cell? ⟨g6, 4, none⟩ = some (.int .i64 1) := (hSw.cell 0 rfl).cell 4; have z5 : w'.cell? ⟨g6, 5, none⟩ = some (.bool false) := (hSw.cell 0 rfl).cell 5; have z6 : w'.cell? ⟨g6, 6, none⟩ = some (.bool false) := (hSw.cell 0 rfl).cell 6; have z7 : w'.cell? ⟨g6, 7, none⟩ = some (.bool false) := (hSw.cell 0 rfl).cell 7; have z8 : w'.cell? ⟨g6, 8, none⟩ = some (.int .u64 k) := (hSw.cell 0 rfl).cell 8; have z9 : w'.cell? ⟨g6, 9, none⟩ = some (.int .i64 1) := (hSw.cell 0 rfl).cell 9; have z10 : w'.cell? ⟨g6, 10, none⟩ = some (.string ⟨#[]⟩) := (hSw.cell 0 rfl).cell 10; have z11 : w'.cell? ⟨g6, 11, none⟩ = some (.int .i64 0) := (hSw.cell 0 rfl).cell 11; go_simp; try with_reducible rfl)
   try simp only [Act.put, List.setIfInBounds_toArray, List.set])
  refine wpHeld_run (fun K hK => ?_)
  go_simp
  go_at_call 211
  refine (isLive_any a h3 h5 _).mono ?_
  rintro e w5 ⟨rfl, rfl⟩
  go_wp2_with fail
  refine hK.out _ _ (S1.out.drew.sub (List.Sublist.cons_cons _ (List.nil_sublist _))) ?_
  clear hK K
  try simp only [Act.put, List.setIfInBounds_toArray, List.set]
  (refine wpHeld_take (v := ?_) (Or.inl ⟨by rfl, ?_⟩) ?_
   rotate_left
   · (intro w' hSw; have z0 : w'.cell? ⟨g6, 0, none⟩ = some (.string pA) := (hSw.cell 0 rfl).cell 0; have z1 : w'.cell? ⟨g6, 1, none⟩ = some (.int .i64 k) := (hSw.cell 0 rfl).cell 1; have z2 : w'.cell? ⟨g6, 2, none⟩ = some (.int .i64 c) := (hSw.cell 0 rfl).cell 2; have z3 : w'.cell? ⟨g6, 3, none⟩ = some (.int .i64 a) := (hSw.cell 0 rfl).cell 3; have z4 : w'.cell? ⟨g6, 4, none⟩ = some (.int .i64 1) := (hSw.cell 0 rfl).cell 4; have z5 : w'.cell? ⟨g6, 5, none⟩ = some (.bool false) := (hSw.cell 0 rfl).cell 5; have z6 : w'.cell? ⟨g6, 6, none⟩ = some (.bool false) := (hSw.cell 0 rfl).cell 6; have z7 : w'.cell? ⟨g6, 7, none⟩ = some (.bool false) := (hSw.cell 0 rfl).cell 7; have z8 : w'.cell? ⟨g6, 8, none⟩ = some (.int .u64 k) := (hSw.cell 0 rfl).cell 8; have z9 : w'.cell? ⟨g6, 9, none⟩ = some (.int .i64 1) := (hSw.cell 0 rfl).cell 9; have z10 : w'.cell? ⟨g6, 10, none⟩ = some (.string ⟨#[]⟩) := (hSw.cell 0 rfl).cell 10; have z11 : w'.cell? ⟨g6, 11, none⟩ = some (.int .i64 0) := (hSw.cell 0 rfl).cell 11; go_simp; try with_reducible rfl)
   try simp only [Act.put, List.setIfInBounds_toArray, List.set])
  refine wpHeld_run (fun K hK => ?_)
  have S3 := Lib.hid S1.out
  have d0 : _ = some (Value.string ⟨#[]⟩) := (S3.out.cell 1 rfl).cell 0
  have f0 := (S3.out.cell 1 rfl).frozen 0
  have d1 : _ = some (Value.int .i64 0) := (S3.out.cell 1 rfl).cell 1
  have f1 := (S3.out.cell 1 rfl).frozen 1
  have d2 : _ = some (Value.int .i64 0) := (S3.out.cell 1 rfl).cell 2
  have f2 := (S3.out.cell 1 rfl).frozen 2
  have d3 : _ = some (Value.int .i64 0) := (S3.out.cell 1 rfl).cell 3
  have f3 := (S3.out.cell 1 rfl).frozen 3
  have d4 : _ = some (Value.int .i64 0) := (S3.out.cell 1 rfl).cell 4
  have f4 := (S3.out.cell 1 rfl).frozen 4
  have d5 : _ = some (Value.bool false) := (S3.out.cell 1 rfl).cell 5
  have f5 := (S3.out.cell 1 rfl).frozen 5
  have d6 : _ = some (Value.bool false) := (S3.out.cell 1 rfl).cell 6
  have f6 := (S3.out.cell 1 rfl).frozen 6
  have d7 : _ = some (Value.bool false) := (S3.out.cell 1 rfl).cell 7
  have f7 := (S3.out.cell 1 rfl).frozen 7
  have d8 : _ = some (Value.int .u64 0) := (S3.out.cell 1 rfl).cell 8
  have f8 := (S3.out.cell 1 rfl).frozen 8
  have d9 : _ = some (Value.int .i64 0) := (S3.out.cell 1 rfl).cell 9
  have f9 := (S3.out.cell 1 rfl).frozen 9
  have d10 : _ = some (Value.string ⟨#[]⟩) := (S3.out.cell 1 rfl).cell 10
  have f10 := (S3.out.cell 1 rfl).frozen 10
  have d11 : _ = some (Value.int .i64 0) := (S3.out.cell 1 rfl).cell 11
  have f11 := (S3.out.cell 1 rfl).frozen 11
  have S2 : Hid (SW w.heap.size w [cellOb g6 111 (rC k c a), cellOb w.heap.size 111 #[.string pA, .int .i64 k, .int .i64 c, .int .i64 a, .int .i64 1, .bool false, .bool false, .bool false, .int .u64 k, .int .i64 1, .string ⟨#[]⟩, .int .i64 0]] _) := (S3.out.setAll12 1 rfl (.string pA) (.int .i64 k) (.int .i64 c) (.int .i64 a) (.int .i64 1) (.bool false) (.bool false) (.bool false) (.int .u64 k) (.int .i64 1) (.string ⟨#[]⟩) (.int .i64 0)).drew
  go_simp
  refine hK.out _ _ (S2.out.sub (List.Sublist.cons_cons _ (List.nil_sublist _))) ?_
  try simp only [Act.put, List.setIfInBounds_toArray, List.set]
  refine wpHeld_nil ?_
  simp only [List.length_cons, List.length_nil, List.drop_succ_cons, List.drop_zero]
  clear d0 f0 d1 f1 d2 f2 d3 f3 d4 f4 d5 f5 d6 f6 d7 f7 d8 f8 d9 f9 d10 f10 d11 f11
  have e0 : _ = some (Value.string pA) := (S2.out.cell 1 rfl).cell 0
  have e1 : _ = some (Value.int .i64 k) := (S2.out.cell 1 rfl).cell 1
  have e2 : _ = some (Value.int .i64 c) := (S2.out.cell 1 rfl).cell 2
  have e3 : _ = some (Value.int .i64 a) := (S2.out.cell 1 rfl).cell 3
  have e4 : _ = some (Value.int .i64 1) := (S2.out.cell 1 rfl).cell 4
  have e5 : _ = some (Value.bool false) := (S2.out.cell 1 rfl).cell 5
  have e6 : _ = some (Value.bool false) := (S2.out.cell 1 rfl).cell 6
  have e7 : _ = some (Value.bool false) := (S2.out.cell 1 rfl).cell 7
  have e8 : _ = some (Value.int .u64 k) := (S2.out.cell 1 rfl).cell 8
  have e9 : _ = some (Value.int .i64 1) := (S2.out.cell 1 rfl).cell 9
  have e10 : _ = some (Value.string ⟨#[]⟩) := (S2.out.cell 1 rfl).cell 10
  have e11 : _ = some (Value.int .i64 0) := (S2.out.cell 1 rfl).cell 11
  clear S3 S1
  go_wp2_with fail
  have hb := S2.out.2
  revert e0 e1 e2 e3 e4 e5 e6 e7 e8 e9 e10 e11 hb
  clear S2
  generalize World.drew _ = W9
  intro e0 e1 e2 e3 e4 e5 e6 e7 e8 e9 e10 e11 hb
  refine bodyPost_ret (v := .tuple #[vRg k c a, .bool true]) ?_ rfl ⟨rfl, hb⟩
  simp only [results, Tryz.results209]
  go_simp -- e0, e1, e2, e3, e4, e5, e6, e7, e8, e9, e10, e11
theorem live_some (h : SW b w0 l w) (hk : cellOb kb 209 (ckC R n E ml me mi) ∈ l) (hm : mpOb okS kS vRw ml L ∈ l) {k : Int} (ha : asc L pA = some k) (h3 : actI k ≠ 3) (h5 : actI k ≠ 5) : Calls Tryz.prog 209 #[vPtr kb, .string pA] w (fun e w' => e = .returned (.tuple #[vRw k, .bool true]) ∧ Below w.heap.size w w') :=
  live_gen h hk (k := k) (c := 10 * k) (a := actI k) (fun W hW => by
    have := look_R (h.1.holds (mpOb okS kS vRw ml L) hm) true W hW
    rw [ha] at this
    exact this) h3 h5
end
end Go.Proofs.YtmiknfneeipkeaaGreat
