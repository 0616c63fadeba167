/- Contracts of the walk, part 9. -/
import Derived.Test.YtmiknfneeipkeaaGreatR08
namespace Go.Proofs.YtmiknfneeipkeaaGreat
open Go.RowKit Go.MapKept Go.ChangeMaps
attribute [local go_sem] wext_cell
section
variable {α β : Type} {ok : α → Prop} {kv : α → Value} {vv : β → Value} {b : Nat} {w0 w : World} {l : List Ob}
theorem SW.addMpAt (h : SW b w0 l w) {H : Nat} (hH : w.heap.size = H) : SW b w0 (mpOb ok kv vv H [] :: l) (w.alloc (.map #[] 0)) := hH ▸ h.addMp
end
theorem wf_small {i : Int} (h1 : -1000 ≤ i) (h2 : i ≤ 1000) : (Lit.int .i64 i).wf = true := by
  simp only [Lit.wf, IntKind.min, IntKind.max]
  simp [IntKind.signed, IntKind.bits]
  omega
section
variable {b : Nat} {w0 w : World} {l : List Ob} {Ev : Value} {A : Option Addr} {m cm : Nat} {n : Int}
set_option maxRecDepth 100000 in
set_option maxHeartbeats 8000000 in
theorem newCheck_any (h : SW b w0 l w) (hv : rvOb A m ∈ l) (hm : m ≤ 100) : Calls Tryz.prog 95 #[.agg #[.slice A m cm, .slice none 0 0], .agg #[.int .i64 n, .string ⟨#[]⟩, .string ⟨#[]⟩, Ev, .slice none 0 0]] w (fun e w' => ∃ kb ml me mi, e = .returned (vPtr kb) ∧ SW b w0 (mpOb okS kS vE3 me [] :: mpOb okS kS vRw ml (lastL m) :: mpOb okF vF vF mi (linL m) :: cellOb kb 209 (ckC (.slice A m cm) n Ev ml me mi) :: l) w') := by
  have S0 := Lib.hid ((((((h.newCell 96 #[.slice A m cm, .slice none 0 0]).newCellAt 105 #[.int .i64 n, .string ⟨#[]⟩, .string ⟨#[]⟩, Ev, .slice none 0 0] (H := w.heap.size + 1) (by simp)).addMpAt (ok := okS) (kv := kS) (vv := vRw) (H := w.heap.size + 1 + 1) (by simp)).addMpAt (ok := okS) (kv := kS) (vv := vE3) (H := w.heap.size + 1 + 1 + 1) (by simp)).addMpAt (ok := okF) (kv := vF) (vv := vF) (H := w.heap.size + 1 + 1 + 1 + 1) (by simp)).newCellAt 209 (ckC (.slice A m cm) n Ev (w.heap.size + 1 + 1) (w.heap.size + 1 + 1 + 1) (w.heap.size + 1 + 1 + 1 + 1)) (H := w.heap.size + 1 + 1 + 1 + 1 + 1) (by simp))
  have HV := Lib.hid hv
  have hmk : ∀ (t : TypeId) (W : World), t = 205 ∨ t = 206 ∨ t = 207 → (Instr.makeMap t none).run Tryz.prog W = .ok (.map (some W.heap.size)) (W.alloc (.map #[] 0)) := fun t W ht => by
    rcases ht with rfl | rfl | rfl
    · simp [Instr.makeMap, run_underlying Tryz.underlying205]
    · simp [Instr.makeMap, run_underlying Tryz.underlying206]
    · simp [Instr.makeMap, run_underlying Tryz.underlying207]
  have hmk5 := fun W => hmk 205 W (.inl rfl)
  have hmk6 := fun W => hmk 206 W (.inr (.inl rfl))
  have hmk7 := fun W => hmk 207 W (.inr (.inr rfl))
  clear h hv hmk
  go_enter Tryz.func95, Tryz.ntmps95
  go_upto_region 2 with fail
  clear hmk5 hmk6 hmk7
  obtain ⟨w1, HW⟩ : ∃ w1, Hid (((((((w.alloc (.cells #[.slice A m cm, .slice none 0 0] 96)).alloc (.cells #[.int .i64 n, .string ⟨#[]⟩, .string ⟨#[]⟩, Ev, .slice none 0 0] 105)).alloc (.map #[] 0)).alloc (.map #[] 0)).alloc (.map #[] 0)).alloc (.cells (ckC (.slice A m cm) n Ev (w.heap.size + 1 + 1) (w.heap.size + 1 + 1 + 1) (w.heap.size + 1 + 1 + 1 + 1)) 209)) = w1) := ⟨_, rfl⟩
  rw [HW.out] at S0 ⊢
  clear HW
  obtain ⟨kb, HG⟩ : ∃ x, Hid (w.heap.size + 1 + 1 + 1 + 1 + 1 = x) := ⟨_, rfl⟩
  rw [HG.out] at S0 ⊢
  clear HG
  obtain ⟨mi, HG⟩ : ∃ x, Hid (w.heap.size + 1 + 1 + 1 + 1 = x) := ⟨_, rfl⟩
  rw [HG.out] at S0 ⊢
  clear HG
  obtain ⟨me, HG⟩ : ∃ x, Hid (w.heap.size + 1 + 1 + 1 = x) := ⟨_, rfl⟩
  rw [HG.out] at S0 ⊢
  clear HG
  obtain ⟨ml, HG⟩ : ∃ x, Hid (w.heap.size + 1 + 1 = x) := ⟨_, rfl⟩
  rw [HG.out] at S0 ⊢
  clear HG
  have k0 : w1.cell? ⟨w.heap.size, 0, none⟩ = some (.slice A m cm) := (S0.out.cell 5 rfl).cell 0
  have S1 : Hid (SW b w0 (mpOb okS kS vE3 me [] :: mpOb okS kS vRw ml (lastL 0) :: mpOb okF vF vF mi (linL 0) :: cellOb kb 209 (ckC (.slice A m cm) n Ev ml me mi) :: l) w1) := SW.few (pre := [_, _, _, _, _, _]) S0.out [2, 3, 1, 0] (n := 6) rfl (by decide) (by decide)
  go_wp2_with fail
  clear k0 S0
  go_loopw [20] (fun s20 wr => ∃ (k : Nat), s20 = .int .i64 (k : Int) ∧ k ≤ m ∧ SW b w0 (mpOb okS kS vE3 me [] :: mpOb okS kS vRw ml (lastL k) :: mpOb okF vF vF mi (linL k) :: cellOb kb 209 (ckC (.slice A m cm) n Ev ml me mi) :: l) wr) (fun s20 _ => m - (intOf s20).toNat)
  case atStart => exact ⟨0, rfl, Nat.zero_le _, S1.out⟩
  case round =>
    obtain ⟨k, rfl, hkm, hs⟩ := hrel
    have S1 := Lib.hid hs
    clear hs
    by_cases hlt : k < m
    · obtain ⟨g, hA, hg, hc⟩ := rv_at (S1.out.1.holds (rvOb A m) (by simp [HV.out])) hlt
      obtain ⟨i, HI⟩ : ∃ i, Hid ((k : Int) + 1 = i) := ⟨_, rfl⟩
      obtain ⟨ci, HC⟩ : ∃ ci, Hid (10 * i = ci) := ⟨_, rfl⟩
      obtain ⟨ai, HA⟩ : ∃ ai, Hid (actI i = ai) := ⟨_, rfl⟩
      have hcc : ∀ c, c < 12 → wr.cell? ⟨g, k * 12 + c, none⟩ = [Value.string pA, .int .i64 i, .int .i64 ci, .int .i64 ai, .int .i64 1, .bool false, .bool false, .bool false, .int .u64 i, .int .i64 1, .string ⟨#[]⟩, .int .i64 0][c]? := fun c h => by
        rw [hc c h, HI.out, ← HC.out, ← HA.out]
        rfl
      subst hA
      by_cases h0 : k = 0
      · subst h0
        obtain rfl : i = 1 := by have := HI.out; omega
        obtain rfl : ai = 1 := by rw [← HA.out]; rfl
        have c0 : wr.cell? ⟨g, 0, none⟩ = some (.string pA) := hcc 0 (by omega)
        have c1 : wr.cell? ⟨g, 1, none⟩ = some (.int .i64 1) := hcc 1 (by omega)
        have c2 : wr.cell? ⟨g, 2, none⟩ = some (.int .i64 ci) := hcc 2 (by omega)
        have c3 : wr.cell? ⟨g, 3, none⟩ = some (.int .i64 1) := hcc 3 (by omega)
        have c4 : wr.cell? ⟨g, 4, none⟩ = some (.int .i64 1) := hcc 4 (by omega)
        have c5 : wr.cell? ⟨g, 5, none⟩ = some (.bool false) := hcc 5 (by omega)
        have c6 : wr.cell? ⟨g, 6, none⟩ = some (.bool false) := hcc 6 (by omega)
        have c7 : wr.cell? ⟨g, 7, none⟩ = some (.bool false) := hcc 7 (by omega)
        have c8 : wr.cell? ⟨g, 8, none⟩ = some (.int .u64 1) := hcc 8 (by omega)
        have c9 : wr.cell? ⟨g, 9, none⟩ = some (.int .i64 1) := hcc 9 (by omega)
        have c10 : wr.cell? ⟨g, 10, none⟩ = some (.string ⟨#[]⟩) := hcc 10 (by omega)
        have c11 : wr.cell? ⟨g, 11, none⟩ = some (.int .i64 0) := hcc 11 (by omega)
        have S2a := Lib.hid (S1.out.newCell 111 #[.string pA, .int .i64 1, .int .i64 ci, .int .i64 1, .int .i64 1, .bool false, .bool false, .bool false, .int .u64 1, .int .i64 1, .string ⟨#[]⟩, .int .i64 0])
        clear hc hcc
        go_upto_region 5 with fail
        obtain ⟨w2, HW⟩ : ∃ W2, Hid (wr.alloc (.cells #[.string pA, .int .i64 1, .int .i64 ci, .int .i64 1, .int .i64 1, .bool false, .bool false, .bool false, .int .u64 1, .int .i64 1, .string ⟨#[]⟩, .int .i64 0] 111) = W2) := ⟨_, rfl⟩
        obtain ⟨g7, HG⟩ : ∃ g7, Hid (wr.heap.size = g7) := ⟨_, rfl⟩
        rw [HW.out, HG.out] at S2a ⊢
        have S2 : Hid (SW b w0 (cellOb g7 111 #[.string pA, .int .i64 1, .int .i64 ci, .int .i64 1, .int .i64 1, .bool false, .bool false, .bool false, .int .u64 1, .int .i64 1, .string ⟨#[]⟩, .int .i64 0] :: mpOb okS kS vE3 me [] :: mpOb okS kS vRw ml (lastL 0) :: mpOb okF vF vF mi (linL 0) :: cellOb kb 209 (ckC (.slice (some ⟨g, 0, none⟩) m cm) n Ev ml me mi) :: l) w2) := S2a
        clear HW HG S2a S1 c0 c1 c2 c3 c4 c5 c6 c7 c8 c9 c10 c11
        have hl0 : ∀ W, Below w2.heap.size w2 W → (Instr.lookup 205 (.map (some ml)) (.string pA) true).run Tryz.prog W = .ok (.tuple #[.agg #[.string ⟨#[]⟩, .int .i64 0, .int .i64 0, .int .i64 0, .int .i64 0, .bool false, .bool false, .bool false, .int .u64 0, .int .i64 0, .string ⟨#[]⟩, .int .i64 0], .bool false]) W := fun W hW => look_R (S2.out.get 2 (o := mpOb okS kS vRw ml (lastL 0)) rfl) true W hW
        have S3 := Lib.hid (S2.out.newCell 111 #[.string ⟨#[]⟩, .int .i64 0, .int .i64 0, .int .i64 0, .int .i64 0, .bool false, .bool false, .bool false, .int .u64 0, .int .i64 0, .string ⟨#[]⟩, .int .i64 0])
        have c0 : w2.cell? ⟨g7, 0, none⟩ = some (.string pA) := (S2.out.cell 0 rfl).cell 0
        have c1 : w2.cell? ⟨g7, 1, none⟩ = some (.int .i64 1) := (S2.out.cell 0 rfl).cell 1
        have c2 : w2.cell? ⟨g7, 2, none⟩ = some (.int .i64 ci) := (S2.out.cell 0 rfl).cell 2
        have c3 : w2.cell? ⟨g7, 3, none⟩ = some (.int .i64 1) := (S2.out.cell 0 rfl).cell 3
        have c4 : w2.cell? ⟨g7, 4, none⟩ = some (.int .i64 1) := (S2.out.cell 0 rfl).cell 4
        have c5 : w2.cell? ⟨g7, 5, none⟩ = some (.bool false) := (S2.out.cell 0 rfl).cell 5
        have c6 : w2.cell? ⟨g7, 6, none⟩ = some (.bool false) := (S2.out.cell 0 rfl).cell 6
        have c7 : w2.cell? ⟨g7, 7, none⟩ = some (.bool false) := (S2.out.cell 0 rfl).cell 7
        have c8 : w2.cell? ⟨g7, 8, none⟩ = some (.int .u64 1) := (S2.out.cell 0 rfl).cell 8
        have c9 : w2.cell? ⟨g7, 9, none⟩ = some (.int .i64 1) := (S2.out.cell 0 rfl).cell 9
        have c10 : w2.cell? ⟨g7, 10, none⟩ = some (.string ⟨#[]⟩) := (S2.out.cell 0 rfl).cell 10
        have c11 : w2.cell? ⟨g7, 11, none⟩ = some (.int .i64 0) := (S2.out.cell 0 rfl).cell 11
        have b0 : (w2.alloc (.cells #[.string ⟨#[]⟩, .int .i64 0, .int .i64 0, .int .i64 0, .int .i64 0, .bool false, .bool false, .bool false, .int .u64 0, .int .i64 0, .string ⟨#[]⟩, .int .i64 0] (111 : Nat))).cell? ⟨g7, 0, none⟩ = some (.string pA) := (S3.out.cell 1 rfl).cell 0
        have b1 : (w2.alloc (.cells #[.string ⟨#[]⟩, .int .i64 0, .int .i64 0, .int .i64 0, .int .i64 0, .bool false, .bool false, .bool false, .int .u64 0, .int .i64 0, .string ⟨#[]⟩, .int .i64 0] (111 : Nat))).cell? ⟨g7, 1, none⟩ = some (.int .i64 1) := (S3.out.cell 1 rfl).cell 1
        have b2 : (w2.alloc (.cells #[.string ⟨#[]⟩, .int .i64 0, .int .i64 0, .int .i64 0, .int .i64 0, .bool false, .bool false, .bool false, .int .u64 0, .int .i64 0, .string ⟨#[]⟩, .int .i64 0] (111 : Nat))).cell? ⟨g7, 2, none⟩ = some (.int .i64 ci) := (S3.out.cell 1 rfl).cell 2
        have b3 : (w2.alloc (.cells #[.string ⟨#[]⟩, .int .i64 0, .int .i64 0, .int .i64 0, .int .i64 0, .bool false, .bool false, .bool false, .int .u64 0, .int .i64 0, .string ⟨#[]⟩, .int .i64 0] (111 : Nat))).cell? ⟨g7, 3, none⟩ = some (.int .i64 1) := (S3.out.cell 1 rfl).cell 3
        have b4 : (w2.alloc (.cells #[.string ⟨#[]⟩, .int .i64 0, .int .i64 0, .int .i64 0, .int .i64 0, .bool false, .bool false, .bool false, .int .u64 0, .int .i64 0, .string ⟨#[]⟩, .int .i64 0] (111 : Nat))).cell? ⟨g7, 4, none⟩ = some (.int .i64 1) := (S3.out.cell 1 rfl).cell 4
        have b5 : (w2.alloc (.cells #[.string ⟨#[]⟩, .int .i64 0, .int .i64 0, .int .i64 0, .int .i64 0, .bool false, .bool false, .bool false, .int .u64 0, .int .i64 0, .string ⟨#[]⟩, .int .i64 0] (111 : Nat))).cell? ⟨g7, 5, none⟩ = some (.bool false) := (S3.out.cell 1 rfl).cell 5
        have b6 : (w2.alloc (.cells #[.string ⟨#[]⟩, .int .i64 0, .int .i64 0, .int .i64 0, .int .i64 0, .bool false, .bool false, .bool false, .int .u64 0, .int .i64 0, .string ⟨#[]⟩, .int .i64 0] (111 : Nat))).cell? ⟨g7, 6, none⟩ = some (.bool false) := (S3.out.cell 1 rfl).cell 6
        have b7 : (w2.alloc (.cells #[.string ⟨#[]⟩, .int .i64 0, .int .i64 0, .int .i64 0, .int .i64 0, .bool false, .bool false, .bool false, .int .u64 0, .int .i64 0, .string ⟨#[]⟩, .int .i64 0] (111 : Nat))).cell? ⟨g7, 7, none⟩ = some (.bool false) := (S3.out.cell 1 rfl).cell 7
        have b8 : (w2.alloc (.cells #[.string ⟨#[]⟩, .int .i64 0, .int .i64 0, .int .i64 0, .int .i64 0, .bool false, .bool false, .bool false, .int .u64 0, .int .i64 0, .string ⟨#[]⟩, .int .i64 0] (111 : Nat))).cell? ⟨g7, 8, none⟩ = some (.int .u64 1) := (S3.out.cell 1 rfl).cell 8
        have b9 : (w2.alloc (.cells #[.string ⟨#[]⟩, .int .i64 0, .int .i64 0, .int .i64 0, .int .i64 0, .bool false, .bool false, .bool false, .int .u64 0, .int .i64 0, .string ⟨#[]⟩, .int .i64 0] (111 : Nat))).cell? ⟨g7, 9, none⟩ = some (.int .i64 1) := (S3.out.cell 1 rfl).cell 9
        have b10 : (w2.alloc (.cells #[.string ⟨#[]⟩, .int .i64 0, .int .i64 0, .int .i64 0, .int .i64 0, .bool false, .bool false, .bool false, .int .u64 0, .int .i64 0, .string ⟨#[]⟩, .int .i64 0] (111 : Nat))).cell? ⟨g7, 10, none⟩ = some (.string ⟨#[]⟩) := (S3.out.cell 1 rfl).cell 10
        have b11 : (w2.alloc (.cells #[.string ⟨#[]⟩, .int .i64 0, .int .i64 0, .int .i64 0, .int .i64 0, .bool false, .bool false, .bool false, .int .u64 0, .int .i64 0, .string ⟨#[]⟩, .int .i64 0] (111 : Nat))).cell? ⟨g7, 11, none⟩ = some (.int .i64 0) := (S3.out.cell 1 rfl).cell 11
        have d0 : (w2.alloc (.cells #[.string ⟨#[]⟩, .int .i64 0, .int .i64 0, .int .i64 0, .int .i64 0, .bool false, .bool false, .bool false, .int .u64 0, .int .i64 0, .string ⟨#[]⟩, .int .i64 0] (111 : Nat))).cell? ⟨w2.heap.size, 0, none⟩ = some (.string ⟨#[]⟩) := (S3.out.cell 0 rfl).cell 0
        have d1 : (w2.alloc (.cells #[.string ⟨#[]⟩, .int .i64 0, .int .i64 0, .int .i64 0, .int .i64 0, .bool false, .bool false, .bool false, .int .u64 0, .int .i64 0, .string ⟨#[]⟩, .int .i64 0] (111 : Nat))).cell? ⟨w2.heap.size, 1, none⟩ = some (.int .i64 0) := (S3.out.cell 0 rfl).cell 1
        have d2 : (w2.alloc (.cells #[.string ⟨#[]⟩, .int .i64 0, .int .i64 0, .int .i64 0, .int .i64 0, .bool false, .bool false, .bool false, .int .u64 0, .int .i64 0, .string ⟨#[]⟩, .int .i64 0] (111 : Nat))).cell? ⟨w2.heap.size, 2, none⟩ = some (.int .i64 0) := (S3.out.cell 0 rfl).cell 2
        have d3 : (w2.alloc (.cells #[.string ⟨#[]⟩, .int .i64 0, .int .i64 0, .int .i64 0, .int .i64 0, .bool false, .bool false, .bool false, .int .u64 0, .int .i64 0, .string ⟨#[]⟩, .int .i64 0] (111 : Nat))).cell? ⟨w2.heap.size, 3, none⟩ = some (.int .i64 0) := (S3.out.cell 0 rfl).cell 3
        have d4 : (w2.alloc (.cells #[.string ⟨#[]⟩, .int .i64 0, .int .i64 0, .int .i64 0, .int .i64 0, .bool false, .bool false, .bool false, .int .u64 0, .int .i64 0, .string ⟨#[]⟩, .int .i64 0] (111 : Nat))).cell? ⟨w2.heap.size, 4, none⟩ = some (.int .i64 0) := (S3.out.cell 0 rfl).cell 4
        have d5 : (w2.alloc (.cells #[.string ⟨#[]⟩, .int .i64 0, .int .i64 0, .int .i64 0, .int .i64 0, .bool false, .bool false, .bool false, .int .u64 0, .int .i64 0, .string ⟨#[]⟩, .int .i64 0] (111 : Nat))).cell? ⟨w2.heap.size, 5, none⟩ = some (.bool false) := (S3.out.cell 0 rfl).cell 5
        have d6 : (w2.alloc (.cells #[.string ⟨#[]⟩, .int .i64 0, .int .i64 0, .int .i64 0, .int .i64 0, .bool false, .bool false, .bool false, .int .u64 0, .int .i64 0, .string ⟨#[]⟩, .int .i64 0] (111 : Nat))).cell? ⟨w2.heap.size, 6, none⟩ = some (.bool false) := (S3.out.cell 0 rfl).cell 6
        have d7 : (w2.alloc (.cells #[.string ⟨#[]⟩, .int .i64 0, .int .i64 0, .int .i64 0, .int .i64 0, .bool false, .bool false, .bool false, .int .u64 0, .int .i64 0, .string ⟨#[]⟩, .int .i64 0] (111 : Nat))).cell? ⟨w2.heap.size, 7, none⟩ = some (.bool false) := (S3.out.cell 0 rfl).cell 7
        have d8 : (w2.alloc (.cells #[.string ⟨#[]⟩, .int .i64 0, .int .i64 0, .int .i64 0, .int .i64 0, .bool false, .bool false, .bool false, .int .u64 0, .int .i64 0, .string ⟨#[]⟩, .int .i64 0] (111 : Nat))).cell? ⟨w2.heap.size, 8, none⟩ = some (.int .u64 0) := (S3.out.cell 0 rfl).cell 8
        have d9 : (w2.alloc (.cells #[.string ⟨#[]⟩, .int .i64 0, .int .i64 0, .int .i64 0, .int .i64 0, .bool false, .bool false, .bool false, .int .u64 0, .int .i64 0, .string ⟨#[]⟩, .int .i64 0] (111 : Nat))).cell? ⟨w2.heap.size, 9, none⟩ = some (.int .i64 0) := (S3.out.cell 0 rfl).cell 9
        have d10 : (w2.alloc (.cells #[.string ⟨#[]⟩, .int .i64 0, .int .i64 0, .int .i64 0, .int .i64 0, .bool false, .bool false, .bool false, .int .u64 0, .int .i64 0, .string ⟨#[]⟩, .int .i64 0] (111 : Nat))).cell? ⟨w2.heap.size, 10, none⟩ = some (.string ⟨#[]⟩) := (S3.out.cell 0 rfl).cell 10
        have d11 : (w2.alloc (.cells #[.string ⟨#[]⟩, .int .i64 0, .int .i64 0, .int .i64 0, .int .i64 0, .bool false, .bool false, .bool false, .int .u64 0, .int .i64 0, .string ⟨#[]⟩, .int .i64 0] (111 : Nat))).cell? ⟨w2.heap.size, 11, none⟩ = some (.int .i64 0) := (S3.out.cell 0 rfl).cell 11
        have f0 : (w2.alloc (.cells #[.string ⟨#[]⟩, .int .i64 0, .int .i64 0, .int .i64 0, .int .i64 0, .bool false, .bool false, .bool false, .int .u64 0, .int .i64 0, .string ⟨#[]⟩, .int .i64 0] (111 : Nat))).frozen? ⟨w2.heap.size, 0, none⟩ = false := (S3.out.cell 0 rfl).frozen 0
        have f1 : (w2.alloc (.cells #[.string ⟨#[]⟩, .int .i64 0, .int .i64 0, .int .i64 0, .int .i64 0, .bool false, .bool false, .bool false, .int .u64 0, .int .i64 0, .string ⟨#[]⟩, .int .i64 0] (111 : Nat))).frozen? ⟨w2.heap.size, 1, none⟩ = false := (S3.out.cell 0 rfl).frozen 1
        have f2 : (w2.alloc (.cells #[.string ⟨#[]⟩, .int .i64 0, .int .i64 0, .int .i64 0, .int .i64 0, .bool false, .bool false, .bool false, .int .u64 0, .int .i64 0, .string ⟨#[]⟩, .int .i64 0] (111 : Nat))).frozen? ⟨w2.heap.size, 2, none⟩ = false := (S3.out.cell 0 rfl).frozen 2
        have f3 : (w2.alloc (.cells #[.string ⟨#[]⟩, .int .i64 0, .int .i64 0, .int .i64 0, .int .i64 0, .bool false, .bool false, .bool false, .int .u64 0, .int .i64 0, .string ⟨#[]⟩, .int .i64 0] (111 : Nat))).frozen? ⟨w2.heap.size, 3, none⟩ = false := (S3.out.cell 0 rfl).frozen 3
        have f4 : (w2.alloc (.cells #[.string ⟨#[]⟩, .int .i64 0, .int .i64 0, .int .i64 0, .int .i64 0, .bool false, .bool false, .bool false, .int .u64 0, .int .i64 0, .string ⟨#[]⟩, .int .i64 0] (111 : Nat))).frozen? ⟨w2.heap.size, 4, none⟩ = false := (S3.out.cell 0 rfl).frozen 4
        have f5 : (w2.alloc (.cells #[.string ⟨#[]⟩, .int .i64 0, .int .i64 0, .int .i64 0, .int .i64 0, .bool false, .bool false, .bool false, .int .u64 0, .int .i64 0, .string ⟨#[]⟩, .int .i64 0] (111 : Nat))).frozen? ⟨w2.heap.size, 5, none⟩ = false := (S3.out.cell 0 rfl).frozen 5
        have f6 : (w2.alloc (.cells #[.string ⟨#[]⟩, .int .i64 0, .int .i64 0, .int .i64 0, .int .i64 0, .bool false, .bool false, .bool false, .int .u64 0, .int .i64 0, .string ⟨#[]⟩, .int .i64 0] (111 : Nat))).frozen? ⟨w2.heap.size, 6, none⟩ = false := (S3.out.cell 0 rfl).frozen 6
        have f7 : (w2.alloc (.cells #[.string ⟨#[]⟩, .int .i64 0, .int .i64 0, .int .i64 0, .int .i64 0, .bool false, .bool false, .bool false, .int .u64 0, .int .i64 0, .string ⟨#[]⟩, .int .i64 0] (111 : Nat))).frozen? ⟨w2.heap.size, 7, none⟩ = false := (S3.out.cell 0 rfl).frozen 7
        have f8 : (w2.alloc (.cells #[.string ⟨#[]⟩, .int .i64 0, .int .i64 0, .int .i64 0, .int .i64 0, .bool false, .bool false, .bool false, .int .u64 0, .int .i64 0, .string ⟨#[]⟩, .int .i64 0] (111 : Nat))).frozen? ⟨w2.heap.size, 8, none⟩ = false := (S3.out.cell 0 rfl).frozen 8
        have f9 : (w2.alloc (.cells #[.string ⟨#[]⟩, .int .i64 0, .int .i64 0, .int .i64 0, .int .i64 0, .bool false, .bool false, .bool false, .int .u64 0, .int .i64 0, .string ⟨#[]⟩, .int .i64 0] (111 : Nat))).frozen? ⟨w2.heap.size, 9, none⟩ = false := (S3.out.cell 0 rfl).frozen 9
        have f10 : (w2.alloc (.cells #[.string ⟨#[]⟩, .int .i64 0, .int .i64 0, .int .i64 0, .int .i64 0, .bool false, .bool false, .bool false, .int .u64 0, .int .i64 0, .string ⟨#[]⟩, .int .i64 0] (111 : Nat))).frozen? ⟨w2.heap.size, 10, none⟩ = false := (S3.out.cell 0 rfl).frozen 10
        have f11 : (w2.alloc (.cells #[.string ⟨#[]⟩, .int .i64 0, .int .i64 0, .int .i64 0, .int .i64 0, .bool false, .bool false, .bool false, .int .u64 0, .int .i64 0, .string ⟨#[]⟩, .int .i64 0] (111 : Nat))).frozen? ⟨w2.heap.size, 11, none⟩ = false := (S3.out.cell 0 rfl).frozen 11
        have k7 : w2.cell? ⟨kb, 7, none⟩ = some (.map (some ml)) := (S2.out.cell 4 rfl).cell 7
        have k7' : (w2.alloc (.cells #[.string ⟨#[]⟩, .int .i64 0, .int .i64 0, .int .i64 0, .int .i64 0, .bool false, .bool false, .bool false, .int .u64 0, .int .i64 0, .string ⟨#[]⟩, .int .i64 0] (111 : Nat))).cell? ⟨kb, 7, none⟩ = some (.map (some ml)) := (S3.out.cell 5 rfl).cell 7
        have hlk' := hl0 w2.drew (Below.refl _ _).drew
        have hlk := hl0 (w2.alloc (.cells #[.string ⟨#[]⟩, .int .i64 0, .int .i64 0, .int .i64 0, .int .i64 0, .bool false, .bool false, .bool false, .int .u64 0, .int .i64 0, .string ⟨#[]⟩, .int .i64 0] (111 : Nat))).drew ((Below.refl _ _).alloc (Nat.le_refl _) _).drew
        go_wp2_with fail
        go_region
        have S4a := Lib.hid (S2.out.newCell 111 #[.string ⟨#[]⟩, .int .i64 0, .int .i64 0, .int .i64 0, .int .i64 0, .bool false, .bool false, .bool false, .int .u64 0, .int .i64 0, .string ⟨#[]⟩, .int .i64 0]).drew
        clear S3 S2 hl0 hlk hlk' k7 k7' b0 b1 b2 b3 b4 b5 b6 b7 b8 b9 b10 b11 c0 c1 c2 c3 c4 c5 c6 c7 c8 c9 c10 c11 d0 d1 d2 d3 d4 d5 d6 d7 d8 d9 d10 d11 f0 f1 f2 f3 f4 f5 f6 f7 f8 f9 f10 f11
        revert S4a
        generalize World.drew _ = w4
        intro S4a
        obtain ⟨g8, HG⟩ : ∃ x, Hid (w2.heap.size = x) := ⟨_, rfl⟩
        rw [HG.out] at S4a ⊢
        have S4 : Hid (SW b w0 (cellOb g8 111 #[.string ⟨#[]⟩, .int .i64 0, .int .i64 0, .int .i64 0, .int .i64 0, .bool false, .bool false, .bool false, .int .u64 0, .int .i64 0, .string ⟨#[]⟩, .int .i64 0] :: cellOb g7 111 #[.string pA, .int .i64 1, .int .i64 ci, .int .i64 1, .int .i64 1, .bool false, .bool false, .bool false, .int .u64 1, .int .i64 1, .string ⟨#[]⟩, .int .i64 0] :: mpOb okS kS vE3 me [] :: mpOb okS kS vRw ml (lastL 0) :: mpOb okF vF vF mi (linL 0) :: cellOb kb 209 (ckC (.slice (some ⟨g, 0, none⟩) m cm) n Ev ml me mi) :: l) w4) := S4a
        clear S4a HG w2
        have c0 : w4.cell? ⟨g7, 0, none⟩ = some (.string pA) := (S4.out.cell 1 rfl).cell 0
        have c1 : w4.cell? ⟨g7, 1, none⟩ = some (.int .i64 1) := (S4.out.cell 1 rfl).cell 1
        have c2 : w4.cell? ⟨g7, 2, none⟩ = some (.int .i64 ci) := (S4.out.cell 1 rfl).cell 2
        have c3 : w4.cell? ⟨g7, 3, none⟩ = some (.int .i64 1) := (S4.out.cell 1 rfl).cell 3
        have c4 : w4.cell? ⟨g7, 4, none⟩ = some (.int .i64 1) := (S4.out.cell 1 rfl).cell 4
        have c5 : w4.cell? ⟨g7, 5, none⟩ = some (.bool false) := (S4.out.cell 1 rfl).cell 5
        have c6 : w4.cell? ⟨g7, 6, none⟩ = some (.bool false) := (S4.out.cell 1 rfl).cell 6
        have c7 : w4.cell? ⟨g7, 7, none⟩ = some (.bool false) := (S4.out.cell 1 rfl).cell 7
        have c8 : w4.cell? ⟨g7, 8, none⟩ = some (.int .u64 1) := (S4.out.cell 1 rfl).cell 8
        have c9 : w4.cell? ⟨g7, 9, none⟩ = some (.int .i64 1) := (S4.out.cell 1 rfl).cell 9
        have c10 : w4.cell? ⟨g7, 10, none⟩ = some (.string ⟨#[]⟩) := (S4.out.cell 1 rfl).cell 10
        have c11 : w4.cell? ⟨g7, 11, none⟩ = some (.int .i64 0) := (S4.out.cell 1 rfl).cell 11
        have k7 : w4.cell? ⟨kb, 7, none⟩ = some (.map (some ml)) := (S4.out.cell 5 rfl).cell 7
        obtain ⟨w5, hu, hm5, hg5, hz5⟩ := MapIs.update mkS Tryz.underlying205 (S4.out.drew.get 3 (o := mpOb okS kS vRw ml (lastL 0)) rfl) okS_pA (1 : Int)
        have hu' : (Instr.mapUpdate 205 (.map (some ml)) (.string pA) (.agg #[.string pA, .int .i64 1, .int .i64 ci, .int .i64 1, .int .i64 1, .bool false, .bool false, .bool false, .int .u64 1, .int .i64 1, .string ⟨#[]⟩, .int .i64 0])).run Tryz.prog w4.drew = .ok () w5 := by
          have e : (.agg #[.string pA, .int .i64 1, .int .i64 ci, .int .i64 1, .int .i64 1, .bool false, .bool false, .bool false, .int .u64 1, .int .i64 1, .string ⟨#[]⟩, .int .i64 0] : Value) = .agg #[.string pA, .int .i64 1, .int .i64 (10 * 1), .int .i64 (actI 1), .int .i64 1, .bool false, .bool false, .bool false, .int .u64 1, .int .i64 1, .string ⟨#[]⟩, .int .i64 0] := by rw [HA.out, HC.out]
          rw [e]
          exact hu
        have S5a := (S4.out.drew).updMp 3 rfl hm5 hg5
        rw [show setL (lastL 0) pA (1 : Int) = lastL (0 + 1) by rfl] at S5a
        have S5 : Hid (SW b w0 (cellOb g7 111 #[.string pA, .int .i64 1, .int .i64 ci, .int .i64 1, .int .i64 1, .bool false, .bool false, .bool false, .int .u64 1, .int .i64 1, .string ⟨#[]⟩, .int .i64 0] :: mpOb okS kS vE3 me [] :: mpOb okS kS vRw ml (lastL (0 + 1)) :: mpOb okF vF vF mi (linL 0) :: cellOb kb 209 (ckC (.slice (some ⟨g, 0, none⟩) m cm) n Ev ml me mi) :: l) w5) := S5a.tail
        clear S5a hu hm5 hg5 hz5
        have b0 : w5.cell? ⟨g7, 0, none⟩ = some (.string pA) := (S5.out.cell 0 rfl).cell 0
        have b1 : w5.cell? ⟨g7, 1, none⟩ = some (.int .i64 1) := (S5.out.cell 0 rfl).cell 1
        have b2 : w5.cell? ⟨g7, 2, none⟩ = some (.int .i64 ci) := (S5.out.cell 0 rfl).cell 2
        have b3 : w5.cell? ⟨g7, 3, none⟩ = some (.int .i64 1) := (S5.out.cell 0 rfl).cell 3
        have b4 : w5.cell? ⟨g7, 4, none⟩ = some (.int .i64 1) := (S5.out.cell 0 rfl).cell 4
        have b5 : w5.cell? ⟨g7, 5, none⟩ = some (.bool false) := (S5.out.cell 0 rfl).cell 5
        have b6 : w5.cell? ⟨g7, 6, none⟩ = some (.bool false) := (S5.out.cell 0 rfl).cell 6
        have b7 : w5.cell? ⟨g7, 7, none⟩ = some (.bool false) := (S5.out.cell 0 rfl).cell 7
        have b8 : w5.cell? ⟨g7, 8, none⟩ = some (.int .u64 1) := (S5.out.cell 0 rfl).cell 8
        have b9 : w5.cell? ⟨g7, 9, none⟩ = some (.int .i64 1) := (S5.out.cell 0 rfl).cell 9
        have b10 : w5.cell? ⟨g7, 10, none⟩ = some (.string ⟨#[]⟩) := (S5.out.cell 0 rfl).cell 10
        have b11 : w5.cell? ⟨g7, 11, none⟩ = some (.int .i64 0) := (S5.out.cell 0 rfl).cell 11
        go_upto_region 7 with fail
        go_region
        clear S4 k7 hu'  w4 c0 c1 c2 c3 c4 c5 c6 c7 c8 c9 c10 c11
        have k9 : w5.cell? ⟨kb, 9, none⟩ = some (.map (some mi)) := (S5.out.cell 4 rfl).cell 9
        go_upto_region 9 with fail
        refine wp_region_held_tail [(0, true), (1, true), (2, true), (3, true), (4, true), (5, true), (6, true), (7, true), (8, true), (9, true), (10, true), (11, false)] (fun w' => SW b w0 (cellOb g7 111 #[.string pA, .int .i64 1, .int .i64 ci, .int .i64 1, .int .i64 1, .bool false, .bool false, .bool false, .int .u64 1, .int .i64 1, .string ⟨#[]⟩, .int .i64 0] :: mpOb okS kS vE3 me [] :: mpOb okS kS vRw ml (lastL (0 + 1)) :: mpOb okF vF vF mi (linL 0) :: cellOb kb 209 (ckC (.slice (some ⟨g, 0, none⟩) m cm) n Ev ml me mi) :: l) w' ∧ w'.cell? ⟨kb, 9, none⟩ = some (.map (some mi))) (by kernel_rfl) (fun _ _ d _ _ h => by cases d <;> exact h) (by kernel_rfl) (⟨S5.out.drew, k9⟩) ?_
        simp only [picked, List.map_cons, List.map_nil, List.getD_cons_succ, List.getD_cons_zero]
        (refine wpHeld_take (v := ?_) (Or.inl ⟨by rfl, ?_⟩) ?_
         rotate_left
         · (intro w' hSw; obtain ⟨h1, h9⟩ := hSw; have z0 : w'.cell? ⟨g7, 0, none⟩ = some (.string pA) := (h1.cell 0 rfl).cell 0; have z1 : w'.cell? ⟨g7, 1, none⟩ = some (.int .i64 1) := (h1.cell 0 rfl).cell 1; have z2 : w'.cell? ⟨g7, 2, none⟩ = some (.int .i64 ci) := (h1.cell 0 rfl).cell 2; have z3 : w'.cell? ⟨g7, 3, none⟩ = some (.int .i64 1) := (h1.cell 0 rfl).cell 3; have z4 : w'.cell? ⟨g7, 4, none⟩ = some (.int .i64 1) := (h1.cell 0 rfl).cell 4; have z5 : w'.cell? ⟨g7, 5, none⟩ = some (.bool false) := (h1.cell 0 rfl).cell 5; have z6 : w'.cell? ⟨g7, 6, none⟩ = some (.bool false) := (h1.cell 0 rfl).cell 6; have z7 : w'.cell? ⟨g7, 7, none⟩ = some (.bool false) := (h1.cell 0 rfl).cell 7; have z8 : w'.cell? ⟨g7, 8, none⟩ = some (.int .u64 1) := (h1.cell 0 rfl).cell 8; have z9 : w'.cell? ⟨g7, 9, none⟩ = some (.int .i64 1) := (h1.cell 0 rfl).cell 9; have z10 : w'.cell? ⟨g7, 10, none⟩ = some (.string ⟨#[]⟩) := (h1.cell 0 rfl).cell 10; have z11 : w'.cell? ⟨g7, 11, none⟩ = some (.int .i64 0) := (h1.cell 0 rfl).cell 11; go_simp; try with_reducible rfl)
         try simp only [Act.put, List.setIfInBounds_toArray, List.set])
        (refine wpHeld_take (v := ?_) (Or.inl ⟨by rfl, ?_⟩) ?_
         rotate_left
         · (intro w' hSw; obtain ⟨h1, h9⟩ := hSw; have z0 : w'.cell? ⟨g7, 0, none⟩ = some (.string pA) := (h1.cell 0 rfl).cell 0; have z1 : w'.cell? ⟨g7, 1, none⟩ = some (.int .i64 1) := (h1.cell 0 rfl).cell 1; have z2 : w'.cell? ⟨g7, 2, none⟩ = some (.int .i64 ci) := (h1.cell 0 rfl).cell 2; have z3 : w'.cell? ⟨g7, 3, none⟩ = some (.int .i64 1) := (h1.cell 0 rfl).cell 3; have z4 : w'.cell? ⟨g7, 4, none⟩ = some (.int .i64 1) := (h1.cell 0 rfl).cell 4; have z5 : w'.cell? ⟨g7, 5, none⟩ = some (.bool false) := (h1.cell 0 rfl).cell 5; have z6 : w'.cell? ⟨g7, 6, none⟩ = some (.bool false) := (h1.cell 0 rfl).cell 6; have z7 : w'.cell? ⟨g7, 7, none⟩ = some (.bool false) := (h1.cell 0 rfl).cell 7; have z8 : w'.cell? ⟨g7, 8, none⟩ = some (.int .u64 1) := (h1.cell 0 rfl).cell 8; have z9 : w'.cell? ⟨g7, 9, none⟩ = some (.int .i64 1) := (h1.cell 0 rfl).cell 9; have z10 : w'.cell? ⟨g7, 10, none⟩ = some (.string ⟨#[]⟩) := (h1.cell 0 rfl).cell 10; have z11 : w'.cell? ⟨g7, 11, none⟩ = some (.int .i64 0) := (h1.cell 0 rfl).cell 11; go_simp; try with_reducible rfl)
         try simp only [Act.put, List.setIfInBounds_toArray, List.set])
        (refine wpHeld_take (v := ?_) (Or.inl ⟨by rfl, ?_⟩) ?_
         rotate_left
         · (intro w' hSw; obtain ⟨h1, h9⟩ := hSw; have z0 : w'.cell? ⟨g7, 0, none⟩ = some (.string pA) := (h1.cell 0 rfl).cell 0; have z1 : w'.cell? ⟨g7, 1, none⟩ = some (.int .i64 1) := (h1.cell 0 rfl).cell 1; have z2 : w'.cell? ⟨g7, 2, none⟩ = some (.int .i64 ci) := (h1.cell 0 rfl).cell 2; have z3 : w'.cell? ⟨g7, 3, none⟩ = some (.int .i64 1) := (h1.cell 0 rfl).cell 3; have z4 : w'.cell? ⟨g7, 4, none⟩ = some (.int .i64 1) := (h1.cell 0 rfl).cell 4; have z5 : w'.cell? ⟨g7, 5, none⟩ = some (.bool false) := (h1.cell 0 rfl).cell 5; have z6 : w'.cell? ⟨g7, 6, none⟩ = some (.bool false) := (h1.cell 0 rfl).cell 6; have z7 : w'.cell? ⟨g7, 7, none⟩ = some (.bool false) := (h1.cell 0 rfl).cell 7; have z8 : w'.cell? ⟨g7, 8, none⟩ = some (.int .u64 1) := (h1.cell 0 rfl).cell 8; have z9 : w'.cell? ⟨g7, 9, none⟩ = some (.int .i64 1) := (h1.cell 0 rfl).cell 9; have z10 : w'.cell? ⟨g7, 10, none⟩ = some (.string ⟨#[]⟩) := (h1.cell 0 rfl).cell 10; have z11 : w'.cell? ⟨g7, 11, none⟩ = some (.int .i64 0) := (h1.cell 0 rfl).cell 11; go_simp; try with_reducible rfl)
         try simp only [Act.put, List.setIfInBounds_toArray, List.set])
        (refine wpHeld_take (v := ?_) (Or.inl ⟨by rfl, ?_⟩) ?_
         rotate_left
         · (intro w' hSw; obtain ⟨h1, h9⟩ := hSw; have z0 : w'.cell? ⟨g7, 0, none⟩ = some (.string pA) := (h1.cell 0 rfl).cell 0; have z1 : w'.cell? ⟨g7, 1, none⟩ = some (.int .i64 1) := (h1.cell 0 rfl).cell 1; have z2 : w'.cell? ⟨g7, 2, none⟩ = some (.int .i64 ci) := (h1.cell 0 rfl).cell 2; have z3 : w'.cell? ⟨g7, 3, none⟩ = some (.int .i64 1) := (h1.cell 0 rfl).cell 3; have z4 : w'.cell? ⟨g7, 4, none⟩ = some (.int .i64 1) := (h1.cell 0 rfl).cell 4; have z5 : w'.cell? ⟨g7, 5, none⟩ = some (.bool false) := (h1.cell 0 rfl).cell 5; have z6 : w'.cell? ⟨g7, 6, none⟩ = some (.bool false) := (h1.cell 0 rfl).cell 6; have z7 : w'.cell? ⟨g7, 7, none⟩ = some (.bool false) := (h1.cell 0 rfl).cell 7; have z8 : w'.cell? ⟨g7, 8, none⟩ = some (.int .u64 1) := (h1.cell 0 rfl).cell 8; have z9 : w'.cell? ⟨g7, 9, none⟩ = some (.int .i64 1) := (h1.cell 0 rfl).cell 9; have z10 : w'.cell? ⟨g7, 10, none⟩ = some (.string ⟨#[]⟩) := (h1.cell 0 rfl).cell 10; have z11 : w'.cell? ⟨g7, 11, none⟩ = some (.int .i64 0) := (h1.cell 0 rfl).cell 11; go_simp; try with_reducible rfl)
         try simp only [Act.put, List.setIfInBounds_toArray, List.set])
        (refine wpHeld_take (v := ?_) (Or.inl ⟨by rfl, ?_⟩) ?_
         rotate_left
         · (intro w' hSw; obtain ⟨h1, h9⟩ := hSw; have z0 : w'.cell? ⟨g7, 0, none⟩ = some (.string pA) := (h1.cell 0 rfl).cell 0; have z1 : w'.cell? ⟨g7, 1, none⟩ = some (.int .i64 1) := (h1.cell 0 rfl).cell 1; have z2 : w'.cell? ⟨g7, 2, none⟩ = some (.int .i64 ci) := (h1.cell 0 rfl).cell 2; have z3 : w'.cell? ⟨g7, 3, none⟩ = some (.int .i64 1) := (h1.cell 0 rfl).cell 3; have z4 : w'.cell? ⟨g7, 4, none⟩ = some (.int .i64 1) := (h1.cell 0 rfl).cell 4; have z5 : w'.cell? ⟨g7, 5, none⟩ = some (.bool false) := (h1.cell 0 rfl).cell 5; have z6 : w'.cell? ⟨g7, 6, none⟩ = some (.bool false) := (h1.cell 0 rfl).cell 6; have z7 : w'.cell? ⟨g7, 7, none⟩ = some (.bool false) := (h1.cell 0 rfl).cell 7; have z8 : w'.cell? ⟨g7, 8, none⟩ = some (.int .u64 1) := (h1.cell 0 rfl).cell 8; have z9 : w'.cell? ⟨g7, 9, none⟩ = some (.int .i64 1) := (h1.cell 0 rfl).cell 9; have z10 : w'.cell? ⟨g7, 10, none⟩ = some (.string ⟨#[]⟩) := (h1.cell 0 rfl).cell 10; have z11 : w'.cell? ⟨g7, 11, none⟩ = some (.int .i64 0) := (h1.cell 0 rfl).cell 11; go_simp; try with_reducible rfl)
         try simp only [Act.put, List.setIfInBounds_toArray, List.set])
        (refine wpHeld_take (v := ?_) (Or.inl ⟨by rfl, ?_⟩) ?_
         rotate_left
         · (intro w' hSw; obtain ⟨h1, h9⟩ := hSw; have z0 : w'.cell? ⟨g7, 0, none⟩ = some (.string pA) := (h1.cell 0 rfl).cell 0; have z1 : w'.cell? ⟨g7, 1, none⟩ = some (.int .i64 1) := (h1.cell 0 rfl).cell 1; have z2 : w'.cell? ⟨g7, 2, none⟩ = some (.int .i64 ci) := (h1.cell 0 rfl).cell 2; have z3 : w'.cell? ⟨g7, 3, none⟩ = some (.int .i64 1) := (h1.cell 0 rfl).cell 3; have z4 : w'.cell? ⟨g7, 4, none⟩ = some (.int .i64 1) := (h1.cell 0 rfl).cell 4; have z5 : w'.cell? ⟨g7, 5, none⟩ = some (.bool false) := (h1.cell 0 rfl).cell 5; have z6 : w'.cell? ⟨g7, 6, none⟩ = some (.bool false) := (h1.cell 0 rfl).cell 6; have z7 : w'.cell? ⟨g7, 7, none⟩ = some (.bool false) := (h1.cell 0 rfl).cell 7; have z8 : w'.cell? ⟨g7, 8, none⟩ = some (.int .u64 1) := (h1.cell 0 rfl).cell 8; have z9 : w'.cell? ⟨g7, 9, none⟩ = some (.int .i64 1) := (h1.cell 0 rfl).cell 9; have z10 : w'.cell? ⟨g7, 10, none⟩ = some (.string ⟨#[]⟩) := (h1.cell 0 rfl).cell 10; have z11 : w'.cell? ⟨g7, 11, none⟩ = some (.int .i64 0) := (h1.cell 0 rfl).cell 11; go_simp; try with_reducible rfl)
         try simp only [Act.put, List.setIfInBounds_toArray, List.set])
        (refine wpHeld_take (v := ?_) (Or.inl ⟨by rfl, ?_⟩) ?_
         rotate_left
         · (intro w' hSw; obtain ⟨h1, h9⟩ := hSw; have z0 : w'.cell? ⟨g7, 0, none⟩ = some (.string pA) := (h1.cell 0 rfl).cell 0; have z1 : w'.cell? ⟨g7, 1, none⟩ = some (.int .i64 1) := (h1.cell 0 rfl).cell 1; have z2 : w'.cell? ⟨g7, 2, none⟩ = some (.int .i64 ci) := (h1.cell 0 rfl).cell 2; have z3 : w'.cell? ⟨g7, 3, none⟩ = some (.int .i64 1) := (h1.cell 0 rfl).cell 3; have z4 : w'.cell? ⟨g7, 4, none⟩ = some (.int .i64 1) := (h1.cell 0 rfl).cell 4; have z5 : w'.cell? ⟨g7, 5, none⟩ = some (.bool false) := (h1.cell 0 rfl).cell 5; have z6 : w'.cell? ⟨g7, 6, none⟩ = some (.bool false) := (h1.cell 0 rfl).cell 6; have z7 : w'.cell? ⟨g7, 7, none⟩ = some (.bool false) := (h1.cell 0 rfl).cell 7; have z8 : w'.cell? ⟨g7, 8, none⟩ = some (.int .u64 1) := (h1.cell 0 rfl).cell 8; have z9 : w'.cell? ⟨g7, 9, none⟩ = some (.int .i64 1) := (h1.cell 0 rfl).cell 9; have z10 : w'.cell? ⟨g7, 10, none⟩ = some (.string ⟨#[]⟩) := (h1.cell 0 rfl).cell 10; have z11 : w'.cell? ⟨g7, 11, none⟩ = some (.int .i64 0) := (h1.cell 0 rfl).cell 11; go_simp; try with_reducible rfl)
         try simp only [Act.put, List.setIfInBounds_toArray, List.set])
        (refine wpHeld_take (v := ?_) (Or.inl ⟨by rfl, ?_⟩) ?_
         rotate_left
         · (intro w' hSw; obtain ⟨h1, h9⟩ := hSw; have z0 : w'.cell? ⟨g7, 0, none⟩ = some (.string pA) := (h1.cell 0 rfl).cell 0; have z1 : w'.cell? ⟨g7, 1, none⟩ = some (.int .i64 1) := (h1.cell 0 rfl).cell 1; have z2 : w'.cell? ⟨g7, 2, none⟩ = some (.int .i64 ci) := (h1.cell 0 rfl).cell 2; have z3 : w'.cell? ⟨g7, 3, none⟩ = some (.int .i64 1) := (h1.cell 0 rfl).cell 3; have z4 : w'.cell? ⟨g7, 4, none⟩ = some (.int .i64 1) := (h1.cell 0 rfl).cell 4; have z5 : w'.cell? ⟨g7, 5, none⟩ = some (.bool false) := (h1.cell 0 rfl).cell 5; have z6 : w'.cell? ⟨g7, 6, none⟩ = some (.bool false) := (h1.cell 0 rfl).cell 6; have z7 : w'.cell? ⟨g7, 7, none⟩ = some (.bool false) := (h1.cell 0 rfl).cell 7; have z8 : w'.cell? ⟨g7, 8, none⟩ = some (.int .u64 1) := (h1.cell 0 rfl).cell 8; have z9 : w'.cell? ⟨g7, 9, none⟩ = some (.int .i64 1) := (h1.cell 0 rfl).cell 9; have z10 : w'.cell? ⟨g7, 10, none⟩ = some (.string ⟨#[]⟩) := (h1.cell 0 rfl).cell 10; have z11 : w'.cell? ⟨g7, 11, none⟩ = some (.int .i64 0) := (h1.cell 0 rfl).cell 11; go_simp; try with_reducible rfl)
         try simp only [Act.put, List.setIfInBounds_toArray, List.set])
        (refine wpHeld_take (v := ?_) (Or.inl ⟨by rfl, ?_⟩) ?_
         rotate_left
         · (intro w' hSw; obtain ⟨h1, h9⟩ := hSw; have z0 : w'.cell? ⟨g7, 0, none⟩ = some (.string pA) := (h1.cell 0 rfl).cell 0; have z1 : w'.cell? ⟨g7, 1, none⟩ = some (.int .i64 1) := (h1.cell 0 rfl).cell 1; have z2 : w'.cell? ⟨g7, 2, none⟩ = some (.int .i64 ci) := (h1.cell 0 rfl).cell 2; have z3 : w'.cell? ⟨g7, 3, none⟩ = some (.int .i64 1) := (h1.cell 0 rfl).cell 3; have z4 : w'.cell? ⟨g7, 4, none⟩ = some (.int .i64 1) := (h1.cell 0 rfl).cell 4; have z5 : w'.cell? ⟨g7, 5, none⟩ = some (.bool false) := (h1.cell 0 rfl).cell 5; have z6 : w'.cell? ⟨g7, 6, none⟩ = some (.bool false) := (h1.cell 0 rfl).cell 6; have z7 : w'.cell? ⟨g7, 7, none⟩ = some (.bool false) := (h1.cell 0 rfl).cell 7; have z8 : w'.cell? ⟨g7, 8, none⟩ = some (.int .u64 1) := (h1.cell 0 rfl).cell 8; have z9 : w'.cell? ⟨g7, 9, none⟩ = some (.int .i64 1) := (h1.cell 0 rfl).cell 9; have z10 : w'.cell? ⟨g7, 10, none⟩ = some (.string ⟨#[]⟩) := (h1.cell 0 rfl).cell 10; have z11 : w'.cell? ⟨g7, 11, none⟩ = some (.int .i64 0) := (h1.cell 0 rfl).cell 11; go_simp; try with_reducible rfl)
         try simp only [Act.put, List.setIfInBounds_toArray, List.set])
        (refine wpHeld_take (v := ?_) (Or.inl ⟨by rfl, ?_⟩) ?_
         rotate_left
         · (intro w' hSw; obtain ⟨h1, h9⟩ := hSw; have z0 : w'.cell? ⟨g7, 0, none⟩ = some (.string pA) := (h1.cell 0 rfl).cell 0; have z1 : w'.cell? ⟨g7, 1, none⟩ = some (.int .i64 1) := (h1.cell 0 rfl).cell 1; have z2 : w'.cell? ⟨g7, 2, none⟩ = some (.int .i64 ci) := (h1.cell 0 rfl).cell 2; have z3 : w'.cell? ⟨g7, 3, none⟩ = some (.int .i64 1) := (h1.cell 0 rfl).cell 3; have z4 : w'.cell? ⟨g7, 4, none⟩ = some (.int .i64 1) := (h1.cell 0 rfl).cell 4; have z5 : w'.cell? ⟨g7, 5, none⟩ = some (.bool false) := (h1.cell 0 rfl).cell 5; have z6 : w'.cell? ⟨g7, 6, none⟩ = some (.bool false) := (h1.cell 0 rfl).cell 6; have z7 : w'.cell? ⟨g7, 7, none⟩ = some (.bool false) := (h1.cell 0 rfl).cell 7; have z8 : w'.cell? ⟨g7, 8, none⟩ = some (.int .u64 1) := (h1.cell 0 rfl).cell 8; have z9 : w'.cell? ⟨g7, 9, none⟩ = some (.int .i64 1) := (h1.cell 0 rfl).cell 9; have z10 : w'.cell? ⟨g7, 10, none⟩ = some (.string ⟨#[]⟩) := (h1.cell 0 rfl).cell 10; have z11 : w'.cell? ⟨g7, 11, none⟩ = some (.int .i64 0) := (h1.cell 0 rfl).cell 11; go_simp; try with_reducible rfl)
         try simp only [Act.put, List.setIfInBounds_toArray, List.set])
        (refine wpHeld_take (v := ?_) (Or.inl ⟨by rfl, ?_⟩) ?_
         rotate_left
         · (intro w' hSw; obtain ⟨h1, h9⟩ := hSw; have z0 : w'.cell? ⟨g7, 0, none⟩ = some (.string pA) := (h1.cell 0 rfl).cell 0; have z1 : w'.cell? ⟨g7, 1, none⟩ = some (.int .i64 1) := (h1.cell 0 rfl).cell 1; have z2 : w'.cell? ⟨g7, 2, none⟩ = some (.int .i64 ci) := (h1.cell 0 rfl).cell 2; have z3 : w'.cell? ⟨g7, 3, none⟩ = some (.int .i64 1) := (h1.cell 0 rfl).cell 3; have z4 : w'.cell? ⟨g7, 4, none⟩ = some (.int .i64 1) := (h1.cell 0 rfl).cell 4; have z5 : w'.cell? ⟨g7, 5, none⟩ = some (.bool false) := (h1.cell 0 rfl).cell 5; have z6 : w'.cell? ⟨g7, 6, none⟩ = some (.bool false) := (h1.cell 0 rfl).cell 6; have z7 : w'.cell? ⟨g7, 7, none⟩ = some (.bool false) := (h1.cell 0 rfl).cell 7; have z8 : w'.cell? ⟨g7, 8, none⟩ = some (.int .u64 1) := (h1.cell 0 rfl).cell 8; have z9 : w'.cell? ⟨g7, 9, none⟩ = some (.int .i64 1) := (h1.cell 0 rfl).cell 9; have z10 : w'.cell? ⟨g7, 10, none⟩ = some (.string ⟨#[]⟩) := (h1.cell 0 rfl).cell 10; have z11 : w'.cell? ⟨g7, 11, none⟩ = some (.int .i64 0) := (h1.cell 0 rfl).cell 11; go_simp; try with_reducible rfl)
         try simp only [Act.put, List.setIfInBounds_toArray, List.set])
        refine wpHeld_run (fun K hK => ?_)
        go_simp
        go_at_call 131
        refine (lineOf_addH kb _).mono ?_
        rintro e w6 ⟨rfl, hb6⟩
        have S6 := Lib.hid (S5.out.drew.on hb6)
        clear hb6 S5 k9 b0 b1 b2 b3 b4 b5 b6 b7 b8 b9 b10 b11
        have k9 : w6.cell? ⟨kb, 9, none⟩ = some (.map (some mi)) := (S6.out.cell 4 rfl).cell 9
        go_wp2_with fail
        refine hK.out _ _ ⟨S6.out, k9⟩ ?_
        clear hK K
        try simp only [Act.put, List.setIfInBounds_toArray, List.set]
        refine wpHeld_nil ?_
        simp only [List.length_cons, List.length_nil, List.drop_succ_cons, List.drop_zero]
        obtain ⟨w7, hu, hm7, hg7, hz7⟩ := MapIs.update mkF Tryz.underlying207 (S6.out.get 3 (o := mpOb okF vF vF mi (linL 0)) rfl) (a := (pA, (1 : Int))) ⟨okS_pA, by decide⟩ (pA, (1 : Int))
        have hu' : (Instr.mapUpdate 207 (.map (some mi)) (.agg #[.string pA, .int .i64 1]) (.agg #[.string pA, .int .i64 1])).run Tryz.prog w6 = .ok () w7 := hu
        have S7a := (S6.out).updMp 3 rfl hm7 hg7
        rw [show setL (linL 0) (pA, (1 : Int)) (pA, (1 : Int)) = linL (0 + 1) by rfl] at S7a
        have S7 : Hid (SW b w0 (mpOb okS kS vE3 me [] :: mpOb okS kS vRw ml (lastL (0 + 1)) :: mpOb okF vF vF mi (linL (0 + 1)) :: cellOb kb 209 (ckC (.slice (some ⟨g, 0, none⟩) m cm) n Ev ml me mi) :: l) w7) := S7a.tail
        clear S7a hu hm7 hg7 hz7
        go_wp2_with fail
        go_roundw
        case rel => exact ⟨0 + 1, by go_num, by omega, S7.out⟩
        case measure => simp [intOf]; omega
      · obtain rfl : ai = 2 := by rw [← HA.out, actI, if_neg (by have := HI.out; omega)]
        have c0 : wr.cell? ⟨g, k * 12, none⟩ = some (.string pA) := hcc 0 (by omega)
        have c1 : wr.cell? ⟨g, k * 12 + 1, none⟩ = some (.int .i64 i) := hcc 1 (by omega)
        have c2 : wr.cell? ⟨g, k * 12 + 2, none⟩ = some (.int .i64 ci) := hcc 2 (by omega)
        have c3 : wr.cell? ⟨g, k * 12 + 3, none⟩ = some (.int .i64 2) := hcc 3 (by omega)
        have c4 : wr.cell? ⟨g, k * 12 + 4, none⟩ = some (.int .i64 1) := hcc 4 (by omega)
        have c5 : wr.cell? ⟨g, k * 12 + 5, none⟩ = some (.bool false) := hcc 5 (by omega)
        have c6 : wr.cell? ⟨g, k * 12 + 6, none⟩ = some (.bool false) := hcc 6 (by omega)
        have c7 : wr.cell? ⟨g, k * 12 + 7, none⟩ = some (.bool false) := hcc 7 (by omega)
        have c8 : wr.cell? ⟨g, k * 12 + 8, none⟩ = some (.int .u64 i) := hcc 8 (by omega)
        have c9 : wr.cell? ⟨g, k * 12 + 9, none⟩ = some (.int .i64 1) := hcc 9 (by omega)
        have c10 : wr.cell? ⟨g, k * 12 + 10, none⟩ = some (.string ⟨#[]⟩) := hcc 10 (by omega)
        have c11 : wr.cell? ⟨g, k * 12 + 11, none⟩ = some (.int .i64 0) := hcc 11 (by omega)
        have S2a := Lib.hid (S1.out.newCell 111 #[.string pA, .int .i64 i, .int .i64 ci, .int .i64 2, .int .i64 1, .bool false, .bool false, .bool false, .int .u64 i, .int .i64 1, .string ⟨#[]⟩, .int .i64 0])
        clear hc hcc
        go_upto_region 5 with fail
        obtain ⟨w2, HW⟩ : ∃ W2, Hid (wr.alloc (.cells #[.string pA, .int .i64 i, .int .i64 ci, .int .i64 2, .int .i64 1, .bool false, .bool false, .bool false, .int .u64 i, .int .i64 1, .string ⟨#[]⟩, .int .i64 0] 111) = W2) := ⟨_, rfl⟩
        obtain ⟨g7, HG⟩ : ∃ g7, Hid (wr.heap.size = g7) := ⟨_, rfl⟩
        rw [HW.out, HG.out] at S2a ⊢
        have S2 : Hid (SW b w0 (cellOb g7 111 #[.string pA, .int .i64 i, .int .i64 ci, .int .i64 2, .int .i64 1, .bool false, .bool false, .bool false, .int .u64 i, .int .i64 1, .string ⟨#[]⟩, .int .i64 0] :: mpOb okS kS vE3 me [] :: mpOb okS kS vRw ml (lastL k) :: mpOb okF vF vF mi (linL k) :: cellOb kb 209 (ckC (.slice (some ⟨g, 0, none⟩) m cm) n Ev ml me mi) :: l) w2) := S2a
        clear HW HG S2a S1 c0 c1 c2 c3 c4 c5 c6 c7 c8 c9 c10 c11
        have hl0 : ∀ W, Below w2.heap.size w2 W → (Instr.lookup 205 (.map (some ml)) (.string pA) true).run Tryz.prog W = .ok (.tuple #[.agg #[.string pA, .int .i64 k, .int .i64 (10 * k), .int .i64 (actI k), .int .i64 1, .bool false, .bool false, .bool false, .int .u64 k, .int .i64 1, .string ⟨#[]⟩, .int .i64 0], .bool true]) W := fun W hW => by
          have := look_R (S2.out.get 2 (o := mpOb okS kS vRw ml (lastL k)) rfl) true W hW
          rw [lastL_asc, if_neg h0] at this
          exact this
        have S3 := Lib.hid (S2.out.newCell 111 #[.string ⟨#[]⟩, .int .i64 0, .int .i64 0, .int .i64 0, .int .i64 0, .bool false, .bool false, .bool false, .int .u64 0, .int .i64 0, .string ⟨#[]⟩, .int .i64 0])
        have c0 : w2.cell? ⟨g7, 0, none⟩ = some (.string pA) := (S2.out.cell 0 rfl).cell 0
        have c1 : w2.cell? ⟨g7, 1, none⟩ = some (.int .i64 i) := (S2.out.cell 0 rfl).cell 1
        have c2 : w2.cell? ⟨g7, 2, none⟩ = some (.int .i64 ci) := (S2.out.cell 0 rfl).cell 2
        have c3 : w2.cell? ⟨g7, 3, none⟩ = some (.int .i64 2) := (S2.out.cell 0 rfl).cell 3
        have c4 : w2.cell? ⟨g7, 4, none⟩ = some (.int .i64 1) := (S2.out.cell 0 rfl).cell 4
        have c5 : w2.cell? ⟨g7, 5, none⟩ = some (.bool false) := (S2.out.cell 0 rfl).cell 5
        have c6 : w2.cell? ⟨g7, 6, none⟩ = some (.bool false) := (S2.out.cell 0 rfl).cell 6
        have c7 : w2.cell? ⟨g7, 7, none⟩ = some (.bool false) := (S2.out.cell 0 rfl).cell 7
        have c8 : w2.cell? ⟨g7, 8, none⟩ = some (.int .u64 i) := (S2.out.cell 0 rfl).cell 8
        have c9 : w2.cell? ⟨g7, 9, none⟩ = some (.int .i64 1) := (S2.out.cell 0 rfl).cell 9
        have c10 : w2.cell? ⟨g7, 10, none⟩ = some (.string ⟨#[]⟩) := (S2.out.cell 0 rfl).cell 10
        have c11 : w2.cell? ⟨g7, 11, none⟩ = some (.int .i64 0) := (S2.out.cell 0 rfl).cell 11
        have b0 : (w2.alloc (.cells #[.string ⟨#[]⟩, .int .i64 0, .int .i64 0, .int .i64 0, .int .i64 0, .bool false, .bool false, .bool false, .int .u64 0, .int .i64 0, .string ⟨#[]⟩, .int .i64 0] (111 : Nat))).cell? ⟨g7, 0, none⟩ = some (.string pA) := (S3.out.cell 1 rfl).cell 0
        have b1 : (w2.alloc (.cells #[.string ⟨#[]⟩, .int .i64 0, .int .i64 0, .int .i64 0, .int .i64 0, .bool false, .bool false, .bool false, .int .u64 0, .int .i64 0, .string ⟨#[]⟩, .int .i64 0] (111 : Nat))).cell? ⟨g7, 1, none⟩ = some (.int .i64 i) := (S3.out.cell 1 rfl).cell 1
        have b2 : (w2.alloc (.cells #[.string ⟨#[]⟩, .int .i64 0, .int .i64 0, .int .i64 0, .int .i64 0, .bool false, .bool false, .bool false, .int .u64 0, .int .i64 0, .string ⟨#[]⟩, .int .i64 0] (111 : Nat))).cell? ⟨g7, 2, none⟩ = some (.int .i64 ci) := (S3.out.cell 1 rfl).cell 2
        have b3 : (w2.alloc (.cells #[.string ⟨#[]⟩, .int .i64 0, .int .i64 0, .int .i64 0, .int .i64 0, .bool false, .bool false, .bool false, .int .u64 0, .int .i64 0, .string ⟨#[]⟩, .int .i64 0] (111 : Nat))).cell? ⟨g7, 3, none⟩ = some (.int .i64 2) := (S3.out.cell 1 rfl).cell 3
        have b4 : (w2.alloc (.cells #[.string ⟨#[]⟩, .int .i64 0, .int .i64 0, .int .i64 0, .int .i64 0, .bool false, .bool false, .bool false, .int .u64 0, .int .i64 0, .string ⟨#[]⟩, .int .i64 0] (111 : Nat))).cell? ⟨g7, 4, none⟩ = some (.int .i64 1) := (S3.out.cell 1 rfl).cell 4
        have b5 : (w2.alloc (.cells #[.string ⟨#[]⟩, .int .i64 0, .int .i64 0, .int .i64 0, .int .i64 0, .bool false, .bool false, .bool false, .int .u64 0, .int .i64 0, .string ⟨#[]⟩, .int .i64 0] (111 : Nat))).cell? ⟨g7, 5, none⟩ = some (.bool false) := (S3.out.cell 1 rfl).cell 5
        have b6 : (w2.alloc (.cells #[.string ⟨#[]⟩, .int .i64 0, .int .i64 0, .int .i64 0, .int .i64 0, .bool false, .bool false, .bool false, .int .u64 0, .int .i64 0, .string ⟨#[]⟩, .int .i64 0] (111 : Nat))).cell? ⟨g7, 6, none⟩ = some (.bool false) := (S3.out.cell 1 rfl).cell 6
        have b7 : (w2.alloc (.cells #[.string ⟨#[]⟩, .int .i64 0, .int .i64 0, .int .i64 0, .int .i64 0, .bool false, .bool false, .bool false, .int .u64 0, .int .i64 0, .string ⟨#[]⟩, .int .i64 0] (111 : Nat))).cell? ⟨g7, 7, none⟩ = some (.bool false) := (S3.out.cell 1 rfl).cell 7
        have b8 : (w2.alloc (.cells #[.string ⟨#[]⟩, .int .i64 0, .int .i64 0, .int .i64 0, .int .i64 0, .bool false, .bool false, .bool false, .int .u64 0, .int .i64 0, .string ⟨#[]⟩, .int .i64 0] (111 : Nat))).cell? ⟨g7, 8, none⟩ = some (.int .u64 i) := (S3.out.cell 1 rfl).cell 8
        have b9 : (w2.alloc (.cells #[.string ⟨#[]⟩, .int .i64 0, .int .i64 0, .int .i64 0, .int .i64 0, .bool false, .bool false, .bool false, .int .u64 0, .int .i64 0, .string ⟨#[]⟩, .int .i64 0] (111 : Nat))).cell? ⟨g7, 9, none⟩ = some (.int .i64 1) := (S3.out.cell 1 rfl).cell 9
        have b10 : (w2.alloc (.cells #[.string ⟨#[]⟩, .int .i64 0, .int .i64 0, .int .i64 0, .int .i64 0, .bool false, .bool false, .bool false, .int .u64 0, .int .i64 0, .string ⟨#[]⟩, .int .i64 0] (111 : Nat))).cell? ⟨g7, 10, none⟩ = some (.string ⟨#[]⟩) := (S3.out.cell 1 rfl).cell 10
        have b11 : (w2.alloc (.cells #[.string ⟨#[]⟩, .int .i64 0, .int .i64 0, .int .i64 0, .int .i64 0, .bool false, .bool false, .bool false, .int .u64 0, .int .i64 0, .string ⟨#[]⟩, .int .i64 0] (111 : Nat))).cell? ⟨g7, 11, none⟩ = some (.int .i64 0) := (S3.out.cell 1 rfl).cell 11
        have d0 : (w2.alloc (.cells #[.string ⟨#[]⟩, .int .i64 0, .int .i64 0, .int .i64 0, .int .i64 0, .bool false, .bool false, .bool false, .int .u64 0, .int .i64 0, .string ⟨#[]⟩, .int .i64 0] (111 : Nat))).cell? ⟨w2.heap.size, 0, none⟩ = some (.string ⟨#[]⟩) := (S3.out.cell 0 rfl).cell 0
        have d1 : (w2.alloc (.cells #[.string ⟨#[]⟩, .int .i64 0, .int .i64 0, .int .i64 0, .int .i64 0, .bool false, .bool false, .bool false, .int .u64 0, .int .i64 0, .string ⟨#[]⟩, .int .i64 0] (111 : Nat))).cell? ⟨w2.heap.size, 1, none⟩ = some (.int .i64 0) := (S3.out.cell 0 rfl).cell 1
        have d2 : (w2.alloc (.cells #[.string ⟨#[]⟩, .int .i64 0, .int .i64 0, .int .i64 0, .int .i64 0, .bool false, .bool false, .bool false, .int .u64 0, .int .i64 0, .string ⟨#[]⟩, .int .i64 0] (111 : Nat))).cell? ⟨w2.heap.size, 2, none⟩ = some (.int .i64 0) := (S3.out.cell 0 rfl).cell 2
        have d3 : (w2.alloc (.cells #[.string ⟨#[]⟩, .int .i64 0, .int .i64 0, .int .i64 0, .int .i64 0, .bool false, .bool false, .bool false, .int .u64 0, .int .i64 0, .string ⟨#[]⟩, .int .i64 0] (111 : Nat))).cell? ⟨w2.heap.size, 3, none⟩ = some (.int .i64 0) := (S3.out.cell 0 rfl).cell 3
        have d4 : (w2.alloc (.cells #[.string ⟨#[]⟩, .int .i64 0, .int .i64 0, .int .i64 0, .int .i64 0, .bool false, .bool false, .bool false, .int .u64 0, .int .i64 0, .string ⟨#[]⟩, .int .i64 0] (111 : Nat))).cell? ⟨w2.heap.size, 4, none⟩ = some (.int .i64 0) := (S3.out.cell 0 rfl).cell 4
        have d5 : (w2.alloc (.cells #[.string ⟨#[]⟩, .int .i64 0, .int .i64 0, .int .i64 0, .int .i64 0, .bool false, .bool false, .bool false, .int .u64 0, .int .i64 0, .string ⟨#[]⟩, .int .i64 0] (111 : Nat))).cell? ⟨w2.heap.size, 5, none⟩ = some (.bool false) := (S3.out.cell 0 rfl).cell 5
        have d6 : (w2.alloc (.cells #[.string ⟨#[]⟩, .int .i64 0, .int .i64 0, .int .i64 0, .int .i64 0, .bool false, .bool false, .bool false, .int .u64 0, .int .i64 0, .string ⟨#[]⟩, .int .i64 0] (111 : Nat))).cell? ⟨w2.heap.size, 6, none⟩ = some (.bool false) := (S3.out.cell 0 rfl).cell 6
        have d7 : (w2.alloc (.cells #[.string ⟨#[]⟩, .int .i64 0, .int .i64 0, .int .i64 0, .int .i64 0, .bool false, .bool false, .bool false, .int .u64 0, .int .i64 0, .string ⟨#[]⟩, .int .i64 0] (111 : Nat))).cell? ⟨w2.heap.size, 7, none⟩ = some (.bool false) := (S3.out.cell 0 rfl).cell 7
        have d8 : (w2.alloc (.cells #[.string ⟨#[]⟩, .int .i64 0, .int .i64 0, .int .i64 0, .int .i64 0, .bool false, .bool false, .bool false, .int .u64 0, .int .i64 0, .string ⟨#[]⟩, .int .i64 0] (111 : Nat))).cell? ⟨w2.heap.size, 8, none⟩ = some (.int .u64 0) := (S3.out.cell 0 rfl).cell 8
        have d9 : (w2.alloc (.cells #[.string ⟨#[]⟩, .int .i64 0, .int .i64 0, .int .i64 0, .int .i64 0, .bool false, .bool false, .bool false, .int .u64 0, .int .i64 0, .string ⟨#[]⟩, .int .i64 0] (111 : Nat))).cell? ⟨w2.heap.size, 9, none⟩ = some (.int .i64 0) := (S3.out.cell 0 rfl).cell 9
        have d10 : (w2.alloc (.cells #[.string ⟨#[]⟩, .int .i64 0, .int .i64 0, .int .i64 0, .int .i64 0, .bool false, .bool false, .bool false, .int .u64 0, .int .i64 0, .string ⟨#[]⟩, .int .i64 0] (111 : Nat))).cell? ⟨w2.heap.size, 10, none⟩ = some (.string ⟨#[]⟩) := (S3.out.cell 0 rfl).cell 10
        have d11 : (w2.alloc (.cells #[.string ⟨#[]⟩, .int .i64 0, .int .i64 0, .int .i64 0, .int .i64 0, .bool false, .bool false, .bool false, .int .u64 0, .int .i64 0, .string ⟨#[]⟩, .int .i64 0] (111 : Nat))).cell? ⟨w2.heap.size, 11, none⟩ = some (.int .i64 0) := (S3.out.cell 0 rfl).cell 11
        have f0 : (w2.alloc (.cells #[.string ⟨#[]⟩, .int .i64 0, .int .i64 0, .int .i64 0, .int .i64 0, .bool false, .bool false, .bool false, .int .u64 0, .int .i64 0, .string ⟨#[]⟩, .int .i64 0] (111 : Nat))).frozen? ⟨w2.heap.size, 0, none⟩ = false := (S3.out.cell 0 rfl).frozen 0
        have f1 : (w2.alloc (.cells #[.string ⟨#[]⟩, .int .i64 0, .int .i64 0, .int .i64 0, .int .i64 0, .bool false, .bool false, .bool false, .int .u64 0, .int .i64 0, .string ⟨#[]⟩, .int .i64 0] (111 : Nat))).frozen? ⟨w2.heap.size, 1, none⟩ = false := (S3.out.cell 0 rfl).frozen 1
        have f2 : (w2.alloc (.cells #[.string ⟨#[]⟩, .int .i64 0, .int .i64 0, .int .i64 0, .int .i64 0, .bool false, .bool false, .bool false, .int .u64 0, .int .i64 0, .string ⟨#[]⟩, .int .i64 0] (111 : Nat))).frozen? ⟨w2.heap.size, 2, none⟩ = false := (S3.out.cell 0 rfl).frozen 2
        have f3 : (w2.alloc (.cells #[.string ⟨#[]⟩, .int .i64 0, .int .i64 0, .int .i64 0, .int .i64 0, .bool false, .bool false, .bool false, .int .u64 0, .int .i64 0, .string ⟨#[]⟩, .int .i64 0] (111 : Nat))).frozen? ⟨w2.heap.size, 3, none⟩ = false := (S3.out.cell 0 rfl).frozen 3
        have f4 : (w2.alloc (.cells #[.string ⟨#[]⟩, .int .i64 0, .int .i64 0, .int .i64 0, .int .i64 0, .bool false, .bool false, .bool false, .int .u64 0, .int .i64 0, .string ⟨#[]⟩, .int .i64 0] (111 : Nat))).frozen? ⟨w2.heap.size, 4, none⟩ = false := (S3.out.cell 0 rfl).frozen 4
        have f5 : (w2.alloc (.cells #[.string ⟨#[]⟩, .int .i64 0, .int .i64 0, .int .i64 0, .int .i64 0, .bool false, .bool false, .bool false, .int .u64 0, .int .i64 0, .string ⟨#[]⟩, .int .i64 0] (111 : Nat))).frozen? ⟨w2.heap.size, 5, none⟩ = false := (S3.out.cell 0 rfl).frozen 5
        have f6 : (w2.alloc (.cells #[.string ⟨#[]⟩, .int .i64 0, .int .i64 0, .int .i64 0, .int .i64 0, .bool false, .bool false, .bool false, .int .u64 0, .int .i64 0, .string ⟨#[]⟩, .int .i64 0] (111 : Nat))).frozen? ⟨w2.heap.size, 6, none⟩ = false := (S3.out.cell 0 rfl).frozen 6
        have f7 : (w2.alloc (.cells #[.string ⟨#[]⟩, .int .i64 0, .int .i64 0, .int .i64 0, .int .i64 0, .bool false, .bool false, .bool false, .int .u64 0, .int .i64 0, .string ⟨#[]⟩, .int .i64 0] (111 : Nat))).frozen? ⟨w2.heap.size, 7, none⟩ = false := (S3.out.cell 0 rfl).frozen 7
        have f8 : (w2.alloc (.cells #[.string ⟨#[]⟩, .int .i64 0, .int .i64 0, .int .i64 0, .int .i64 0, .bool false, .bool false, .bool false, .int .u64 0, .int .i64 0, .string ⟨#[]⟩, .int .i64 0] (111 : Nat))).frozen? ⟨w2.heap.size, 8, none⟩ = false := (S3.out.cell 0 rfl).frozen 8
        have f9 : (w2.alloc (.cells #[.string ⟨#[]⟩, .int .i64 0, .int .i64 0, .int .i64 0, .int .i64 0, .bool false, .bool false, .bool false, .int .u64 0, .int .i64 0, .string ⟨#[]⟩, .int .i64 0] (111 : Nat))).frozen? ⟨w2.heap.size, 9, none⟩ = false := (S3.out.cell 0 rfl).frozen 9
        have f10 : (w2.alloc (.cells #[.string ⟨#[]⟩, .int .i64 0, .int .i64 0, .int .i64 0, .int .i64 0, .bool false, .bool false, .bool false, .int .u64 0, .int .i64 0, .string ⟨#[]⟩, .int .i64 0] (111 : Nat))).frozen? ⟨w2.heap.size, 10, none⟩ = false := (S3.out.cell 0 rfl).frozen 10
        have f11 : (w2.alloc (.cells #[.string ⟨#[]⟩, .int .i64 0, .int .i64 0, .int .i64 0, .int .i64 0, .bool false, .bool false, .bool false, .int .u64 0, .int .i64 0, .string ⟨#[]⟩, .int .i64 0] (111 : Nat))).frozen? ⟨w2.heap.size, 11, none⟩ = false := (S3.out.cell 0 rfl).frozen 11
        have k7 : w2.cell? ⟨kb, 7, none⟩ = some (.map (some ml)) := (S2.out.cell 4 rfl).cell 7
        have k7' : (w2.alloc (.cells #[.string ⟨#[]⟩, .int .i64 0, .int .i64 0, .int .i64 0, .int .i64 0, .bool false, .bool false, .bool false, .int .u64 0, .int .i64 0, .string ⟨#[]⟩, .int .i64 0] (111 : Nat))).cell? ⟨kb, 7, none⟩ = some (.map (some ml)) := (S3.out.cell 5 rfl).cell 7
        have hlk' := hl0 w2.drew (Below.refl _ _).drew
        have hlk := hl0 (w2.alloc (.cells #[.string ⟨#[]⟩, .int .i64 0, .int .i64 0, .int .i64 0, .int .i64 0, .bool false, .bool false, .bool false, .int .u64 0, .int .i64 0, .string ⟨#[]⟩, .int .i64 0] (111 : Nat))).drew ((Below.refl _ _).alloc (Nat.le_refl _) _).drew
        go_wp2_with fail
        go_region
        have S4a := Lib.hid (S2.out.newCell 111 #[.string pA, .int .i64 k, .int .i64 (10 * k), .int .i64 (actI k), .int .i64 1, .bool false, .bool false, .bool false, .int .u64 k, .int .i64 1, .string ⟨#[]⟩, .int .i64 0]).drew
        clear S3 S2 hl0 hlk hlk' k7 k7' b0 b1 b2 b3 b4 b5 b6 b7 b8 b9 b10 b11 c0 c1 c2 c3 c4 c5 c6 c7 c8 c9 c10 c11 d0 d1 d2 d3 d4 d5 d6 d7 d8 d9 d10 d11 f0 f1 f2 f3 f4 f5 f6 f7 f8 f9 f10 f11
        revert S4a
        generalize World.drew _ = w4
        intro S4a
        obtain ⟨g8, HG⟩ : ∃ x, Hid (w2.heap.size = x) := ⟨_, rfl⟩
        rw [HG.out] at S4a ⊢
        have S4 : Hid (SW b w0 (cellOb g8 111 #[.string pA, .int .i64 k, .int .i64 (10 * k), .int .i64 (actI k), .int .i64 1, .bool false, .bool false, .bool false, .int .u64 k, .int .i64 1, .string ⟨#[]⟩, .int .i64 0] :: cellOb g7 111 #[.string pA, .int .i64 i, .int .i64 ci, .int .i64 2, .int .i64 1, .bool false, .bool false, .bool false, .int .u64 i, .int .i64 1, .string ⟨#[]⟩, .int .i64 0] :: mpOb okS kS vE3 me [] :: mpOb okS kS vRw ml (lastL k) :: mpOb okF vF vF mi (linL k) :: cellOb kb 209 (ckC (.slice (some ⟨g, 0, none⟩) m cm) n Ev ml me mi) :: l) w4) := S4a
        clear S4a HG w2
        have c0 : w4.cell? ⟨g7, 0, none⟩ = some (.string pA) := (S4.out.cell 1 rfl).cell 0
        have c1 : w4.cell? ⟨g7, 1, none⟩ = some (.int .i64 i) := (S4.out.cell 1 rfl).cell 1
        have c2 : w4.cell? ⟨g7, 2, none⟩ = some (.int .i64 ci) := (S4.out.cell 1 rfl).cell 2
        have c3 : w4.cell? ⟨g7, 3, none⟩ = some (.int .i64 2) := (S4.out.cell 1 rfl).cell 3
        have c4 : w4.cell? ⟨g7, 4, none⟩ = some (.int .i64 1) := (S4.out.cell 1 rfl).cell 4
        have c5 : w4.cell? ⟨g7, 5, none⟩ = some (.bool false) := (S4.out.cell 1 rfl).cell 5
        have c6 : w4.cell? ⟨g7, 6, none⟩ = some (.bool false) := (S4.out.cell 1 rfl).cell 6
        have c7 : w4.cell? ⟨g7, 7, none⟩ = some (.bool false) := (S4.out.cell 1 rfl).cell 7
        have c8 : w4.cell? ⟨g7, 8, none⟩ = some (.int .u64 i) := (S4.out.cell 1 rfl).cell 8
        have c9 : w4.cell? ⟨g7, 9, none⟩ = some (.int .i64 1) := (S4.out.cell 1 rfl).cell 9
        have c10 : w4.cell? ⟨g7, 10, none⟩ = some (.string ⟨#[]⟩) := (S4.out.cell 1 rfl).cell 10
        have c11 : w4.cell? ⟨g7, 11, none⟩ = some (.int .i64 0) := (S4.out.cell 1 rfl).cell 11
        have p1 : w4.cell? ⟨g8, 1, none⟩ = some (.int .i64 k) := (S4.out.cell 0 rfl).cell 1
        have hgt : decide ((k : Int) < i) = true := decide_eq_true (by have := HI.out; omega)
        have k7 : w4.cell? ⟨kb, 7, none⟩ = some (.map (some ml)) := (S4.out.cell 5 rfl).cell 7
        obtain ⟨w5, hu, hm5, hg5, hz5⟩ := MapIs.update mkS Tryz.underlying205 (S4.out.drew.get 3 (o := mpOb okS kS vRw ml (lastL k)) rfl) okS_pA i
        have hu' : (Instr.mapUpdate 205 (.map (some ml)) (.string pA) (.agg #[.string pA, .int .i64 i, .int .i64 ci, .int .i64 2, .int .i64 1, .bool false, .bool false, .bool false, .int .u64 i, .int .i64 1, .string ⟨#[]⟩, .int .i64 0])).run Tryz.prog w4.drew = .ok () w5 := by
          have e : (.agg #[.string pA, .int .i64 i, .int .i64 ci, .int .i64 2, .int .i64 1, .bool false, .bool false, .bool false, .int .u64 i, .int .i64 1, .string ⟨#[]⟩, .int .i64 0] : Value) = .agg #[.string pA, .int .i64 i, .int .i64 (10 * i), .int .i64 (actI i), .int .i64 1, .bool false, .bool false, .bool false, .int .u64 i, .int .i64 1, .string ⟨#[]⟩, .int .i64 0] := by rw [HA.out, HC.out]
          rw [e]
          exact hu
        have S5a := (S4.out.drew).updMp 3 rfl hm5 hg5
        rw [show setL (lastL k) pA i = lastL (k + 1) by rw [← HI.out]; exact lastL_set k] at S5a
        have S5 : Hid (SW b w0 (cellOb g7 111 #[.string pA, .int .i64 i, .int .i64 ci, .int .i64 2, .int .i64 1, .bool false, .bool false, .bool false, .int .u64 i, .int .i64 1, .string ⟨#[]⟩, .int .i64 0] :: mpOb okS kS vE3 me [] :: mpOb okS kS vRw ml (lastL (k + 1)) :: mpOb okF vF vF mi (linL k) :: cellOb kb 209 (ckC (.slice (some ⟨g, 0, none⟩) m cm) n Ev ml me mi) :: l) w5) := S5a.tail
        clear S5a hu hm5 hg5 hz5
        have b0 : w5.cell? ⟨g7, 0, none⟩ = some (.string pA) := (S5.out.cell 0 rfl).cell 0
        have b1 : w5.cell? ⟨g7, 1, none⟩ = some (.int .i64 i) := (S5.out.cell 0 rfl).cell 1
        have b2 : w5.cell? ⟨g7, 2, none⟩ = some (.int .i64 ci) := (S5.out.cell 0 rfl).cell 2
        have b3 : w5.cell? ⟨g7, 3, none⟩ = some (.int .i64 2) := (S5.out.cell 0 rfl).cell 3
        have b4 : w5.cell? ⟨g7, 4, none⟩ = some (.int .i64 1) := (S5.out.cell 0 rfl).cell 4
        have b5 : w5.cell? ⟨g7, 5, none⟩ = some (.bool false) := (S5.out.cell 0 rfl).cell 5
        have b6 : w5.cell? ⟨g7, 6, none⟩ = some (.bool false) := (S5.out.cell 0 rfl).cell 6
        have b7 : w5.cell? ⟨g7, 7, none⟩ = some (.bool false) := (S5.out.cell 0 rfl).cell 7
        have b8 : w5.cell? ⟨g7, 8, none⟩ = some (.int .u64 i) := (S5.out.cell 0 rfl).cell 8
        have b9 : w5.cell? ⟨g7, 9, none⟩ = some (.int .i64 1) := (S5.out.cell 0 rfl).cell 9
        have b10 : w5.cell? ⟨g7, 10, none⟩ = some (.string ⟨#[]⟩) := (S5.out.cell 0 rfl).cell 10
        have b11 : w5.cell? ⟨g7, 11, none⟩ = some (.int .i64 0) := (S5.out.cell 0 rfl).cell 11
        go_upto_region 7 with fail
        go_region
        clear S4 k7 hu' p1 hgt w4 c0 c1 c2 c3 c4 c5 c6 c7 c8 c9 c10 c11
        have k9 : w5.cell? ⟨kb, 9, none⟩ = some (.map (some mi)) := (S5.out.cell 4 rfl).cell 9
        go_upto_region 9 with fail
        have HOK : Hid (okF (pA, i - 1)) := ⟨okS_pA, wf_small (by have := HI.out; omega) (by have := HI.out; omega)⟩
        have HAS : Hid (asc (linL k) (pA, i - 1) = some (pA, 1)) := by
          have e := linL_asc (j := k) (i := k - 1) (by omega)
          rw [show ((k - 1 : Nat) : Int) + 1 = i - 1 by have := HI.out; omega] at e
          exact e
        refine wp_region_held_tail [(0, true), (1, true), (2, true), (3, true), (4, true), (5, true), (6, true), (7, true), (8, true), (9, true), (10, true), (11, false)] (fun w' => SW b w0 (cellOb g7 111 #[.string pA, .int .i64 i, .int .i64 ci, .int .i64 2, .int .i64 1, .bool false, .bool false, .bool false, .int .u64 i, .int .i64 1, .string ⟨#[]⟩, .int .i64 0] :: mpOb okS kS vE3 me [] :: mpOb okS kS vRw ml (lastL (k + 1)) :: mpOb okF vF vF mi (linL k) :: cellOb kb 209 (ckC (.slice (some ⟨g, 0, none⟩) m cm) n Ev ml me mi) :: l) w' ∧ w'.cell? ⟨kb, 9, none⟩ = some (.map (some mi))) (by kernel_rfl) (fun _ _ d _ _ h => by cases d <;> exact h) (by kernel_rfl) (⟨S5.out.drew, k9⟩) ?_
        simp only [picked, List.map_cons, List.map_nil, List.getD_cons_succ, List.getD_cons_zero]
        (refine wpHeld_take (v := ?_) (Or.inl ⟨by rfl, ?_⟩) ?_
         rotate_left
         · (intro w' hSw; obtain ⟨h1, h9⟩ := hSw; have z0 : w'.cell? ⟨g7, 0, none⟩ = some (.string pA) := (h1.cell 0 rfl).cell 0; have z1 : w'.cell? ⟨g7, 1, none⟩ = some (.int .i64 i) := (h1.cell 0 rfl).cell 1; have z2 : w'.cell? ⟨g7, 2, none⟩ = some (.int .i64 ci) := (h1.cell 0 rfl).cell 2; have z3 : w'.cell? ⟨g7, 3, none⟩ = some (.int .i64 2) := (h1.cell 0 rfl).cell 3; have z4 : w'.cell? ⟨g7, 4, none⟩ = some (.int .i64 1) := (h1.cell 0 rfl).cell 4; have z5 : w'.cell? ⟨g7, 5, none⟩ = some (.bool false) := (h1.cell 0 rfl).cell 5; have z6 : w'.cell? ⟨g7, 6, none⟩ = some (.bool false) := (h1.cell 0 rfl).cell 6; have z7 : w'.cell? ⟨g7, 7, none⟩ = some (.bool false) := (h1.cell 0 rfl).cell 7; have z8 : w'.cell? ⟨g7, 8, none⟩ = some (.int .u64 i) := (h1.cell 0 rfl).cell 8; have z9 : w'.cell? ⟨g7, 9, none⟩ = some (.int .i64 1) := (h1.cell 0 rfl).cell 9; have z10 : w'.cell? ⟨g7, 10, none⟩ = some (.string ⟨#[]⟩) := (h1.cell 0 rfl).cell 10; have z11 : w'.cell? ⟨g7, 11, none⟩ = some (.int .i64 0) := (h1.cell 0 rfl).cell 11; go_simp; try with_reducible rfl)
         try simp only [Act.put, List.setIfInBounds_toArray, List.set])
        (refine wpHeld_take (v := ?_) (Or.inl ⟨by rfl, ?_⟩) ?_
         rotate_left
         · (intro w' hSw; obtain ⟨h1, h9⟩ := hSw; have z0 : w'.cell? ⟨g7, 0, none⟩ = some (.string pA) := (h1.cell 0 rfl).cell 0; have z1 : w'.cell? ⟨g7, 1, none⟩ = some (.int .i64 i) := (h1.cell 0 rfl).cell 1; have z2 : w'.cell? ⟨g7, 2, none⟩ = some (.int .i64 ci) := (h1.cell 0 rfl).cell 2; have z3 : w'.cell? ⟨g7, 3, none⟩ = some (.int .i64 2) := (h1.cell 0 rfl).cell 3; have z4 : w'.cell? ⟨g7, 4, none⟩ = some (.int .i64 1) := (h1.cell 0 rfl).cell 4; have z5 : w'.cell? ⟨g7, 5, none⟩ = some (.bool false) := (h1.cell 0 rfl).cell 5; have z6 : w'.cell? ⟨g7, 6, none⟩ = some (.bool false) := (h1.cell 0 rfl).cell 6; have z7 : w'.cell? ⟨g7, 7, none⟩ = some (.bool false) := (h1.cell 0 rfl).cell 7; have z8 : w'.cell? ⟨g7, 8, none⟩ = some (.int .u64 i) := (h1.cell 0 rfl).cell 8; have z9 : w'.cell? ⟨g7, 9, none⟩ = some (.int .i64 1) := (h1.cell 0 rfl).cell 9; have z10 : w'.cell? ⟨g7, 10, none⟩ = some (.string ⟨#[]⟩) := (h1.cell 0 rfl).cell 10; have z11 : w'.cell? ⟨g7, 11, none⟩ = some (.int .i64 0) := (h1.cell 0 rfl).cell 11; go_simp; try with_reducible rfl)
         try simp only [Act.put, List.setIfInBounds_toArray, List.set])
        (refine wpHeld_take (v := ?_) (Or.inl ⟨by rfl, ?_⟩) ?_
         rotate_left
         · (intro w' hSw; obtain ⟨h1, h9⟩ := hSw; have z0 : w'.cell? ⟨g7, 0, none⟩ = some (.string pA) := (h1.cell 0 rfl).cell 0; have z1 : w'.cell? ⟨g7, 1, none⟩ = some (.int .i64 i) := (h1.cell 0 rfl).cell 1; have z2 : w'.cell? ⟨g7, 2, none⟩ = some (.int .i64 ci) := (h1.cell 0 rfl).cell 2; have z3 : w'.cell? ⟨g7, 3, none⟩ = some (.int .i64 2) := (h1.cell 0 rfl).cell 3; have z4 : w'.cell? ⟨g7, 4, none⟩ = some (.int .i64 1) := (h1.cell 0 rfl).cell 4; have z5 : w'.cell? ⟨g7, 5, none⟩ = some (.bool false) := (h1.cell 0 rfl).cell 5; have z6 : w'.cell? ⟨g7, 6, none⟩ = some (.bool false) := (h1.cell 0 rfl).cell 6; have z7 : w'.cell? ⟨g7, 7, none⟩ = some (.bool false) := (h1.cell 0 rfl).cell 7; have z8 : w'.cell? ⟨g7, 8, none⟩ = some (.int .u64 i) := (h1.cell 0 rfl).cell 8; have z9 : w'.cell? ⟨g7, 9, none⟩ = some (.int .i64 1) := (h1.cell 0 rfl).cell 9; have z10 : w'.cell? ⟨g7, 10, none⟩ = some (.string ⟨#[]⟩) := (h1.cell 0 rfl).cell 10; have z11 : w'.cell? ⟨g7, 11, none⟩ = some (.int .i64 0) := (h1.cell 0 rfl).cell 11; go_simp; try with_reducible rfl)
         try simp only [Act.put, List.setIfInBounds_toArray, List.set])
        (refine wpHeld_take (v := ?_) (Or.inl ⟨by rfl, ?_⟩) ?_
         rotate_left
         · (intro w' hSw; obtain ⟨h1, h9⟩ := hSw; have z0 : w'.cell? ⟨g7, 0, none⟩ = some (.string pA) := (h1.cell 0 rfl).cell 0; have z1 : w'.cell? ⟨g7, 1, none⟩ = some (.int .i64 i) := (h1.cell 0 rfl).cell 1; have z2 : w'.cell? ⟨g7, 2, none⟩ = some (.int .i64 ci) := (h1.cell 0 rfl).cell 2; have z3 : w'.cell? ⟨g7, 3, none⟩ = some (.int .i64 2) := (h1.cell 0 rfl).cell 3; have z4 : w'.cell? ⟨g7, 4, none⟩ = some (.int .i64 1) := (h1.cell 0 rfl).cell 4; have z5 : w'.cell? ⟨g7, 5, none⟩ = some (.bool false) := (h1.cell 0 rfl).cell 5; have z6 : w'.cell? ⟨g7, 6, none⟩ = some (.bool false) := (h1.cell 0 rfl).cell 6; have z7 : w'.cell? ⟨g7, 7, none⟩ = some (.bool false) := (h1.cell 0 rfl).cell 7; have z8 : w'.cell? ⟨g7, 8, none⟩ = some (.int .u64 i) := (h1.cell 0 rfl).cell 8; have z9 : w'.cell? ⟨g7, 9, none⟩ = some (.int .i64 1) := (h1.cell 0 rfl).cell 9; have z10 : w'.cell? ⟨g7, 10, none⟩ = some (.string ⟨#[]⟩) := (h1.cell 0 rfl).cell 10; have z11 : w'.cell? ⟨g7, 11, none⟩ = some (.int .i64 0) := (h1.cell 0 rfl).cell 11; go_simp; try with_reducible rfl)
         try simp only [Act.put, List.setIfInBounds_toArray, List.set])
        (refine wpHeld_take (v := ?_) (Or.inl ⟨by rfl, ?_⟩) ?_
         rotate_left
         · (intro w' hSw; obtain ⟨h1, h9⟩ := hSw; have z0 : w'.cell? ⟨g7, 0, none⟩ = some (.string pA) := (h1.cell 0 rfl).cell 0; have z1 : w'.cell? ⟨g7, 1, none⟩ = some (.int .i64 i) := (h1.cell 0 rfl).cell 1; have z2 : w'.cell? ⟨g7, 2, none⟩ = some (.int .i64 ci) := (h1.cell 0 rfl).cell 2; have z3 : w'.cell? ⟨g7, 3, none⟩ = some (.int .i64 2) := (h1.cell 0 rfl).cell 3; have z4 : w'.cell? ⟨g7, 4, none⟩ = some (.int .i64 1) := (h1.cell 0 rfl).cell 4; have z5 : w'.cell? ⟨g7, 5, none⟩ = some (.bool false) := (h1.cell 0 rfl).cell 5; have z6 : w'.cell? ⟨g7, 6, none⟩ = some (.bool false) := (h1.cell 0 rfl).cell 6; have z7 : w'.cell? ⟨g7, 7, none⟩ = some (.bool false) := (h1.cell 0 rfl).cell 7; have z8 : w'.cell? ⟨g7, 8, none⟩ = some (.int .u64 i) := (h1.cell 0 rfl).cell 8; have z9 : w'.cell? ⟨g7, 9, none⟩ = some (.int .i64 1) := (h1.cell 0 rfl).cell 9; have z10 : w'.cell? ⟨g7, 10, none⟩ = some (.string ⟨#[]⟩) := (h1.cell 0 rfl).cell 10; have z11 : w'.cell? ⟨g7, 11, none⟩ = some (.int .i64 0) := (h1.cell 0 rfl).cell 11; go_simp; try with_reducible rfl)
         try simp only [Act.put, List.setIfInBounds_toArray, List.set])
        (refine wpHeld_take (v := ?_) (Or.inl ⟨by rfl, ?_⟩) ?_
         rotate_left
         · (intro w' hSw; obtain ⟨h1, h9⟩ := hSw; have z0 : w'.cell? ⟨g7, 0, none⟩ = some (.string pA) := (h1.cell 0 rfl).cell 0; have z1 : w'.cell? ⟨g7, 1, none⟩ = some (.int .i64 i) := (h1.cell 0 rfl).cell 1; have z2 : w'.cell? ⟨g7, 2, none⟩ = some (.int .i64 ci) := (h1.cell 0 rfl).cell 2; have z3 : w'.cell? ⟨g7, 3, none⟩ = some (.int .i64 2) := (h1.cell 0 rfl).cell 3; have z4 : w'.cell? ⟨g7, 4, none⟩ = some (.int .i64 1) := (h1.cell 0 rfl).cell 4; have z5 : w'.cell? ⟨g7, 5, none⟩ = some (.bool false) := (h1.cell 0 rfl).cell 5; have z6 : w'.cell? ⟨g7, 6, none⟩ = some (.bool false) := (h1.cell 0 rfl).cell 6; have z7 : w'.cell? ⟨g7, 7, none⟩ = some (.bool false) := (h1.cell 0 rfl).cell 7; have z8 : w'.cell? ⟨g7, 8, none⟩ = some (.int .u64 i) := (h1.cell 0 rfl).cell 8; have z9 : w'.cell? ⟨g7, 9, none⟩ = some (.int .i64 1) := (h1.cell 0 rfl).cell 9; have z10 : w'.cell? ⟨g7, 10, none⟩ = some (.string ⟨#[]⟩) := (h1.cell 0 rfl).cell 10; have z11 : w'.cell? ⟨g7, 11, none⟩ = some (.int .i64 0) := (h1.cell 0 rfl).cell 11; go_simp; try with_reducible rfl)
         try simp only [Act.put, List.setIfInBounds_toArray, List.set])
        (refine wpHeld_take (v := ?_) (Or.inl ⟨by rfl, ?_⟩) ?_
         rotate_left
         · (intro w' hSw; obtain ⟨h1, h9⟩ := hSw; have z0 : w'.cell? ⟨g7, 0, none⟩ = some (.string pA) := (h1.cell 0 rfl).cell 0; have z1 : w'.cell? ⟨g7, 1, none⟩ = some (.int .i64 i) := (h1.cell 0 rfl).cell 1; have z2 : w'.cell? ⟨g7, 2, none⟩ = some (.int .i64 ci) := (h1.cell 0 rfl).cell 2; have z3 : w'.cell? ⟨g7, 3, none⟩ = some (.int .i64 2) := (h1.cell 0 rfl).cell 3; have z4 : w'.cell? ⟨g7, 4, none⟩ = some (.int .i64 1) := (h1.cell 0 rfl).cell 4; have z5 : w'.cell? ⟨g7, 5, none⟩ = some (.bool false) := (h1.cell 0 rfl).cell 5; have z6 : w'.cell? ⟨g7, 6, none⟩ = some (.bool false) := (h1.cell 0 rfl).cell 6; have z7 : w'.cell? ⟨g7, 7, none⟩ = some (.bool false) := (h1.cell 0 rfl).cell 7; have z8 : w'.cell? ⟨g7, 8, none⟩ = some (.int .u64 i) := (h1.cell 0 rfl).cell 8; have z9 : w'.cell? ⟨g7, 9, none⟩ = some (.int .i64 1) := (h1.cell 0 rfl).cell 9; have z10 : w'.cell? ⟨g7, 10, none⟩ = some (.string ⟨#[]⟩) := (h1.cell 0 rfl).cell 10; have z11 : w'.cell? ⟨g7, 11, none⟩ = some (.int .i64 0) := (h1.cell 0 rfl).cell 11; go_simp; try with_reducible rfl)
         try simp only [Act.put, List.setIfInBounds_toArray, List.set])
        (refine wpHeld_take (v := ?_) (Or.inl ⟨by rfl, ?_⟩) ?_
         rotate_left
         · (intro w' hSw; obtain ⟨h1, h9⟩ := hSw; have z0 : w'.cell? ⟨g7, 0, none⟩ = some (.string pA) := (h1.cell 0 rfl).cell 0; have z1 : w'.cell? ⟨g7, 1, none⟩ = some (.int .i64 i) := (h1.cell 0 rfl).cell 1; have z2 : w'.cell? ⟨g7, 2, none⟩ = some (.int .i64 ci) := (h1.cell 0 rfl).cell 2; have z3 : w'.cell? ⟨g7, 3, none⟩ = some (.int .i64 2) := (h1.cell 0 rfl).cell 3; have z4 : w'.cell? ⟨g7, 4, none⟩ = some (.int .i64 1) := (h1.cell 0 rfl).cell 4; have z5 : w'.cell? ⟨g7, 5, none⟩ = some (.bool false) := (h1.cell 0 rfl).cell 5; have z6 : w'.cell? ⟨g7, 6, none⟩ = some (.bool false) := (h1.cell 0 rfl).cell 6; have z7 : w'.cell? ⟨g7, 7, none⟩ = some (.bool false) := (h1.cell 0 rfl).cell 7; have z8 : w'.cell? ⟨g7, 8, none⟩ = some (.int .u64 i) := (h1.cell 0 rfl).cell 8; have z9 : w'.cell? ⟨g7, 9, none⟩ = some (.int .i64 1) := (h1.cell 0 rfl).cell 9; have z10 : w'.cell? ⟨g7, 10, none⟩ = some (.string ⟨#[]⟩) := (h1.cell 0 rfl).cell 10; have z11 : w'.cell? ⟨g7, 11, none⟩ = some (.int .i64 0) := (h1.cell 0 rfl).cell 11; go_simp; try with_reducible rfl)
         try simp only [Act.put, List.setIfInBounds_toArray, List.set])
        (refine wpHeld_take (v := ?_) (Or.inl ⟨by rfl, ?_⟩) ?_
         rotate_left
         · (intro w' hSw; obtain ⟨h1, h9⟩ := hSw; have z0 : w'.cell? ⟨g7, 0, none⟩ = some (.string pA) := (h1.cell 0 rfl).cell 0; have z1 : w'.cell? ⟨g7, 1, none⟩ = some (.int .i64 i) := (h1.cell 0 rfl).cell 1; have z2 : w'.cell? ⟨g7, 2, none⟩ = some (.int .i64 ci) := (h1.cell 0 rfl).cell 2; have z3 : w'.cell? ⟨g7, 3, none⟩ = some (.int .i64 2) := (h1.cell 0 rfl).cell 3; have z4 : w'.cell? ⟨g7, 4, none⟩ = some (.int .i64 1) := (h1.cell 0 rfl).cell 4; have z5 : w'.cell? ⟨g7, 5, none⟩ = some (.bool false) := (h1.cell 0 rfl).cell 5; have z6 : w'.cell? ⟨g7, 6, none⟩ = some (.bool false) := (h1.cell 0 rfl).cell 6; have z7 : w'.cell? ⟨g7, 7, none⟩ = some (.bool false) := (h1.cell 0 rfl).cell 7; have z8 : w'.cell? ⟨g7, 8, none⟩ = some (.int .u64 i) := (h1.cell 0 rfl).cell 8; have z9 : w'.cell? ⟨g7, 9, none⟩ = some (.int .i64 1) := (h1.cell 0 rfl).cell 9; have z10 : w'.cell? ⟨g7, 10, none⟩ = some (.string ⟨#[]⟩) := (h1.cell 0 rfl).cell 10; have z11 : w'.cell? ⟨g7, 11, none⟩ = some (.int .i64 0) := (h1.cell 0 rfl).cell 11; go_simp; try with_reducible rfl)
         try simp only [Act.put, List.setIfInBounds_toArray, List.set])
        (refine wpHeld_take (v := ?_) (Or.inl ⟨by rfl, ?_⟩) ?_
         rotate_left
         · (intro w' hSw; obtain ⟨h1, h9⟩ := hSw; have z0 : w'.cell? ⟨g7, 0, none⟩ = some (.string pA) := (h1.cell 0 rfl).cell 0; have z1 : w'.cell? ⟨g7, 1, none⟩ = some (.int .i64 i) := (h1.cell 0 rfl).cell 1; have z2 : w'.cell? ⟨g7, 2, none⟩ = some (.int .i64 ci) := (h1.cell 0 rfl).cell 2; have z3 : w'.cell? ⟨g7, 3, none⟩ = some (.int .i64 2) := (h1.cell 0 rfl).cell 3; have z4 : w'.cell? ⟨g7, 4, none⟩ = some (.int .i64 1) := (h1.cell 0 rfl).cell 4; have z5 : w'.cell? ⟨g7, 5, none⟩ = some (.bool false) := (h1.cell 0 rfl).cell 5; have z6 : w'.cell? ⟨g7, 6, none⟩ = some (.bool false) := (h1.cell 0 rfl).cell 6; have z7 : w'.cell? ⟨g7, 7, none⟩ = some (.bool false) := (h1.cell 0 rfl).cell 7; have z8 : w'.cell? ⟨g7, 8, none⟩ = some (.int .u64 i) := (h1.cell 0 rfl).cell 8; have z9 : w'.cell? ⟨g7, 9, none⟩ = some (.int .i64 1) := (h1.cell 0 rfl).cell 9; have z10 : w'.cell? ⟨g7, 10, none⟩ = some (.string ⟨#[]⟩) := (h1.cell 0 rfl).cell 10; have z11 : w'.cell? ⟨g7, 11, none⟩ = some (.int .i64 0) := (h1.cell 0 rfl).cell 11; go_simp; try with_reducible rfl)
         try simp only [Act.put, List.setIfInBounds_toArray, List.set])
        (refine wpHeld_take (v := ?_) (Or.inl ⟨by rfl, ?_⟩) ?_
         rotate_left
         · (intro w' hSw; obtain ⟨h1, h9⟩ := hSw; have z0 : w'.cell? ⟨g7, 0, none⟩ = some (.string pA) := (h1.cell 0 rfl).cell 0; have z1 : w'.cell? ⟨g7, 1, none⟩ = some (.int .i64 i) := (h1.cell 0 rfl).cell 1; have z2 : w'.cell? ⟨g7, 2, none⟩ = some (.int .i64 ci) := (h1.cell 0 rfl).cell 2; have z3 : w'.cell? ⟨g7, 3, none⟩ = some (.int .i64 2) := (h1.cell 0 rfl).cell 3; have z4 : w'.cell? ⟨g7, 4, none⟩ = some (.int .i64 1) := (h1.cell 0 rfl).cell 4; have z5 : w'.cell? ⟨g7, 5, none⟩ = some (.bool false) := (h1.cell 0 rfl).cell 5; have z6 : w'.cell? ⟨g7, 6, none⟩ = some (.bool false) := (h1.cell 0 rfl).cell 6; have z7 : w'.cell? ⟨g7, 7, none⟩ = some (.bool false) := (h1.cell 0 rfl).cell 7; have z8 : w'.cell? ⟨g7, 8, none⟩ = some (.int .u64 i) := (h1.cell 0 rfl).cell 8; have z9 : w'.cell? ⟨g7, 9, none⟩ = some (.int .i64 1) := (h1.cell 0 rfl).cell 9; have z10 : w'.cell? ⟨g7, 10, none⟩ = some (.string ⟨#[]⟩) := (h1.cell 0 rfl).cell 10; have z11 : w'.cell? ⟨g7, 11, none⟩ = some (.int .i64 0) := (h1.cell 0 rfl).cell 11; go_simp; try with_reducible rfl)
         try simp only [Act.put, List.setIfInBounds_toArray, List.set])
        refine wpHeld_run (fun K hK => ?_)
        go_simp
        go_at_call 131
        refine (lineOf_editH S5.out.drew (Rv := .slice (some ⟨g, 0, none⟩) m cm) (List.mem_cons_of_mem _ (List.mem_cons_of_mem _ (List.mem_cons_of_mem _ (List.mem_cons_of_mem _ (List.mem_cons_self ..))))) (List.mem_cons_of_mem _ (List.mem_cons_of_mem _ (List.mem_cons_of_mem _ (List.mem_cons_self ..)))) HOK.out HAS.out (by have := HI.out; omega) (by have := HI.out; omega)).mono ?_
        rintro e w6 ⟨rfl, hb6⟩
        have S6 := Lib.hid (S5.out.drew.on hb6)
        clear hb6 S5 k9 b0 b1 b2 b3 b4 b5 b6 b7 b8 b9 b10 b11
        have k9 : w6.cell? ⟨kb, 9, none⟩ = some (.map (some mi)) := (S6.out.cell 4 rfl).cell 9
        go_wp2_with fail
        refine hK.out _ _ ⟨S6.out, k9⟩ ?_
        clear hK K
        try simp only [Act.put, List.setIfInBounds_toArray, List.set]
        refine wpHeld_nil ?_
        simp only [List.length_cons, List.length_nil, List.drop_succ_cons, List.drop_zero]
        obtain ⟨w7, hu, hm7, hg7, hz7⟩ := MapIs.update mkF Tryz.underlying207 (S6.out.get 3 (o := mpOb okF vF vF mi (linL k)) rfl) (a := (pA, i)) ⟨okS_pA, wf_small (by have := HI.out; omega) (by have := HI.out; omega)⟩ (pA, (1 : Int))
        have hu' : (Instr.mapUpdate 207 (.map (some mi)) (.agg #[.string pA, .int .i64 i]) (.agg #[.string pA, .int .i64 1])).run Tryz.prog w6 = .ok () w7 := hu
        have S7a := (S6.out).updMp 3 rfl hm7 hg7
        rw [show setL (linL k) (pA, i) (pA, (1 : Int)) = linL (k + 1) by rw [← HI.out]; exact linL_set k] at S7a
        have S7 : Hid (SW b w0 (mpOb okS kS vE3 me [] :: mpOb okS kS vRw ml (lastL (k + 1)) :: mpOb okF vF vF mi (linL (k + 1)) :: cellOb kb 209 (ckC (.slice (some ⟨g, 0, none⟩) m cm) n Ev ml me mi) :: l) w7) := S7a.tail
        clear S7a hu hm7 hg7 hz7
        go_wp2_with fail
        go_roundw
        case rel => exact ⟨k + 1, by go_num, by omega, S7.out⟩
        case measure => simp [intOf]; omega
    · obtain rfl : k = m := by omega
      go_wp2_with fail
      go_ret
      exact ⟨kb, ml, me, mi, rfl, S1.out⟩
end
end Go.Proofs.YtmiknfneeipkeaaGreat
