/- Contracts: plain, name, loss. -/
import Derived.Test.YtddjkkmdcdiofaaTB
namespace Go.Proofs.Ytddjkkmdcdiofaa
open Go.RowKit Go.MapKept Go.ChangeMaps

abbrev nC : ByteArray := ⟨#[99]⟩
abbrev nD : ByteArray := ⟨#[100]⟩
def NAMES : List ByteArray := [⟨#[97]⟩, ⟨#[98]⟩, ⟨#[99]⟩, ⟨#[97, 46, 49]⟩, ⟨#[]⟩, ⟨#[65]⟩, ⟨#[97, 47, 98]⟩]
theorem names_ok : ∀ n ∈ NAMES, okS n := by
  intro n hn
  simp only [NAMES, List.mem_cons, List.not_mem_nil, or_false] at hn
  rcases hn with rfl | rfl | rfl | rfl | rfl | rfl | rfl <;> simp [okS, maxLen, ByteArray.size]
/-- A name from the tape. -/
def NameT (P : ByteArray → Prop) (k x N : Nat) (w : World) (e : Ending) (w' : World) : Prop := ∃ nm, P nm ∧ e = .returned (.string nm) ∧ Tp w' x (N + k) ∧ w.grownBy w' (some x)
theorem row7 (r : Nat) (h : r < 7) : (#[Value.string ⟨#[97]⟩, .string ⟨#[98]⟩, .string ⟨#[99]⟩, .string ⟨#[97, 46, 49]⟩, .string ⟨#[]⟩, .string ⟨#[65]⟩, .string ⟨#[97, 47, 98]⟩] : Array Value)[r]? = some (.string (NAMES.getD r ⟨#[]⟩)) := by
  match r, h with
  | 0, _ => rfl
  | 1, _ => rfl
  | 2, _ => rfl
  | 3, _ => rfl
  | 4, _ => rfl
  | 5, _ => rfl
  | 6, _ => rfl
theorem names_mem (r : Nat) : NAMES.getD r ⟨#[]⟩ ∈ NAMES := by
  by_cases h : r < NAMES.length
  · rw [List.getD_eq_getElem?_getD, List.getElem?_eq_getElem h]
    exact List.getElem_mem h
  · rw [List.getD_eq_getElem?_getD, List.getElem?_eq_none (by omega)]
    simp [NAMES]
set_option maxRecDepth 100000 in
set_option maxHeartbeats 4000000 in
theorem name_any (x N : Nat) (w : World) (hN : N ≤ 900000) (ht : Tp w x N) : Calls Try.prog 42 #[.pointer (some ⟨x, 0, none⟩)] w (NameT (· ∈ NAMES) 2 x N w) := by
  have Ht := Lib.hid (ht.alloc (.cells #[.string ⟨#[97]⟩, .string ⟨#[98]⟩, .string ⟨#[99]⟩, .string ⟨#[97, 46, 49]⟩, .string ⟨#[]⟩, .string ⟨#[65]⟩, .string ⟨#[97, 47, 98]⟩] 9))
  have hxl := ht.lt
  have HI : Hid (IsB (w.alloc (.cells #[.string ⟨#[97]⟩, .string ⟨#[98]⟩, .string ⟨#[99]⟩, .string ⟨#[97, 46, 49]⟩, .string ⟨#[]⟩, .string ⟨#[65]⟩, .string ⟨#[97, 47, 98]⟩] 9)) w.heap.size 9 #[.string ⟨#[97]⟩, .string ⟨#[98]⟩, .string ⟨#[99]⟩, .string ⟨#[97, 46, 49]⟩, .string ⟨#[]⟩, .string ⟨#[65]⟩, .string ⟨#[97, 47, 98]⟩]) := IsB.new _ _ _
  clear ht
  go_enter Try.func42, Try.ntmps42
  go_wp2_with fail
  refine (Next_any 4 x N _ (by omega) (by omega) Ht.out).mono ?_
  rintro e w1 ⟨y, hy, rfl, ht1, hg1⟩
  have I1 := Lib.hid (HI.out.grown hg1 (fun e => by injection e with e; omega))
  have T1 := Lib.hid ht1
  have G1 : Hid (w.grownBy w1 (some x)) := g_trans (World.grownBy_alloc _ _ _) hg1
  obtain ⟨a, rfl⟩ : ∃ a : Nat, y = (a : Int) := ⟨y.toNat, by have := hy.1; omega⟩
  have ha : a < 4 := by have := hy.2.1 (by omega); omega
  clear ht1 hg1 hy
  go_wp2_with fail
  refine (Next_any 12 x (N + 1) _ (by omega) (by omega) T1.out).mono ?_
  rintro e w2 ⟨y, hy, rfl, ht2, hg2⟩
  have I2 := Lib.hid (I1.out.grown hg2 (fun e => by injection e with e; omega))
  have T2 := Lib.hid ht2
  have G2 : Hid (w.grownBy w2 (some x)) := g_trans G1.out hg2
  obtain ⟨b, rfl⟩ : ∃ b : Nat, y = (b : Int) := ⟨y.toNat, by have := hy.1; omega⟩
  have hb : b < 12 := by have := hy.2.1 (by omega); omega
  clear ht2 hg2 hy
  by_cases h11 : b = 11
  · subst h11
    have q : w2.cell? ⟨w.heap.size, a + 3, none⟩ = some (.string (NAMES.getD (a + 3) ⟨#[]⟩)) := by rw [I2.out.cell]; exact row7 _ (by omega)
    have hi : ((a : Int) + 3).toNat = a + 3 := by omega
    have hi0 : 0 ≤ (a : Int) + 3 := by omega
    have hi1 : (a : Int) + 3 < 7 := by omega
    go_wp2_with fail
    go_ret
    exact ⟨_, names_mem (a + 3), rfl, T2.out, G2.out⟩
  · have hd : ((b : Int)) / 11 = 0 := by omega
    have q : w2.cell? ⟨w.heap.size, a, none⟩ = some (.string (NAMES.getD a ⟨#[]⟩)) := by rw [I2.out.cell]; exact row7 _ (by omega)
    have hi1 : (a : Int) < 7 := by omega
    go_wp2_with fail
    go_ret
    exact ⟨_, names_mem a, rfl, T2.out, G2.out⟩
def PLAIN (n : ByteArray) : Prop := ∃ c : UInt8, 97 ≤ c.toNat ∧ c.toNat ≤ 100 ∧ n = ⟨#[c]⟩
theorem plain_ok {n : ByteArray} (h : PLAIN n) : okS n ∧ nameB n = true := by
  obtain ⟨c, h1, h2, rfl⟩ := h
  refine ⟨by simp [okS, maxLen, ByteArray.size], ?_⟩
  have : okU ((c.toNat : Nat) : Int) = true := by simp [okU]; omega
  simp [nameB, okL, this, ByteArray.size]
set_option maxRecDepth 100000 in
set_option maxHeartbeats 4000000 in
theorem plain_any (x N : Nat) (w : World) (hN : N ≤ 900000) (ht : Tp w x N) : Calls Try.prog 24 #[.pointer (some ⟨x, 0, none⟩)] w (NameT PLAIN 1 x N w) := by
  have Ht := Lib.hid ht
  clear ht
  go_enter Try.func24, Try.ntmps24
  go_wp2_with fail
  refine (Next_any 4 x N _ (by omega) (by omega) Ht.out).mono ?_
  rintro e w1 ⟨y, hy, rfl, ht1, hg1⟩
  have T1 := Lib.hid ht1
  have G1 := Lib.hid hg1
  have hy0 := hy.1
  have hy1 := hy.2.1 (by omega)
  have hyw : IntKind.u8.wrap (97 + y) = 97 + y := IntWalk.u8_in _ (by omega)
  obtain ⟨c, hc⟩ : ∃ c : UInt8, ((c.toNat : Nat) : Int) = 97 + y := ⟨UInt8.ofNat (97 + y).toNat, by rw [UInt8.toNat_ofNat']; omega⟩
  have HP : Hid (PLAIN ⟨#[c]⟩) := ⟨c, by omega, by omega, rfl⟩
  have hcv := conv_str (sb_const w1 _ rfl [c] (0, 0)) 1
  have hcv' : (convert 22 9 (.slice (some ⟨w1.heap.size, 0, none⟩) 1 1)).run Try.prog (w1.alloc (.cells #[.int .u8 (97 + y)] 5)) = .ok (.string ⟨#[c]⟩) (w1.alloc (.cells #[.int .u8 (97 + y)] 5)) := by rw [← hc]; exact hcv
  clear ht1 hg1 hy hcv hc
  go_wp2_with fail
  go_ret
  exact ⟨_, HP.out, rfl, T1.out.alloc _, g_alloc G1.out _⟩
/-- A loss from the tape. -/
def LossT (x N : Nat) (w : World) (e : Ending) (w' : World) : Prop := ∃ k t : Int, (-1 ≤ k ∧ k ≤ 6) ∧ (-1 ≤ t ∧ t ≤ 6) ∧ e = .returned (.agg #[.int .i64 k, .int .i64 t]) ∧ Tp w' x (N + 2) ∧ w.grownBy w' (some x)
set_option maxRecDepth 100000 in
set_option maxHeartbeats 4000000 in
theorem loss_any (x N : Nat) (w : World) (hN : N ≤ 900000) (ht : Tp w x N) : Calls Try.prog 31 #[.pointer (some ⟨x, 0, none⟩)] w (LossT x N w) := by
  have Ht := Lib.hid (ht.alloc (.cells #[.int .i64 0, .int .i64 0] 32))
  have hxl := ht.lt
  have HI : Hid (IsB (w.alloc (.cells #[.int .i64 0, .int .i64 0] 32)) w.heap.size 32 #[.int .i64 0, .int .i64 0]) := IsB.new _ _ _
  clear ht
  go_enter Try.func31, Try.ntmps31
  go_wp2_with fail
  refine (Next_any 8 x N _ (by omega) (by omega) Ht.out).mono ?_
  rintro e w1 ⟨y, hy, rfl, ht1, hg1⟩
  have I1 := Lib.hid (HI.out.grown hg1 (fun e => by injection e with e; omega))
  have T1 := Lib.hid ht1
  have G1 : Hid (w.grownBy w1 (some x)) := g_trans (World.grownBy_alloc _ _ _) hg1
  have hy0 := hy.1
  have hy1 := hy.2.1 (by omega)
  clear ht1 hg1 hy
  go_wp2_with fail
  refine (Next_any 8 x (N + 1) _ (by omega) (by omega) T1.out).mono ?_
  rintro e w2 ⟨z, hz, rfl, ht2, hg2⟩
  have I2 := Lib.hid (I1.out.grown hg2 (fun e => by injection e with e; omega))
  have T2 := Lib.hid ht2
  have G2 : Hid (w.grownBy w2 (some x)) := g_trans G1.out hg2
  have hz0 := hz.1
  have hz1 := hz.2.1 (by omega)
  clear ht2 hg2 hz
  have q0 : w2.cell? ⟨w.heap.size, 0, none⟩ = some (.int .i64 0) := I2.out.cell 0
  have q1 : w2.cell? ⟨w.heap.size, 1, none⟩ = some (.int .i64 0) := I2.out.cell 1
  have f0 : w2.frozen? ⟨w.heap.size, 0, none⟩ = false := I2.out.frozen 0
  have f1 : w2.frozen? ⟨w.heap.size, 1, none⟩ = false := I2.out.frozen 1
  go_wp2_with fail
  refine bodyPost_ret (v := .agg #[.int .i64 (y - 1), .int .i64 (z - 1)]) ?_ rfl ⟨y - 1, z - 1, ⟨by omega, by omega⟩, ⟨by omega, by omega⟩, rfl, ?_, ?_⟩
  · have c0 : ((w2.setCell ⟨w.heap.size, 0, none⟩ (.int .i64 (y - 1))).setCell ⟨w.heap.size, 1, none⟩ (.int .i64 (z - 1))).cell? ⟨w.heap.size, 0, none⟩ = some (.int .i64 (y - 1)) := (((I2.out.set_ 0 _).set_ 1 _).cell 0).trans rfl
    have c1 : ((w2.setCell ⟨w.heap.size, 0, none⟩ (.int .i64 (y - 1))).setCell ⟨w.heap.size, 1, none⟩ (.int .i64 (z - 1))).cell? ⟨w.heap.size, 1, none⟩ = some (.int .i64 (z - 1)) := (((I2.out.set_ 0 _).set_ 1 _).cell 1).trans rfl
    simp [results, Try.results31, go_sem, c0, c1]
  · exact (T2.out.set_ (p := ⟨w.heap.size, 0, none⟩) hxl _).set_ (p := ⟨w.heap.size, 1, none⟩) hxl _
  · exact g_set (p := ⟨w.heap.size, 1, none⟩) (g_set (p := ⟨w.heap.size, 0, none⟩) G2.out (.inr (Nat.le_refl _)) _) (.inr (Nat.le_refl _)) _
end Go.Proofs.Ytddjkkmdcdiofaa
