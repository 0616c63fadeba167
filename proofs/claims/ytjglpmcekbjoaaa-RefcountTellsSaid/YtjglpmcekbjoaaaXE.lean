/- Contracts: known. -/
import Derived.Test.YtjglpmcekbjoaaaXD
namespace Go.Proofs.Ytjglpmcekbjoaaa
open Go.RowKit Go.MapKept Go.ChangeMaps
attribute [local go_sem] wext_cell

def kA : List CT := [((1, 1), 2), ((2, 1), 1)]
def kB : List CT := [((1, 1), 1), ((2, 1), 0)]
def kM : Man := ⟨3, [(1, 1), (2, 1), (1, 1)]⟩
def kN : Man := ⟨2, [(2, 1), (1, 1)]⟩
theorem k1 : ofP [kM] = (kA, 0) := by decide
theorem k2 : relP kA kN = (kB, 0) := by decide
theorem k3 : deadP kB = [(2, 1)] := by decide
theorem kM_ok : ∀ m ∈ [kM], ∀ i ∈ m.ids, okID i := by
  intro m hm i hi
  simp at hm
  subst hm
  simp [kM] at hi
  rcases hi with rfl | rfl | rfl <;> exact okID_of (by omega)
theorem kN_ok : ∀ i ∈ kN.ids, okID i := by
  intro i hi
  simp [kN] at hi
  rcases hi with rfl | rfl <;> exact okID_of (by omega)
theorem kA_ok : ∀ c ∈ kA, okID c.1 := by
  intro c hc
  simp [kA] at hc
  rcases hc with rfl | rfl <;> exact okID_of (by omega)
/-- A block that holds a list, whole. -/
theorem Rd.lit {α : Type} {enc : α → List Value} {k : Nat} {d : α} {W : World} {x g : Nat} {t : TypeId} {cs : Array Value} {xs : List α} (hk : ∀ y, (enc y).length = k) (hg : IsB W g t cs) (hc : cs.toList = xs.flatMap enc) (hx : g ≠ x) : Rd enc k d W x (some ⟨g, 0, none⟩) xs := by
  intro _
  refine ⟨g, 0, rfl, hg.lt, hx, fun j hj i v hi => ?_⟩
  have hik : i < k := by
    have := (List.getElem?_eq_some_iff.1 hi).1
    rwa [hk] at this
  rw [hg.cell, Nat.zero_add, ← Array.getElem?_toList, hc, flat_at hk d xs j i hj hik]
  exact hi

theorem kSame {x : Nat} {W : World} {A B : Option Addr} {c d : Nat} (ha : RdC W x A kA) (hb : RdC W x B kA) : Calls Try.prog 16 #[.slice A 2 c, .slice B 2 d] W (Gives (.bool true) W) := Same_any x x kA kA A B c d W ha hb (by decide) (by decide)
def DeadK (x : Nat) (w : World) (e : Ending) (w' : World) : Prop := ∃ (A : Option Addr) (c : Nat), e = .returned (.slice A 1 c) ∧ RdID w' x A [(2, 1)] ∧ Below w.heap.size w w'
theorem kDead {x : Nat} {W : World} {A : Option Addr} {c : Nat} (ha : RdC W x A kB) (hx : x < W.heap.size) : Calls Try.prog 19 #[.slice A 2 c] W (DeadK x W) :=
  (Dead_any x kB A c W ha hx (by decide)).mono fun e w' h => by
    rw [k3] at h
    obtain ⟨A4, c4, he, h⟩ := h
    exact ⟨A4, c4, he, h⟩
theorem kIDs {x : Nat} {W : World} {A B : Option Addr} {c d : Nat} (ha : RdID W x A [(2, 1)]) (hb : RdID W x B [(2, 1)]) : Calls Try.prog 30 #[.slice A 1 c, .slice B 1 d] W (Gives (.bool true) W) := SameIDs_any x x [(2, 1)] [(2, 1)] A B c d W ha hb (by decide) (by decide)

theorem rd21 {W : World} {x g : Nat} (h : IsB W g 43 #[.int .u64 2, .int .i64 1]) (hx : g ≠ x) : RdID W x (some ⟨g, 0, none⟩) [(2, 1)] := Rd.lit encID_len h rfl hx
set_option maxRecDepth 100000 in
set_option maxHeartbeats 8000000 in
theorem known_any (x : Nat) (w : World) (hx : x < w.heap.size) : Calls Try.prog 15 #[] w (Gives (.bool true) w) := by
  go_enter Try.func15, Try.ntmps15
  go_wp2_with fail
  refine (Of_any x [kM] _ _ _ (rdm_one (m := kM) (newAt _ _ _ _ (by simp)) (Rd.lit encID_len ((newAt _ _ _ _ (by simp)).alloc _) rfl (by omega)) (by decide) (by omega)) (by simp; omega) (by simp) (by simp [kM]) kM_ok).mono ?_
  intro e w1 h1
  rw [k1] at h1
  obtain ⟨A1, c1, he, hr1, hc1, hb1⟩ := h1
  have he' : e = .returned (.tuple #[.slice A1 2 c1, .int .i64 0]) := he
  subst he'
  have Hr1 : Hid (RdC w1 x A1 kA) := hr1
  have Ba : Hid (IsB w1 w.heap.size 43 #[.int .u64 1, .int .i64 1]) := ((((IsB.new w _ _).alloc _).alloc _).alloc _).on hb1
  have Bb : Hid (IsB w1 (w.heap.size + 1) 43 #[.int .u64 2, .int .i64 1]) := (((newAt _ _ _ _ (by simp)).alloc _).alloc _).on hb1
  have Hb1 : Hid (Below w.heap.size w w1) := (((((Below.refl _ w).alloc (Nat.le_refl _) _).alloc (by simp) _).alloc (by simp; omega) _).alloc (by simp; omega) _).trans (hb1.mono (by simp; omega))
  clear hr1 hb1 he
  have hs1 := Hb1.out.size
  have l1 := Bb.out.lt
  have a0 : w1.cell? ⟨w.heap.size, 0, none⟩ = some (.int .u64 1) := by rw [Ba.out.cell]; rfl
  have a1 : w1.cell? ⟨w.heap.size, 1, none⟩ = some (.int .i64 1) := by rw [Ba.out.cell]; rfl
  have b0 : w1.cell? ⟨w.heap.size + 1, 0, none⟩ = some (.int .u64 2) := by rw [Bb.out.cell]; rfl
  have b1 : w1.cell? ⟨w.heap.size + 1, 1, none⟩ = some (.int .i64 1) := by rw [Bb.out.cell]; rfl
  go_wp2_with fail
  refine (Release_any x kA A1 c1 kN (some ⟨w1.heap.size, 0, none⟩) 2 _ (Hr1.out.alloc _) (Rd.lit encID_len (newAt _ _ _ _ rfl) rfl (by omega)) (by decide) (by simp; omega) (by decide) (by decide) kN_ok kA_ok).mono ?_
  intro e w2 h2
  rw [k2] at h2
  obtain ⟨A2, c2, he, hr2, hc2, hb2⟩ := h2
  have he' : e = .returned (.tuple #[.slice A2 2 c2, .int .i64 0]) := he
  subst he'
  have Hr2 : Hid (RdC w2 x A2 kB) := hr2
  have Hr12 : Hid (RdC w2 x A1 kA) := (Hr1.out.alloc _).on hb2
  have Ba2 : Hid (IsB w2 w.heap.size 43 #[.int .u64 1, .int .i64 1]) := (Ba.out.alloc _).on hb2
  have Bb2 : Hid (IsB w2 (w.heap.size + 1) 43 #[.int .u64 2, .int .i64 1]) := (Bb.out.alloc _).on hb2
  have Hb2 : Hid (Below w.heap.size w w2) := (Hb1.out.alloc Hb1.out.size _).trans (hb2.mono (by simp; omega))
  clear hr2 hb2 he a0 a1 b0 b1
  have hs2 := Hb2.out.size
  have l2 := Bb2.out.lt
  have a0 : w2.cell? ⟨w.heap.size, 0, none⟩ = some (.int .u64 1) := by rw [Ba2.out.cell]; rfl
  have a1 : w2.cell? ⟨w.heap.size, 1, none⟩ = some (.int .i64 1) := by rw [Ba2.out.cell]; rfl
  have b0 : w2.cell? ⟨w.heap.size + 1, 0, none⟩ = some (.int .u64 2) := by rw [Bb2.out.cell]; rfl
  have b1 : w2.cell? ⟨w.heap.size + 1, 1, none⟩ = some (.int .i64 1) := by rw [Bb2.out.cell]; rfl
  have R1 : Hid (RdC (w2.alloc (.cells #[.int .u64 1, .int .i64 1, .int .i64 2, .int .u64 2, .int .i64 1, .int .i64 1] 66)).drew x A1 kA) := Hr12.out.alloc _
  have R2 : Hid (RdC (w2.alloc (.cells #[.int .u64 1, .int .i64 1, .int .i64 2, .int .u64 2, .int .i64 1, .int .i64 1] 66)).drew x (some ⟨w2.heap.size, 0, none⟩) kA) := Rd.drewN (Rd.lit encC_len (newAt w2 66 #[.int .u64 1, .int .i64 1, .int .i64 2, .int .u64 2, .int .i64 1, .int .i64 1] _ rfl) rfl (by omega)) 1
  go_wp2_with fail
  go_region_held3 (fun w' => w'.cell? ⟨w.heap.size, 0, none⟩ = some (.int .u64 1) ∧ w'.cell? ⟨w.heap.size, 1, none⟩ = some (.int .i64 1) ∧ w'.cell? ⟨w.heap.size + 1, 0, none⟩ = some (.int .u64 2) ∧ w'.cell? ⟨w.heap.size + 1, 1, none⟩ = some (.int .i64 1))
    (first | go_keep | (exact ⟨by rw [Ka.out.cell]; rfl, by rw [Ka.out.cell]; rfl, by rw [Kb.out.cell]; rfl, by rw [Kb.out.cell]; rfl⟩))
    (first
      | (go_at_call 16; (with_reducible refine (kSame (x := x) (W := (w2.alloc (.cells #[.int .u64 1, .int .i64 1, .int .i64 2, .int .u64 2, .int .i64 1, .int .i64 1] 66)).drew) (A := A1) (B := some ⟨w2.heap.size, 0, none⟩) R1.out R2.out).mono ?_); rintro e w3 ⟨rfl, hb3'⟩; have hb3 := of_drew hb3'; have Hr23 : Hid (RdC w3 x A2 kB) := (Hr2.out.alloc _).on hb3; have Ka : Hid (IsB w3 w.heap.size 43 #[.int .u64 1, .int .i64 1]) := (Ba2.out.alloc _).on hb3; have Kb : Hid (IsB w3 (w.heap.size + 1) 43 #[.int .u64 2, .int .i64 1]) := (Bb2.out.alloc _).on hb3; have Hb3 : Hid (Below w.heap.size w w3) := (Hb2.out.alloc Hb2.out.size _).trans (hb3.mono (by simp; omega)); have hs3 := Hb3.out.size; have l3 := Kb.out.lt; clear hb3 hb3')
      | (go_at_call 19; (with_reducible refine (kDead (x := x) (W := w3) (A := A2) Hr23.out (by omega)).mono ?_); rintro e w4 ⟨A4, c4, rfl, hr4, hb4⟩; have Hr4 := Lib.hid hr4; have Ka3 := Ka; have Kb3 := Kb; have Ka : Hid (IsB w4 w.heap.size 43 #[.int .u64 1, .int .i64 1]) := Ka3.out.on hb4; have Kb : Hid (IsB w4 (w.heap.size + 1) 43 #[.int .u64 2, .int .i64 1]) := Kb3.out.on hb4; have Hb4 : Hid (Below w.heap.size w w4) := Hb3.out.trans (hb4.mono hs3); have hs4 := Hb4.out.size; clear hr4 hb4)
      | (go_at_call 19; (with_reducible refine (kDead (x := x) (W := w3.alloc (.cells #[.int .u64 2, .int .i64 1] 43)) (A := A2) (Hr23.out.alloc _) (by simp; omega)).mono ?_); rintro e w4 ⟨A4, c4, rfl, hr4, hb4⟩; have Hr4 := Lib.hid hr4; have Ka3 := Ka; have Kb3 := Kb; have Ka : Hid (IsB w4 w.heap.size 43 #[.int .u64 1, .int .i64 1]) := (Ka3.out.alloc _).on hb4; have Kb : Hid (IsB w4 (w.heap.size + 1) 43 #[.int .u64 2, .int .i64 1]) := (Kb3.out.alloc _).on hb4; have Kc : Hid (IsB w4 w3.heap.size 43 #[.int .u64 2, .int .i64 1]) := (IsB.new w3 _ _).on hb4; have Hb4 : Hid (Below w.heap.size w w4) := (Hb3.out.alloc Hb3.out.size _).trans (hb4.mono (by simp; omega)); have hs4 := Hb4.out.size; clear hr4 hb4)
      | (go_at_call 30; (with_reducible refine (kIDs (x := x) (W := w4.alloc (.cells #[.int .u64 2, .int .i64 1] 43)) (A := A4) (B := some ⟨w4.heap.size, 0, none⟩) (Hr4.out.alloc _) (rd21 (newAt w4 _ _ _ rfl) (by omega))).mono ?_); rintro e w5 ⟨rfl, hb5⟩; have Ka4 := Ka; have Kb4 := Kb; have Ka : Hid (IsB w5 w.heap.size 43 #[.int .u64 1, .int .i64 1]) := (Ka4.out.alloc _).on hb5; have Kb : Hid (IsB w5 (w.heap.size + 1) 43 #[.int .u64 2, .int .i64 1]) := (Kb4.out.alloc _).on hb5; have Hb5 : Hid (Below w.heap.size w w5) := (Hb4.out.alloc Hb4.out.size _).trans (hb5.mono (by simp; omega)); clear hb5)
      | (go_at_call 30; (with_reducible refine (kIDs (x := x) (W := w4) (A := A4) (B := some ⟨w3.heap.size, 0, none⟩) Hr4.out (rd21 Kc.out (by omega))).mono ?_); rintro e w5 ⟨rfl, hb5⟩; have Ka4 := Ka; have Kb4 := Kb; have Ka : Hid (IsB w5 w.heap.size 43 #[.int .u64 1, .int .i64 1]) := Ka4.out.on hb5; have Kb : Hid (IsB w5 (w.heap.size + 1) 43 #[.int .u64 2, .int .i64 1]) := Kb4.out.on hb5; have Hb5 : Hid (Below w.heap.size w w5) := Hb4.out.trans (hb5.mono hs4); clear hb5))
  all_goals (
    go_wp2_with fail
    go_ret
    exact ⟨rfl, Hb5.out⟩)
end Go.Proofs.Ytjglpmcekbjoaaa
