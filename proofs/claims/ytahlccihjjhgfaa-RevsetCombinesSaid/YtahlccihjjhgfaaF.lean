/- Contracts: Has. -/
import Derived.Test.YtahlccihjjhgfaaC
import Derived.Test.YtahlccihjjhgfaaShelf
import Derived.Test.YtahlccihjjhgfaaPE
namespace Go.Proofs.Ytahlccihjjhgfaa
open Go.RowKit Go.Shelf

/-- A number is in a range. -/
def inR (n : Int) (x : Int × Int) : Bool := decide (x.1 ≤ n ∧ n ≤ x.2)

set_option maxHeartbeats 400000 in
theorem closure39 (n : Int) (B : Nat) (x y : Int) (W : World) (hB : B < W.heap.size) (hc : W.cell? ⟨B, 0, none⟩ = some (.int .i64 n)) :
    Calls Try.prog 39 #[.agg #[.int .i64 x, .int .i64 y], .pointer (some ⟨B, 0, none⟩)] W fun e w' => e = .returned (.bool (inR n (x, y))) ∧ Below W.heap.size W w' := by
  have hne : B ≠ W.heap.size := by omega
  by_cases h1 : x ≤ n
  · by_cases h2 : n ≤ y
    · have Hs : Hid (inR n (x, y) = true) := by simp [inR, h1, h2, Hid]
      go_enter Try.func39, Try.ntmps39
      go_wp2
      go_ret
      rw [Hs.out]
      exact ⟨rfl, (Below.refl _ _).alloc (Nat.le_refl _) _⟩
    · have Hs : Hid (inR n (x, y) = false) := by simp [inR, h2, Hid]
      go_enter Try.func39, Try.ntmps39
      go_wp2
      go_ret
      rw [Hs.out]
      exact ⟨rfl, (Below.refl _ _).alloc (Nat.le_refl _) _⟩
  · have Hs : Hid (inR n (x, y) = false) := by simp [inR, h1, Hid]
    go_enter Try.func39, Try.ntmps39
    go_wp2
    go_ret
    rw [Hs.out]
    exact ⟨rfl, (Below.refl _ _).alloc (Nat.le_refl _) _⟩

theorem pred39 (n : Int) (B : Nat) (w : World) (hB : B < w.heap.size) (hcell : w.cell? ⟨B, 0, none⟩ = some (.int .i64 n)) :
    PredBelow Try.prog 39 #[.pointer (some ⟨B, 0, none⟩)] (fun x => .agg (encR x).toArray) (inR n) w := fun W x hb => by
  have hc : W.cell? ⟨B, 0, none⟩ = some (.int .i64 n) := (hb.cell (p := ⟨B, 0, none⟩) hB).trans hcell
  exact (closure39 n B x.1 x.2 W (Nat.lt_of_lt_of_le hB hb.size) hc).mono fun _ _ ⟨he, h⟩ => ⟨he, hb.trans (h.mono hb.size)⟩

set_option maxHeartbeats 400000 in
theorem index_none (A : Option Addr) (c B : Nat) (w : World) :
    Calls Try.prog 49 #[.slice A 0 c, .func (.func 39) #[] #[.pointer (some ⟨B, 0, none⟩)]] w fun e w' => e = .returned (.int .i64 (-1)) ∧ w = w' := by
  go_enter Try.func49, Try.ntmps49
  go_wp2
  refine wp_loop_rounds 1 ?_
  rw [rounds_succ]
  go_wp2
  go_ret
  exact ⟨rfl, rfl⟩
set_option maxHeartbeats 400000 in
theorem contains_none (A : Option Addr) (c B : Nat) (w : World) :
    Calls Try.prog 38 #[.slice A 0 c, .func (.func 39) #[] #[.pointer (some ⟨B, 0, none⟩)]] w fun e w' => e = .returned (.bool false) ∧ Below w.heap.size w w' := by
  go_enter Try.func38, Try.ntmps38
  go_wp2_with (go_at_call 49; refine (index_none _ _ _ _).mono ?_; rintro e w' ⟨rfl, rfl⟩)
  go_ret
  exact ⟨rfl, Below.refl _ _⟩

theorem contains_any (A : Option Addr) (c : Nat) (xs : RL) (n : Int) (B : Nat) (w : World) (hr : RdR w w.heap.size A xs) (hn : xs.length ≤ 4294967296) (hB : B < w.heap.size) (hcell : w.cell? ⟨B, 0, none⟩ = some (.int .i64 n)) :
    Calls Try.prog 38 #[.slice A xs.length c, .func (.func 39) #[] #[.pointer (some ⟨B, 0, none⟩)]] w fun e w' => e = .returned (.bool (xs.any (inR n))) ∧ Below w.heap.size w w' := by
  by_cases h0 : 0 < xs.length
  · obtain ⟨b, o, rfl, hb, hc⟩ := hr h0
    have eg : ∀ args w, (callFunc 39 args).run Try.prog w = .ok (.enter 39 args) w := enters_of Try.func39 (by kernel_rfl) rfl
    have hcon := AnyQ.slices_ContainsFunc Try.lay38 2 Try.isAgg29 Try.sizeOf29 encR (fun _ => rfl) (inR n) 39 #[.pointer (some ⟨B, 0, none⟩)] eg b o xs.length c xs w (pred39 n B w hB hcell) (Nat.le_refl _) (by omega) hb
      (fun j hj i v hi => by
        have h1 := hc j hj
        have e : xs[j]! = xs.getD j (0, 0) := by rw [List.getD_eq_getElem?_getD, List.getElem?_eq_getElem hj, getElem!_pos xs j hj]; rfl
        rw [e] at hi
        generalize xs.getD j (0, 0) = y at hi h1
        match i, hi with
        | 0, hi => simp [encR] at hi; rw [← hi]; exact h1.1
        | 1, hi => simp [encR] at hi; rw [← hi]; exact h1.2
        | i + 2, hi => simp [encR] at hi)
    rw [List.take_length] at hcon
    exact hcon
  · have : xs = [] := List.eq_nil_of_length_eq_zero (by omega)
    subst this
    exact contains_none A c B w

theorem RdR.alloc {w : World} {A : Option Addr} {xs : RL} (h : RdR w w.heap.size A xs) (o : Obj) : RdR (w.alloc o) (w.alloc o).heap.size A xs :=
  (h.keep fun b o' hb => World.cell?_alloc_lt w o ⟨b, o', none⟩ hb).more (by simp)
theorem RdR.on {w w' : World} {A : Option Addr} {xs : RL} (h : RdR w w.heap.size A xs) (hb : Below w.heap.size w w') : RdR w' w'.heap.size A xs := (h.below hb).more hb.size

set_option maxHeartbeats 1000000 in
theorem Has_ok (A : Option Addr) (c : Nat) (xs : RL) (n : Int) (w : World) (hr : RdR w w.heap.size A xs) (hn : xs.length ≤ 4294967296) (h : checkB xs = true) :
    Calls Try.prog 18 #[.slice A xs.length c, .int .i64 n] w fun e w' => e = .returned (.bool (xs.any (inR n))) ∧ Below w.heap.size w w' := by
  have Hr := Lib.hid hr
  have H := Lib.hid h
  clear hr h
  generalize hv : xs.any (inR n) = v
  have Hv := Lib.hid hv
  clear hv
  go_enter Try.func18, Try.ntmps18
  go_wp2_with (go_at_call 15; refine (Check_ok _ _ xs _ (Hr.out.alloc _) hn H.out).mono ?_; rintro e w1 ⟨rfl, hb1⟩)
  have hb1' : Below (w.heap.size + 1) (w.alloc (.cells #[.int .i64 n] 3)) w1 := by simpa using hb1
  have hs1 := hb1'.size
  simp at hs1
  refine (contains_any _ _ xs n w.heap.size w1 ((Hr.out.alloc _).on hb1) hn (by omega) (by rw [hb1'.cell (p := ⟨w.heap.size, 0, none⟩) (by simp)]; simp)).mono ?_
  rintro e w2 ⟨rfl, hb2⟩
  go_wp2
  go_ret
  rw [Hv.out]
  exact ⟨rfl, (((Below.refl _ _).alloc (Nat.le_refl _) _).trans (hb1'.mono (by omega))).trans (hb2.mono (by omega))⟩

set_option maxHeartbeats 1000000 in
theorem Has_no (A : Option Addr) (c : Nat) (xs : RL) (n : Int) (w : World) (hr : RdR w w.heap.size A xs) (hn : xs.length ≤ 4294967296) (h : checkB xs = false) :
    Calls Try.prog 18 #[.slice A xs.length c, .int .i64 n] w fun e w' => e = .returned (.bool false) ∧ Below w.heap.size w w' := by
  have Hr := Lib.hid hr
  have H := Lib.hid h
  clear hr h
  go_enter Try.func18, Try.ntmps18
  go_wp2_with (go_at_call 15; refine (Check_no _ _ xs _ (Hr.out.alloc _) hn H.out).mono ?_; rintro e w1 ⟨rfl, hb1⟩)
  go_ret
  exact ⟨rfl, ((Below.refl _ _).alloc (Nat.le_refl _) _).trans (hb1.mono (by simp))⟩
end Go.Proofs.Ytahlccihjjhgfaa
