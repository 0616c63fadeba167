/- Contracts: Fold, Tape.Next. -/
import Derived.Test.YtddjkkmdcdiofaaProg
import Derived.Test.YtddjkkmdcdiofaaRB
import Derived.WalkKit
import Derived.WalkSpells
import Derived.WalkLawsBesides
import Derived.Deep.QuietTactic
import Derived.BigQuiet
import Derived.Lib.Hide
namespace Go.Proofs.Ytddjkkmdcdiofaa
open Go.RowKit

/-- A number from 0 to n - 1; 0 if n is below 2. -/
def InN (n r : Int) : Prop := 0 ≤ r ∧ (1 < n → r < n) ∧ (n ≤ 1 → r = 0)
def SomeI (P : Int → Prop) (w : World) (e : Ending) (w' : World) : Prop := ∃ r, P r ∧ e = .returned (.int .i64 r) ∧ w = w'

theorem tmod_lt' (v n : Int) (h : 0 < n) : v.tmod n < n := Int.tmod_lt_of_pos v h
theorem tmod_gt' (v n : Int) (h : 0 < n) : -n < v.tmod n := by
  have := Int.tmod_lt_of_pos (-v) h
  rw [Int.neg_tmod] at this
  omega

set_option maxHeartbeats 400000 in
theorem Fold_any (v n : Int) (w : World) (hn : n ≤ 4294967296) : Calls Try.prog 21 #[.int .i64 v, .int .i64 n] w (SomeI (InN n) w) := by
  by_cases h1 : n ≤ 1
  · go_enter Try.func21, Try.ntmps21
    go_wp2
    go_ret
    exact ⟨0, ⟨by omega, by omega, fun _ => rfl⟩, rfl, rfl⟩
  · have t1 := tmod_lt' v n (by omega)
    have t2 := tmod_gt' v n (by omega)
    obtain ⟨t, ht⟩ : ∃ t, v.tmod n = t := ⟨_, rfl⟩
    rw [ht] at t1 t2
    have hn0 : (n == 0) = false := by rw [beq_eq_false_iff_ne]; omega
    have hnm : (n == -1) = false := by rw [beq_eq_false_iff_ne]; omega
    by_cases h2 : t < 0
    · go_enter Try.func21, Try.ntmps21
      go_wp2
      go_ret
      exact ⟨t + n, ⟨by omega, by omega, fun h => absurd h (by omega)⟩, rfl, rfl⟩
    · go_enter Try.func21, Try.ntmps21
      go_wp2
      go_ret
      exact ⟨t, ⟨by omega, by omega, fun h => absurd h (by omega)⟩, rfl, rfl⟩

/-- The tape's list of numbers, in a block ahead of x. -/
def RdT (w : World) (x : Nat) (A : Option Addr) (L : List Int) : Prop :=
  0 < L.length → ∃ b o, A = some ⟨b, o, none⟩ ∧ b < x ∧ ∀ j, j < L.length → w.cell? ⟨b, o + j, none⟩ = some (.int .i64 (L.getD j 0))
/-- Block x is a tape of which at most N numbers have been read. -/
def Tp (w : World) (x N : Nat) : Prop :=
  ∃ (A : Option Addr) (c at' : Nat) (L : List Int), IsB w x 39 #[.slice A L.length c, .int .i64 at'] ∧ at' ≤ N ∧ L.length ≤ 9223372036854775807 ∧ RdT w x A L
theorem Tp.lt {w : World} {x N : Nat} (h : Tp w x N) : x < w.heap.size := by
  obtain ⟨A, c, a, L, hb, _⟩ := h
  exact hb.lt
theorem RdT.keep {w w' : World} {x : Nat} {A : Option Addr} {L : List Int} (h : RdT w x A L) (hk : ∀ b o, b < x → w'.cell? ⟨b, o, none⟩ = w.cell? ⟨b, o, none⟩) : RdT w' x A L := by
  intro hp
  obtain ⟨b, o, e, hb, hc⟩ := h hp
  exact ⟨b, o, e, hb, fun j hj => by rw [hk _ _ hb]; exact hc j hj⟩
theorem Tp.kept {w w' : World} {x N : Nat} {row : Option Nat} (h : Tp w x N) (hg : w.grownBy w' row) (hr : ∀ k, row = some k → x < k) : Tp w' x N := by
  obtain ⟨A, c, a, L, h1, h2, h3, h4⟩ := h
  have hlt := h1.lt
  refine ⟨A, c, a, L, h1.grown hg (fun e => by have := hr x e.symm; omega), h2, h3, h4.keep fun b o hb => World.cell?_of_block (hg.block b (by omega) (fun e => by have := hr b e.symm; omega))⟩
theorem Tp.on {w w' : World} {x N : Nat} (h : Tp w x N) (hb : Below w.heap.size w w') : Tp w' x N := h.kept (only_of_below hb none) (by simp)
theorem Tp.alloc {w : World} {x N : Nat} (h : Tp w x N) (o : Obj) : Tp (w.alloc o) x N := h.on ((Below.refl _ _).alloc (Nat.le_refl _) o)
theorem Tp.drewN {w : World} {x N : Nat} (h : Tp w x N) (n : Nat) : Tp (w.drewN n) x N := h
theorem Tp.set_ {w : World} {x N : Nat} (h : Tp w x N) {p : Addr} (hp : x < p.block) (u : Value) : Tp (w.setCell p u) x N :=
  h.kept (row := some p.block) (g_set (g_refl _ _) (.inl rfl) _) (fun k hk => by injection hk with hk; omega)
theorem Tp.more {w : World} {x N M : Nat} (h : Tp w x N) (hN : N ≤ M) : Tp w x M := by
  obtain ⟨A, c, a, L, h1, h2, h3⟩ := h
  exact ⟨A, c, a, L, h1, by omega, h3⟩

def NextPost (n : Int) (x N : Nat) (w : World) (e : Ending) (w' : World) : Prop :=
  ∃ r, InN n r ∧ e = .returned (.int .i64 r) ∧ Tp w' x (N + 1) ∧ w.grownBy w' (some x)

theorem Tp.next {w : World} {x : Nat} {A : Option Addr} {c at' N n : Nat} {L : List Int} (h1 : IsB w x 39 #[.slice A L.length c, .int .i64 at']) (h2 : at' ≤ N) (h3 : L.length ≤ 9223372036854775807) (h4 : RdT w x A L) :
    Tp ((w.setCell ⟨x, 1, none⟩ (.int .i64 ((at' : Int) + 1))).drewN n) x (N + 1) ∧ w.grownBy ((w.setCell ⟨x, 1, none⟩ (.int .i64 ((at' : Int) + 1))).drewN n) (some x) := by
  have hg : w.grownBy ((w.setCell ⟨x, 1, none⟩ (.int .i64 ((at' : Int) + 1))).drewN n) (some x) := g_drewN (g_set (g_refl _ _) (.inl rfl) _) n
  refine ⟨⟨A, c, at' + 1, L, ?_, by omega, h3, h4.keep fun b o hb => g_cell hg (by have := h1.lt; omega) (by omega)⟩, hg⟩
  have := (h1.set_ 1 (.int .i64 ((at' : Int) + 1))).drewN n
  simpa using this

set_option maxHeartbeats 1000000 in
theorem Next_any (n : Int) (x N : Nat) (w : World) (hn : n ≤ 4294967296) (hN : N ≤ 1000000) (ht : Tp w x N) :
    Calls Try.prog 23 #[.pointer (some ⟨x, 0, none⟩), .int .i64 n] w (NextPost n x N w) := by
  obtain ⟨A, c, at', L, h1, h2, h3, h4⟩ := ht
  have hc0 : w.cell? ⟨x, 0, none⟩ = some (.slice A L.length c) := by rw [h1.cell]; rfl
  have hc1 : w.cell? ⟨x, 1, none⟩ = some (.int .i64 at') := by rw [h1.cell]; rfl
  have hf1 : w.frozen? ⟨x, 1, none⟩ = false := h1.frozen 1
  have H1 := Lib.hid h1
  have H4 := Lib.hid h4
  clear h1 h4
  by_cases hlt : at' < L.length
  · obtain ⟨b, o, rfl, hb, hc⟩ := H4.out (by omega)
    have hcl : w.cell? ⟨b, o + at', none⟩ = some (.int .i64 (L.getD at' 0)) := hc at' hlt
    clear hc
    obtain ⟨v, Hv⟩ : ∃ v, Hid (L.getD at' 0 = v) := ⟨_, rfl⟩
    rw [Hv.out] at hcl
    have hltb : decide (at' < L.length) = true := by simp; omega
    go_enter Try.func23, Try.ntmps23
    go_wp2_with fail
    go_quiet (fail)
    go_wp2_with fail
    go_quiet (fail)
    go_wp2_with fail
    refine (Fold_any v n _ hn).mono ?_
    rintro e w1 ⟨r, hr, rfl, rfl⟩
    have Hr := Lib.hid hr
    clear hr
    go_wp2_with fail
    go_ret
    exact ⟨r, Hr.out, rfl, Tp.next H1.out h2 h3 H4.out⟩
  · have hltb : decide (at' < L.length) = false := by simp; omega
    go_enter Try.func23, Try.ntmps23
    go_wp2_with fail
    go_quiet (fail)
    go_wp2_with fail
    refine (Fold_any _ n _ hn).mono ?_
    rintro e w1 ⟨r, hr, rfl, rfl⟩
    have Hr := Lib.hid hr
    clear hr
    go_wp2_with fail
    go_ret
    exact ⟨r, Hr.out, rfl, Tp.next H1.out h2 h3 H4.out⟩
end Go.Proofs.Ytddjkkmdcdiofaa
