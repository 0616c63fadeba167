/- Contracts: Union, Meet, Minus and the laws' own or, and, eq. -/
import Derived.Test.YtahlccihjjhgfaaS
import Derived.Test.YtahlccihjjhgfaaM
namespace Go.Proofs.Ytahlccihjjhgfaa
open Go.RowKit

set_option maxHeartbeats 400000 in
theorem comb26 (A B : Option Addr) (ca cb : Nat) (a b : RL) (w : World) (hra : RdR w w.heap.size A a) (hrb : RdR w w.heap.size B b) (hla : a.length ≤ ca) (hlb : b.length ≤ cb) (hka : checkB a = true) (hkb : checkB b = true) :
    Calls Try.prog 26 #[.slice A a.length ca, .slice B b.length cb] w (CombPost orB a b w) := by
  have H := Lib.hid (combine42_ok A B ca cb a b w hra hrb hla hlb hka hkb)
  clear hra hrb hla hlb hka hkb
  go_enter Try.func26, Try.ntmps26
  go_wp2_with fail
  refine H.out.mono ?_
  rintro e w1 ⟨T, A1, c1, rfl, h1, h2, h3, h4, h5⟩
  have H1 := Lib.hid h1
  have H3 := Lib.hid h3
  have H4 := Lib.hid h4
  clear h1 h3 h4
  go_wp2_with fail
  go_ret2
  exact ⟨T, A1, c1, rfl, H1.out, h2, H3.out, H4.out, h5⟩

set_option maxHeartbeats 400000 in
theorem comb27 (A B : Option Addr) (ca cb : Nat) (a b : RL) (w : World) (hra : RdR w w.heap.size A a) (hrb : RdR w w.heap.size B b) (hla : a.length ≤ ca) (hlb : b.length ≤ cb) (hka : checkB a = true) (hkb : checkB b = true) :
    Calls Try.prog 27 #[.slice A a.length ca, .slice B b.length cb] w (CombPost andB a b w) := by
  have H := Lib.hid (combine43_ok A B ca cb a b w hra hrb hla hlb hka hkb)
  clear hra hrb hla hlb hka hkb
  go_enter Try.func27, Try.ntmps27
  go_wp2_with fail
  refine H.out.mono ?_
  rintro e w1 ⟨T, A1, c1, rfl, h1, h2, h3, h4, h5⟩
  have H1 := Lib.hid h1
  have H3 := Lib.hid h3
  have H4 := Lib.hid h4
  clear h1 h3 h4
  go_wp2_with fail
  go_ret2
  exact ⟨T, A1, c1, rfl, H1.out, h2, H3.out, H4.out, h5⟩

set_option maxHeartbeats 400000 in
theorem comb28 (A B : Option Addr) (ca cb : Nat) (a b : RL) (w : World) (hra : RdR w w.heap.size A a) (hrb : RdR w w.heap.size B b) (hla : a.length ≤ ca) (hlb : b.length ≤ cb) (hka : checkB a = true) (hkb : checkB b = true) :
    Calls Try.prog 28 #[.slice A a.length ca, .slice B b.length cb] w (CombPost notB a b w) := by
  have H := Lib.hid (combine44_ok A B ca cb a b w hra hrb hla hlb hka hkb)
  clear hra hrb hla hlb hka hkb
  go_enter Try.func28, Try.ntmps28
  go_wp2_with fail
  refine H.out.mono ?_
  rintro e w1 ⟨T, A1, c1, rfl, h1, h2, h3, h4, h5⟩
  have H1 := Lib.hid h1
  have H3 := Lib.hid h3
  have H4 := Lib.hid h4
  clear h1 h3 h4
  go_wp2_with fail
  go_ret2
  exact ⟨T, A1, c1, rfl, H1.out, h2, H3.out, H4.out, h5⟩

def SetPost (g : Bool → Bool → Bool) (a b : RL) (w : World) (e : Ending) (w' : World) : Prop :=
  ∃ (T : RL) (A : Option Addr) (c : Nat), e = .returned (.slice A T.length c) ∧ RdR w' w'.heap.size A T ∧ T.length ≤ c ∧ Canon T ∧ (∀ m, Mem m T ↔ g (a.any (inR m)) (b.any (inR m)) = true) ∧ Below w.heap.size w w'

set_option maxHeartbeats 400000 in
theorem set24 (A B : Option Addr) (ca cb : Nat) (a b : RL) (w : World) (hra : RdR w w.heap.size A a) (hrb : RdR w w.heap.size B b) (hla : a.length ≤ ca) (hlb : b.length ≤ cb) (hka : Canon a) (hkb : Canon b) :
    Calls Try.prog 24 #[.slice A a.length ca, .slice B b.length cb] w (SetPost orB a b w) := by
  have H := Lib.hid (comb26 A B ca cb a b w hra hrb hla hlb (canon_iff.2 hka) (canon_iff.2 hkb))
  clear hra hrb hla hlb hka hkb
  go_enter Try.func24, Try.ntmps24
  go_wp2_with fail
  refine H.out.mono ?_
  rintro e w1 ⟨T, A1, c1, rfl, h1, h2, h3, h4, h5⟩
  have H1 := Lib.hid h1
  have H3 := Lib.hid h3
  have H4 := Lib.hid h4
  clear h1 h3 h4
  go_wp2_with fail
  go_ret
  exact ⟨T, A1, c1, rfl, H1.out, h2, H3.out, H4.out, h5⟩

set_option maxHeartbeats 400000 in
theorem set25 (A B : Option Addr) (ca cb : Nat) (a b : RL) (w : World) (hra : RdR w w.heap.size A a) (hrb : RdR w w.heap.size B b) (hla : a.length ≤ ca) (hlb : b.length ≤ cb) (hka : Canon a) (hkb : Canon b) :
    Calls Try.prog 25 #[.slice A a.length ca, .slice B b.length cb] w (SetPost andB a b w) := by
  have H := Lib.hid (comb27 A B ca cb a b w hra hrb hla hlb (canon_iff.2 hka) (canon_iff.2 hkb))
  clear hra hrb hla hlb hka hkb
  go_enter Try.func25, Try.ntmps25
  go_wp2_with fail
  refine H.out.mono ?_
  rintro e w1 ⟨T, A1, c1, rfl, h1, h2, h3, h4, h5⟩
  have H1 := Lib.hid h1
  have H3 := Lib.hid h3
  have H4 := Lib.hid h4
  clear h1 h3 h4
  go_wp2_with fail
  go_ret
  exact ⟨T, A1, c1, rfl, H1.out, h2, H3.out, H4.out, h5⟩

set_option maxHeartbeats 400000 in
theorem eq_yes (A B : Option Addr) (ca cb : Nat) (a b : RL) (w : World) (hra : RdR w w.heap.size A a) (hrb : RdR w w.heap.size B b) (hka : Canon a) (hkb : Canon b) (he : a = b) :
    Calls Try.prog 23 #[.slice A a.length ca, .slice B b.length cb] w fun e w' => e = .returned (.bool true) ∧ Below w.heap.size w w' := by
  have H := Lib.hid (Same_any A B ca cb a b w hra hrb (by have := canon_len hka; omega) (by have := canon_len hkb; omega))
  rw [decide_eq_true he] at H
  clear hra hrb hka hkb he
  go_enter Try.func23, Try.ntmps23
  go_wp2_with fail
  refine H.out.mono ?_
  rintro e w1 ⟨rfl, hb1⟩
  go_wp2_with fail
  go_ret
  exact ⟨rfl, hb1⟩
theorem same_yes (A B : Option Addr) (ca cb : Nat) (a b : RL) (w : World) (hra : RdR w w.heap.size A a) (hrb : RdR w w.heap.size B b) (hla : a.length ≤ 4294967296) (hlb : b.length ≤ 4294967296) (he : a = b) :
    Calls Try.prog 14 #[.slice A a.length ca, .slice B b.length cb] w fun e w' => e = .returned (.bool true) ∧ Below w.heap.size w w' := by
  have H := Same_any A B ca cb a b w hra hrb hla hlb
  rwa [decide_eq_true he] at H

theorem many_two (g : Nat) (A B : Option Addr) (n c m d : Nat) (w : World) (h0 : w.cell? ⟨g, 0, none⟩ = some (.slice A n c)) (h1 : w.cell? ⟨g, 1, none⟩ = some (.slice B m d)) (v : Bool) (hv : (decide (40 < n) || decide (40 < m)) = v) :
    Calls Try.prog 11 #[.slice (some ⟨g, 0, none⟩) 2 2] w fun e w' => e = .returned (.bool v) ∧ w = w' := by
  have h := many_any g [(A, n, c), (B, m, d)] w (by simp) (fun j hj => by
    have : j = 0 ∨ j = 1 := by simp at hj; omega
    rcases this with rfl | rfl
    · exact h0
    · exact h1)
  rw [← hv]
  simpa using h
theorem many_three (g : Nat) (A B C : Option Addr) (n c m d k f : Nat) (w : World) (h0 : w.cell? ⟨g, 0, none⟩ = some (.slice A n c)) (h1 : w.cell? ⟨g, 1, none⟩ = some (.slice B m d)) (h2 : w.cell? ⟨g, 2, none⟩ = some (.slice C k f)) (v : Bool) (hv : (decide (40 < n) || (decide (40 < m) || decide (40 < k))) = v) :
    Calls Try.prog 11 #[.slice (some ⟨g, 0, none⟩) 3 3] w fun e w' => e = .returned (.bool v) ∧ w = w' := by
  have h := many_any g [(A, n, c), (B, m, d), (C, k, f)] w (by simp) (fun j hj => by
    have : j = 0 ∨ j = 1 ∨ j = 2 := by simp at hj; omega
    rcases this with rfl | rfl | rfl
    · exact h0
    · exact h1
    · exact h2)
  rw [← hv]
  simpa using h
end Go.Proofs.Ytahlccihjjhgfaa
