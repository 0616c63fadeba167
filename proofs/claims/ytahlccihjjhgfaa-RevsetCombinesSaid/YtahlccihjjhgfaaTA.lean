/- Contracts: the reference's Normalize and Both; combine's errors. -/
import Derived.Test.YtahlccihjjhgfaaT
namespace Go.Proofs.Ytahlccihjjhgfaa
open Go.RowKit

set_option maxHeartbeats 1000000 in
theorem rNormalize_bad (A : Option Addr) (c : Nat) (xs : RL) (w : World) (hr : RdR w w.heap.size A xs) (hn : xs.length ≤ 4294967296) (h : allSound xs = false) :
    Calls Try.prog 29 #[.slice A xs.length c] w fun e w' => e = .returned (.tuple #[.slice none 0 0, .int .i64 120]) ∧ Below w.heap.size w w' := by
  have Hr := Lib.hid hr
  have H := Lib.hid h
  clear hr h
  go_enter Try.func29, Try.ntmps29
  go_wp2_with fail
  go_loopw [8] (fun i wr => ∃ k : Nat, k ≤ xs.length ∧ i = .int .i64 k ∧ Hid (∀ j, j < k → soundB (xs.getD j (0, 0)).1 (xs.getD j (0, 0)).2 = true) ∧ Below w.heap.size w wr) (fun i _ => xs.length - (intOf i).toNat)
  case atStart => exact ⟨0, Nat.zero_le _, rfl, fun j hj => absurd hj (by omega), Below.refl _ _⟩
  case round =>
    obtain ⟨k, hk, rfl, HK, hb⟩ := hrel
    by_cases hlt : k < xs.length
    · obtain ⟨b, o, rfl, hbB, hc⟩ := Hr.out (by omega)
      have hsz := hb.size
      obtain ⟨a1, a2, HA⟩ : ∃ a1 a2, Hid (xs.getD k (0, 0) = (a1, a2)) := ⟨_, _, rfl⟩
      have hc0 : wr.cell? ⟨b, o + k * 2, none⟩ = some (.int .i64 a1) := by rw [hb.cell (p := ⟨b, o + k * 2, none⟩) hbB, (hc k hlt).1, HA.out]
      have hc1 : wr.cell? ⟨b, o + k * 2 + 1, none⟩ = some (.int .i64 a2) := by rw [hb.cell (p := ⟨b, o + k * 2 + 1, none⟩) hbB, (hc k hlt).2, HA.out]
      clear hc
      cases hs : soundB a1 a2 with
      | false =>
        have Hs := Lib.hid hs
        clear hs
        go_wp2_with (go_at_call 40; refine (rsound_no a1 a2 _ Hs.out).mono ?_; rintro e w' ⟨rfl, rfl⟩)
        go_ret2
        exact ⟨rfl, (hb.alloc hb.size _).alloc (by simp; omega) _⟩
      | true =>
        have Hs := Lib.hid hs
        clear hs
        go_wp2_with (go_at_call 40; refine (rsound_yes a1 a2 _ Hs.out).mono ?_; rintro e w' ⟨rfl, rfl⟩)
        go_roundw
        case rel =>
          refine ⟨k + 1, by omega, by go_num, fun j hj => ?_, (hb.alloc hb.size _).alloc (by simp; omega) _⟩
          by_cases hjk : j = k
          · subst hjk; rw [HA.out]; exact Hs.out
          · exact HK.out j (by omega)
        case measure => simp [intOf]; omega
    · obtain rfl : k = xs.length := by omega
      exfalso
      have h := H.out
      have : allSound xs = true := List.all_eq_true.2 fun x hx => by
        obtain ⟨i, hi, rfl⟩ := List.mem_iff_getElem.1 hx
        have := HK.out i hi
        rwa [List.getD_eq_getElem?_getD, List.getElem?_eq_getElem hi] at this
      rw [this] at h
      cases h

/-- The reference's set is Normalize's. -/
theorem refSet_norm {xs : RL} (h : allSound xs = true) : refSet xs [] orB = normR xs := by
  obtain ⟨c1, m1⟩ := refSet_canon (g := orB) (allSound_iff.1 h) (b := []) (by simp) rfl
  obtain ⟨c2, m2⟩ := norm_canon h
  refine canon_eq c1 c2 fun n => ?_
  rw [m1, m2, ← mem_iff]
  simp [orB]

set_option maxHeartbeats 1000000 in
theorem rNormalize_ok (A : Option Addr) (c : Nat) (xs : RL) (w : World) (hr : RdR w w.heap.size A xs) (hn : xs.length ≤ 1000) (h : allSound xs = true) :
    Calls Try.prog 29 #[.slice A xs.length c] w (NormPost (normR xs) w) := by
  have Hr := Lib.hid hr
  have H := Lib.hid h
  clear hr h
  go_enter Try.func29, Try.ntmps29
  go_wp2_with fail
  go_loopw [8] (fun i wr => ∃ k : Nat, k ≤ xs.length ∧ i = .int .i64 k ∧ Below w.heap.size w wr) (fun i _ => xs.length - (intOf i).toNat)
  case atStart => exact ⟨0, Nat.zero_le _, rfl, Below.refl _ _⟩
  case round =>
    obtain ⟨k, hk, rfl, hb⟩ := hrel
    by_cases hlt : k < xs.length
    · obtain ⟨b, o, rfl, hbB, hc⟩ := Hr.out (by omega)
      have hsz := hb.size
      have Hs := Lib.hid (allSound_at H.out hlt)
      obtain ⟨a1, a2, HA⟩ : ∃ a1 a2, Hid (xs.getD k (0, 0) = (a1, a2)) := ⟨_, _, rfl⟩
      rw [HA.out] at Hs
      have hc0 : wr.cell? ⟨b, o + k * 2, none⟩ = some (.int .i64 a1) := by rw [hb.cell (p := ⟨b, o + k * 2, none⟩) hbB, (hc k hlt).1, HA.out]
      have hc1 : wr.cell? ⟨b, o + k * 2 + 1, none⟩ = some (.int .i64 a2) := by rw [hb.cell (p := ⟨b, o + k * 2 + 1, none⟩) hbB, (hc k hlt).2, HA.out]
      clear hc
      go_wp2_with (go_at_call 40; refine (rsound_yes a1 a2 _ Hs.out).mono ?_; rintro e w' ⟨rfl, rfl⟩)
      go_roundw
      case rel => exact ⟨k + 1, by omega, by go_num, (hb.alloc hb.size _).alloc (by simp; omega) _⟩
      case measure => simp [intOf]; omega
    · obtain rfl : k = xs.length := by omega
      have hset := Set_any A none c 0 xs [] 1 orB wr (Hr.out.on hb) (fun hp => absurd hp (by simp)) hn (by simp) (allSound_iff.1 H.out) (by simp) (fun x y W => counts1 x y W)
      rw [refSet_norm H.out] at hset
      have Hset := Lib.hid hset
      clear hset
      go_wp2_with fail
      refine Hset.out.mono ?_
      rintro e w1 ⟨A1, c1, rfl, hr1, hb1⟩
      have Hr1 := Lib.hid hr1
      clear hr1
      go_wp2_with fail
      go_ret2
      exact ⟨A1, c1, rfl, Hr1.out, hb.trans (hb1.mono hb.size)⟩

def BothPost (g : Bool → Bool → Bool) (a b : RL) (w : World) (e : Ending) (w' : World) : Prop :=
  ∃ (T : RL) (A : Option Addr) (c : Nat), e = .returned (.tuple #[.slice A T.length c, .int .i64 0]) ∧ RdR w' w'.heap.size A T ∧ Canon T ∧ (∀ m, Mem m T ↔ g (a.any (inR m)) (b.any (inR m)) = true) ∧ Below w.heap.size w w'

set_option maxHeartbeats 1000000 in
theorem both1 (A B : Option Addr) (ca cb : Nat) (a b : RL) (w : World) (hra : RdR w w.heap.size A a) (hrb : RdR w w.heap.size B b) (hla : a.length ≤ 1000) (hlb : b.length ≤ 1000) (hka : checkB a = true) (hkb : checkB b = true) :
    Calls Try.prog 30 #[.slice A a.length ca, .slice B b.length cb, .int .i64 1] w (BothPost orB a b w) := by
  have Ha := Lib.hid hra
  have Hb := Lib.hid hrb
  have Hka := Lib.hid hka
  have Hkb := Lib.hid hkb
  have Hc := Lib.hid (refSet_canon (g := orB) (canon_iff.1 hka).1 (canon_iff.1 hkb).1 rfl)
  clear hra hrb hka hkb
  have hb0 : Below w.heap.size w w := Below.refl _ _
  go_enter Try.func30, Try.ntmps30
  go_wp2_with fail
  refine (rCheck_ok _ _ a _ Ha.out (by omega) Hka.out).mono ?_
  rintro e w1 ⟨rfl, hbx⟩
  replace Ha := Lib.hid (Ha.out.on hbx)
  replace Hb := Lib.hid (Hb.out.on hbx)
  replace hb0 := hb0.trans (hbx.mono hb0.size)
  clear hbx
  go_wp2_with fail
  refine (rCheck_ok _ _ b _ Hb.out (by omega) Hkb.out).mono ?_
  rintro e w2 ⟨rfl, hbx⟩
  replace Ha := Lib.hid (Ha.out.on hbx)
  replace Hb := Lib.hid (Hb.out.on hbx)
  replace hb0 := hb0.trans (hbx.mono hb0.size)
  clear hbx
  go_wp2_with fail
  refine (Set_any A B ca cb a b 1 orB _ Ha.out Hb.out hla hlb (canon_iff.1 Hka.out).1 (canon_iff.1 Hkb.out).1 (fun x y W => counts1 x y W)).mono ?_
  rintro e w3 ⟨A3, c3, rfl, hr3, hbx⟩
  have H3 := Lib.hid hr3
  clear hr3
  replace Ha := Lib.hid (Ha.out.on hbx)
  replace Hb := Lib.hid (Hb.out.on hbx)
  replace hb0 := hb0.trans (hbx.mono hb0.size)
  clear hbx
  go_wp2_with fail
  go_ret2
  exact ⟨refSet a b orB, A3, c3, rfl, H3.out, Hc.out.1, Hc.out.2, hb0⟩

set_option maxHeartbeats 1000000 in
theorem both2 (A B : Option Addr) (ca cb : Nat) (a b : RL) (w : World) (hra : RdR w w.heap.size A a) (hrb : RdR w w.heap.size B b) (hla : a.length ≤ 1000) (hlb : b.length ≤ 1000) (hka : checkB a = true) (hkb : checkB b = true) :
    Calls Try.prog 30 #[.slice A a.length ca, .slice B b.length cb, .int .i64 2] w (BothPost andB a b w) := by
  have Ha := Lib.hid hra
  have Hb := Lib.hid hrb
  have Hka := Lib.hid hka
  have Hkb := Lib.hid hkb
  have Hc := Lib.hid (refSet_canon (g := andB) (canon_iff.1 hka).1 (canon_iff.1 hkb).1 rfl)
  clear hra hrb hka hkb
  have hb0 : Below w.heap.size w w := Below.refl _ _
  go_enter Try.func30, Try.ntmps30
  go_wp2_with fail
  refine (rCheck_ok _ _ a _ Ha.out (by omega) Hka.out).mono ?_
  rintro e w1 ⟨rfl, hbx⟩
  replace Ha := Lib.hid (Ha.out.on hbx)
  replace Hb := Lib.hid (Hb.out.on hbx)
  replace hb0 := hb0.trans (hbx.mono hb0.size)
  clear hbx
  go_wp2_with fail
  refine (rCheck_ok _ _ b _ Hb.out (by omega) Hkb.out).mono ?_
  rintro e w2 ⟨rfl, hbx⟩
  replace Ha := Lib.hid (Ha.out.on hbx)
  replace Hb := Lib.hid (Hb.out.on hbx)
  replace hb0 := hb0.trans (hbx.mono hb0.size)
  clear hbx
  go_wp2_with fail
  refine (Set_any A B ca cb a b 2 andB _ Ha.out Hb.out hla hlb (canon_iff.1 Hka.out).1 (canon_iff.1 Hkb.out).1 (fun x y W => counts2 x y W)).mono ?_
  rintro e w3 ⟨A3, c3, rfl, hr3, hbx⟩
  have H3 := Lib.hid hr3
  clear hr3
  replace Ha := Lib.hid (Ha.out.on hbx)
  replace Hb := Lib.hid (Hb.out.on hbx)
  replace hb0 := hb0.trans (hbx.mono hb0.size)
  clear hbx
  go_wp2_with fail
  go_ret2
  exact ⟨refSet a b andB, A3, c3, rfl, H3.out, Hc.out.1, Hc.out.2, hb0⟩

set_option maxHeartbeats 1000000 in
theorem both3 (A B : Option Addr) (ca cb : Nat) (a b : RL) (w : World) (hra : RdR w w.heap.size A a) (hrb : RdR w w.heap.size B b) (hla : a.length ≤ 1000) (hlb : b.length ≤ 1000) (hka : checkB a = true) (hkb : checkB b = true) :
    Calls Try.prog 30 #[.slice A a.length ca, .slice B b.length cb, .int .i64 3] w (BothPost notB a b w) := by
  have Ha := Lib.hid hra
  have Hb := Lib.hid hrb
  have Hka := Lib.hid hka
  have Hkb := Lib.hid hkb
  have Hc := Lib.hid (refSet_canon (g := notB) (canon_iff.1 hka).1 (canon_iff.1 hkb).1 rfl)
  clear hra hrb hka hkb
  have hb0 : Below w.heap.size w w := Below.refl _ _
  go_enter Try.func30, Try.ntmps30
  go_wp2_with fail
  refine (rCheck_ok _ _ a _ Ha.out (by omega) Hka.out).mono ?_
  rintro e w1 ⟨rfl, hbx⟩
  replace Ha := Lib.hid (Ha.out.on hbx)
  replace Hb := Lib.hid (Hb.out.on hbx)
  replace hb0 := hb0.trans (hbx.mono hb0.size)
  clear hbx
  go_wp2_with fail
  refine (rCheck_ok _ _ b _ Hb.out (by omega) Hkb.out).mono ?_
  rintro e w2 ⟨rfl, hbx⟩
  replace Ha := Lib.hid (Ha.out.on hbx)
  replace Hb := Lib.hid (Hb.out.on hbx)
  replace hb0 := hb0.trans (hbx.mono hb0.size)
  clear hbx
  go_wp2_with fail
  refine (Set_any A B ca cb a b 3 notB _ Ha.out Hb.out hla hlb (canon_iff.1 Hka.out).1 (canon_iff.1 Hkb.out).1 (fun x y W => counts3 x y W)).mono ?_
  rintro e w3 ⟨A3, c3, rfl, hr3, hbx⟩
  have H3 := Lib.hid hr3
  clear hr3
  replace Ha := Lib.hid (Ha.out.on hbx)
  replace Hb := Lib.hid (Hb.out.on hbx)
  replace hb0 := hb0.trans (hbx.mono hb0.size)
  clear hbx
  go_wp2_with fail
  go_ret2
  exact ⟨refSet a b notB, A3, c3, rfl, H3.out, Hc.out.1, Hc.out.2, hb0⟩

set_option maxHeartbeats 1000000 in
theorem both_bad1 (A B : Option Addr) (ca cb : Nat) (a b : RL) (kind : Int) (w : World) (hra : RdR w w.heap.size A a) (hrb : RdR w w.heap.size B b) (hla : a.length ≤ 1000) (hlb : b.length ≤ 1000) (hka : checkB a = false) :
    Calls Try.prog 30 #[.slice A a.length ca, .slice B b.length cb, .int .i64 kind] w fun e w' => e = .returned (.tuple #[.slice none 0 0, .int .i64 120]) ∧ Below w.heap.size w w' := by
  have Ha := Lib.hid hra
  have Hb := Lib.hid hrb
  have Hka := Lib.hid hka
  clear hka
  clear hra hrb
  have hb0 : Below w.heap.size w w := Below.refl _ _
  go_enter Try.func30, Try.ntmps30
  go_wp2_with fail
  refine (rCheck_no _ _ a _ Ha.out (by omega) Hka.out).mono ?_
  rintro e w1 ⟨rfl, hbx⟩
  replace Ha := Lib.hid (Ha.out.on hbx)
  replace Hb := Lib.hid (Hb.out.on hbx)
  replace hb0 := hb0.trans (hbx.mono hb0.size)
  clear hbx
  go_wp2_with fail
  go_ret2
  exact ⟨rfl, hb0⟩

set_option maxHeartbeats 1000000 in
theorem combine42_bad1 (A B : Option Addr) (ca cb : Nat) (a b : RL) (w : World) (hra : RdR w w.heap.size A a) (hrb : RdR w w.heap.size B b) (hla : a.length ≤ 1000) (hlb : b.length ≤ 1000) (hka : checkB a = false) :
    Calls Try.prog 41 #[.slice A a.length ca, .slice B b.length cb, .func (.func 42) #[] #[]] w fun e w' => e = .returned (.tuple #[.slice none 0 0, .int .i64 120]) ∧ Below w.heap.size w w' := by
  have Ha := Lib.hid hra
  have Hb := Lib.hid hrb
  have Hka := Lib.hid hka
  clear hka
  clear hra hrb
  have hb0 : Below w.heap.size w w := Below.refl _ _
  go_enter Try.func41, Try.ntmps41
  go_wp2_with fail
  refine (Check_no _ _ a _ Ha.out (by omega) Hka.out).mono ?_
  rintro e w1 ⟨rfl, hbx⟩
  replace Ha := Lib.hid (Ha.out.on hbx)
  replace Hb := Lib.hid (Hb.out.on hbx)
  replace hb0 := hb0.trans (hbx.mono hb0.size)
  clear hbx
  go_wp2_with fail
  go_ret2
  exact ⟨rfl, hb0⟩

set_option maxHeartbeats 400000 in
theorem comb26_bad1 (A B : Option Addr) (ca cb : Nat) (a b : RL) (w : World) (hra : RdR w w.heap.size A a) (hrb : RdR w w.heap.size B b) (hla : a.length ≤ 1000) (hlb : b.length ≤ 1000) (hka : checkB a = false) :
    Calls Try.prog 26 #[.slice A a.length ca, .slice B b.length cb] w fun e w' => e = .returned (.tuple #[.slice none 0 0, .int .i64 120]) ∧ Below w.heap.size w w' := by
  have H := Lib.hid (combine42_bad1 A B ca cb a b w hra hrb hla hlb hka)
  clear hra hrb hla hlb hka
  go_enter Try.func26, Try.ntmps26
  go_wp2_with fail
  refine H.out.mono ?_
  rintro e w1 ⟨rfl, hb1⟩
  go_wp2_with fail
  go_ret2
  exact ⟨rfl, hb1⟩

set_option maxHeartbeats 1000000 in
theorem combine43_bad1 (A B : Option Addr) (ca cb : Nat) (a b : RL) (w : World) (hra : RdR w w.heap.size A a) (hrb : RdR w w.heap.size B b) (hla : a.length ≤ 1000) (hlb : b.length ≤ 1000) (hka : checkB a = false) :
    Calls Try.prog 41 #[.slice A a.length ca, .slice B b.length cb, .func (.func 43) #[] #[]] w fun e w' => e = .returned (.tuple #[.slice none 0 0, .int .i64 120]) ∧ Below w.heap.size w w' := by
  have Ha := Lib.hid hra
  have Hb := Lib.hid hrb
  have Hka := Lib.hid hka
  clear hka
  clear hra hrb
  have hb0 : Below w.heap.size w w := Below.refl _ _
  go_enter Try.func41, Try.ntmps41
  go_wp2_with fail
  refine (Check_no _ _ a _ Ha.out (by omega) Hka.out).mono ?_
  rintro e w1 ⟨rfl, hbx⟩
  replace Ha := Lib.hid (Ha.out.on hbx)
  replace Hb := Lib.hid (Hb.out.on hbx)
  replace hb0 := hb0.trans (hbx.mono hb0.size)
  clear hbx
  go_wp2_with fail
  go_ret2
  exact ⟨rfl, hb0⟩

set_option maxHeartbeats 400000 in
theorem comb27_bad1 (A B : Option Addr) (ca cb : Nat) (a b : RL) (w : World) (hra : RdR w w.heap.size A a) (hrb : RdR w w.heap.size B b) (hla : a.length ≤ 1000) (hlb : b.length ≤ 1000) (hka : checkB a = false) :
    Calls Try.prog 27 #[.slice A a.length ca, .slice B b.length cb] w fun e w' => e = .returned (.tuple #[.slice none 0 0, .int .i64 120]) ∧ Below w.heap.size w w' := by
  have H := Lib.hid (combine43_bad1 A B ca cb a b w hra hrb hla hlb hka)
  clear hra hrb hla hlb hka
  go_enter Try.func27, Try.ntmps27
  go_wp2_with fail
  refine H.out.mono ?_
  rintro e w1 ⟨rfl, hb1⟩
  go_wp2_with fail
  go_ret2
  exact ⟨rfl, hb1⟩

set_option maxHeartbeats 1000000 in
theorem combine44_bad1 (A B : Option Addr) (ca cb : Nat) (a b : RL) (w : World) (hra : RdR w w.heap.size A a) (hrb : RdR w w.heap.size B b) (hla : a.length ≤ 1000) (hlb : b.length ≤ 1000) (hka : checkB a = false) :
    Calls Try.prog 41 #[.slice A a.length ca, .slice B b.length cb, .func (.func 44) #[] #[]] w fun e w' => e = .returned (.tuple #[.slice none 0 0, .int .i64 120]) ∧ Below w.heap.size w w' := by
  have Ha := Lib.hid hra
  have Hb := Lib.hid hrb
  have Hka := Lib.hid hka
  clear hka
  clear hra hrb
  have hb0 : Below w.heap.size w w := Below.refl _ _
  go_enter Try.func41, Try.ntmps41
  go_wp2_with fail
  refine (Check_no _ _ a _ Ha.out (by omega) Hka.out).mono ?_
  rintro e w1 ⟨rfl, hbx⟩
  replace Ha := Lib.hid (Ha.out.on hbx)
  replace Hb := Lib.hid (Hb.out.on hbx)
  replace hb0 := hb0.trans (hbx.mono hb0.size)
  clear hbx
  go_wp2_with fail
  go_ret2
  exact ⟨rfl, hb0⟩

set_option maxHeartbeats 400000 in
theorem comb28_bad1 (A B : Option Addr) (ca cb : Nat) (a b : RL) (w : World) (hra : RdR w w.heap.size A a) (hrb : RdR w w.heap.size B b) (hla : a.length ≤ 1000) (hlb : b.length ≤ 1000) (hka : checkB a = false) :
    Calls Try.prog 28 #[.slice A a.length ca, .slice B b.length cb] w fun e w' => e = .returned (.tuple #[.slice none 0 0, .int .i64 120]) ∧ Below w.heap.size w w' := by
  have H := Lib.hid (combine44_bad1 A B ca cb a b w hra hrb hla hlb hka)
  clear hra hrb hla hlb hka
  go_enter Try.func28, Try.ntmps28
  go_wp2_with fail
  refine H.out.mono ?_
  rintro e w1 ⟨rfl, hb1⟩
  go_wp2_with fail
  go_ret2
  exact ⟨rfl, hb1⟩

set_option maxHeartbeats 1000000 in
theorem both_bad2 (A B : Option Addr) (ca cb : Nat) (a b : RL) (kind : Int) (w : World) (hra : RdR w w.heap.size A a) (hrb : RdR w w.heap.size B b) (hla : a.length ≤ 1000) (hlb : b.length ≤ 1000) (hka : checkB a = true) (hkb : checkB b = false) :
    Calls Try.prog 30 #[.slice A a.length ca, .slice B b.length cb, .int .i64 kind] w fun e w' => e = .returned (.tuple #[.slice none 0 0, .int .i64 120]) ∧ Below w.heap.size w w' := by
  have Ha := Lib.hid hra
  have Hb := Lib.hid hrb
  have Hka := Lib.hid hka
  clear hka
  have Hkb := Lib.hid hkb
  clear hkb
  clear hra hrb
  have hb0 : Below w.heap.size w w := Below.refl _ _
  go_enter Try.func30, Try.ntmps30
  go_wp2_with fail
  refine (rCheck_ok _ _ a _ Ha.out (by omega) Hka.out).mono ?_
  rintro e w1 ⟨rfl, hbx⟩
  replace Ha := Lib.hid (Ha.out.on hbx)
  replace Hb := Lib.hid (Hb.out.on hbx)
  replace hb0 := hb0.trans (hbx.mono hb0.size)
  clear hbx
  go_wp2_with fail
  refine (rCheck_no _ _ b _ Hb.out (by omega) Hkb.out).mono ?_
  rintro e w2 ⟨rfl, hbx⟩
  replace Ha := Lib.hid (Ha.out.on hbx)
  replace Hb := Lib.hid (Hb.out.on hbx)
  replace hb0 := hb0.trans (hbx.mono hb0.size)
  clear hbx
  go_wp2_with fail
  go_ret2
  exact ⟨rfl, hb0⟩

set_option maxHeartbeats 1000000 in
theorem combine42_bad2 (A B : Option Addr) (ca cb : Nat) (a b : RL) (w : World) (hra : RdR w w.heap.size A a) (hrb : RdR w w.heap.size B b) (hla : a.length ≤ 1000) (hlb : b.length ≤ 1000) (hka : checkB a = true) (hkb : checkB b = false) :
    Calls Try.prog 41 #[.slice A a.length ca, .slice B b.length cb, .func (.func 42) #[] #[]] w fun e w' => e = .returned (.tuple #[.slice none 0 0, .int .i64 120]) ∧ Below w.heap.size w w' := by
  have Ha := Lib.hid hra
  have Hb := Lib.hid hrb
  have Hka := Lib.hid hka
  clear hka
  have Hkb := Lib.hid hkb
  clear hkb
  clear hra hrb
  have hb0 : Below w.heap.size w w := Below.refl _ _
  go_enter Try.func41, Try.ntmps41
  go_wp2_with fail
  refine (Check_ok _ _ a _ Ha.out (by omega) Hka.out).mono ?_
  rintro e w1 ⟨rfl, hbx⟩
  replace Ha := Lib.hid (Ha.out.on hbx)
  replace Hb := Lib.hid (Hb.out.on hbx)
  replace hb0 := hb0.trans (hbx.mono hb0.size)
  clear hbx
  go_wp2_with fail
  refine (Check_no _ _ b _ Hb.out (by omega) Hkb.out).mono ?_
  rintro e w2 ⟨rfl, hbx⟩
  replace Ha := Lib.hid (Ha.out.on hbx)
  replace Hb := Lib.hid (Hb.out.on hbx)
  replace hb0 := hb0.trans (hbx.mono hb0.size)
  clear hbx
  go_wp2_with fail
  go_ret2
  exact ⟨rfl, hb0⟩

set_option maxHeartbeats 400000 in
theorem comb26_bad2 (A B : Option Addr) (ca cb : Nat) (a b : RL) (w : World) (hra : RdR w w.heap.size A a) (hrb : RdR w w.heap.size B b) (hla : a.length ≤ 1000) (hlb : b.length ≤ 1000) (hka : checkB a = true) (hkb : checkB b = false) :
    Calls Try.prog 26 #[.slice A a.length ca, .slice B b.length cb] w fun e w' => e = .returned (.tuple #[.slice none 0 0, .int .i64 120]) ∧ Below w.heap.size w w' := by
  have H := Lib.hid (combine42_bad2 A B ca cb a b w hra hrb hla hlb hka hkb)
  clear hra hrb hla hlb hka hkb
  go_enter Try.func26, Try.ntmps26
  go_wp2_with fail
  refine H.out.mono ?_
  rintro e w1 ⟨rfl, hb1⟩
  go_wp2_with fail
  go_ret2
  exact ⟨rfl, hb1⟩

set_option maxHeartbeats 1000000 in
theorem combine43_bad2 (A B : Option Addr) (ca cb : Nat) (a b : RL) (w : World) (hra : RdR w w.heap.size A a) (hrb : RdR w w.heap.size B b) (hla : a.length ≤ 1000) (hlb : b.length ≤ 1000) (hka : checkB a = true) (hkb : checkB b = false) :
    Calls Try.prog 41 #[.slice A a.length ca, .slice B b.length cb, .func (.func 43) #[] #[]] w fun e w' => e = .returned (.tuple #[.slice none 0 0, .int .i64 120]) ∧ Below w.heap.size w w' := by
  have Ha := Lib.hid hra
  have Hb := Lib.hid hrb
  have Hka := Lib.hid hka
  clear hka
  have Hkb := Lib.hid hkb
  clear hkb
  clear hra hrb
  have hb0 : Below w.heap.size w w := Below.refl _ _
  go_enter Try.func41, Try.ntmps41
  go_wp2_with fail
  refine (Check_ok _ _ a _ Ha.out (by omega) Hka.out).mono ?_
  rintro e w1 ⟨rfl, hbx⟩
  replace Ha := Lib.hid (Ha.out.on hbx)
  replace Hb := Lib.hid (Hb.out.on hbx)
  replace hb0 := hb0.trans (hbx.mono hb0.size)
  clear hbx
  go_wp2_with fail
  refine (Check_no _ _ b _ Hb.out (by omega) Hkb.out).mono ?_
  rintro e w2 ⟨rfl, hbx⟩
  replace Ha := Lib.hid (Ha.out.on hbx)
  replace Hb := Lib.hid (Hb.out.on hbx)
  replace hb0 := hb0.trans (hbx.mono hb0.size)
  clear hbx
  go_wp2_with fail
  go_ret2
  exact ⟨rfl, hb0⟩

set_option maxHeartbeats 400000 in
theorem comb27_bad2 (A B : Option Addr) (ca cb : Nat) (a b : RL) (w : World) (hra : RdR w w.heap.size A a) (hrb : RdR w w.heap.size B b) (hla : a.length ≤ 1000) (hlb : b.length ≤ 1000) (hka : checkB a = true) (hkb : checkB b = false) :
    Calls Try.prog 27 #[.slice A a.length ca, .slice B b.length cb] w fun e w' => e = .returned (.tuple #[.slice none 0 0, .int .i64 120]) ∧ Below w.heap.size w w' := by
  have H := Lib.hid (combine43_bad2 A B ca cb a b w hra hrb hla hlb hka hkb)
  clear hra hrb hla hlb hka hkb
  go_enter Try.func27, Try.ntmps27
  go_wp2_with fail
  refine H.out.mono ?_
  rintro e w1 ⟨rfl, hb1⟩
  go_wp2_with fail
  go_ret2
  exact ⟨rfl, hb1⟩

set_option maxHeartbeats 1000000 in
theorem combine44_bad2 (A B : Option Addr) (ca cb : Nat) (a b : RL) (w : World) (hra : RdR w w.heap.size A a) (hrb : RdR w w.heap.size B b) (hla : a.length ≤ 1000) (hlb : b.length ≤ 1000) (hka : checkB a = true) (hkb : checkB b = false) :
    Calls Try.prog 41 #[.slice A a.length ca, .slice B b.length cb, .func (.func 44) #[] #[]] w fun e w' => e = .returned (.tuple #[.slice none 0 0, .int .i64 120]) ∧ Below w.heap.size w w' := by
  have Ha := Lib.hid hra
  have Hb := Lib.hid hrb
  have Hka := Lib.hid hka
  clear hka
  have Hkb := Lib.hid hkb
  clear hkb
  clear hra hrb
  have hb0 : Below w.heap.size w w := Below.refl _ _
  go_enter Try.func41, Try.ntmps41
  go_wp2_with fail
  refine (Check_ok _ _ a _ Ha.out (by omega) Hka.out).mono ?_
  rintro e w1 ⟨rfl, hbx⟩
  replace Ha := Lib.hid (Ha.out.on hbx)
  replace Hb := Lib.hid (Hb.out.on hbx)
  replace hb0 := hb0.trans (hbx.mono hb0.size)
  clear hbx
  go_wp2_with fail
  refine (Check_no _ _ b _ Hb.out (by omega) Hkb.out).mono ?_
  rintro e w2 ⟨rfl, hbx⟩
  replace Ha := Lib.hid (Ha.out.on hbx)
  replace Hb := Lib.hid (Hb.out.on hbx)
  replace hb0 := hb0.trans (hbx.mono hb0.size)
  clear hbx
  go_wp2_with fail
  go_ret2
  exact ⟨rfl, hb0⟩

set_option maxHeartbeats 400000 in
theorem comb28_bad2 (A B : Option Addr) (ca cb : Nat) (a b : RL) (w : World) (hra : RdR w w.heap.size A a) (hrb : RdR w w.heap.size B b) (hla : a.length ≤ 1000) (hlb : b.length ≤ 1000) (hka : checkB a = true) (hkb : checkB b = false) :
    Calls Try.prog 28 #[.slice A a.length ca, .slice B b.length cb] w fun e w' => e = .returned (.tuple #[.slice none 0 0, .int .i64 120]) ∧ Below w.heap.size w w' := by
  have H := Lib.hid (combine44_bad2 A B ca cb a b w hra hrb hla hlb hka hkb)
  clear hra hrb hla hlb hka hkb
  go_enter Try.func28, Try.ntmps28
  go_wp2_with fail
  refine H.out.mono ?_
  rintro e w1 ⟨rfl, hb1⟩
  go_wp2_with fail
  go_ret2
  exact ⟨rfl, hb1⟩

end Go.Proofs.Ytahlccihjjhgfaa
