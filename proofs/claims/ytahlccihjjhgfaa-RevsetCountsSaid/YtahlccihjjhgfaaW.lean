/- The law RevsetCounts. -/
import Derived.Test.YtahlccihjjhgfaaU
import Derived.Test.YtahlccihjjhgfaaPN
namespace Go.Proofs.Ytahlccihjjhgfaa
open Go.RowKit

theorem Count_at (A : Option Addr) (c : Nat) (xs : RL) (w : World) (hr : RdR w w.heap.size A xs) (hn : xs.length ≤ 4294967296) (h : checkB xs = true) (v : Int) (hv : cnt xs xs.length = v) :
    Calls Try.prog 16 #[.slice A xs.length c] w fun e w' => e = .returned (.tuple #[.int .i64 v, .int .i64 0]) ∧ Below w.heap.size w w' := by
  have := Count_ok A c xs w hr hn h
  rwa [hv] at this
theorem cnt_small {xs : RL} (h : checkB xs = true) : 0 ≤ cnt xs xs.length ∧ cnt xs xs.length ≤ 1152921504606846976 := by
  have h1 := cnt_bd h _ (Nat.le_refl _)
  have h2 := canon_len (canon_iff.1 h)
  omega

set_option maxRecDepth 100000 in
set_option maxHeartbeats 1000000 in
theorem law7_many (A B : Option Addr) (n c m d : Nat) (w : World) (h : (decide (40 < n) || decide (40 < m)) = true) :
    Calls Try.prog 7 #[.slice A n c, .slice B m d] w (LawPost w) := by
  go_enter Try.func7, Try.ntmps7
  go_wp2_with (first | (go_at_call 11; refine (many_two _ A B n c m d _ (new_cell _ _ _ _ (by simp) 0) (new_cell _ _ _ _ (by simp) 1) true h).mono ?_; rintro e w' ⟨rfl, rfl⟩) | (go_at_call 12; refine (awake_any _).mono ?_; rintro e w1 ⟨rfl, hb1⟩))
  go_ret
  exact ⟨rfl, ((Below.refl _ w).alloc (Nat.le_refl _) _).trans (hb1.mono (by simp))⟩

set_option maxRecDepth 100000 in
set_option maxHeartbeats 1000000 in
theorem law7_bad1 (A B : Option Addr) (a b : RL) (c d : Nat) (w : World) (hra : RdR w w.heap.size A a) (hrb : RdR w w.heap.size B b) (h1 : a.length ≤ 40) (h2 : b.length ≤ 40) (hk : checkB a = false) :
    Calls Try.prog 7 #[.slice A a.length c, .slice B b.length d] w (LawPost w) := by
  have h : (decide (40 < a.length) || decide (40 < b.length)) = false := by simp; omega
  have H := Lib.hid h
  have Ha := Lib.hid (hra.alloc (.cells #[.slice A a.length c, .slice B b.length d] 22))
  have Hb := Lib.hid (hrb.alloc (.cells #[.slice A a.length c, .slice B b.length d] 22))
  have Hk := Lib.hid hk
  clear hra hrb hk h
  have hb0 : Below w.heap.size w (w.alloc (.cells #[.slice A a.length c, .slice B b.length d] 22)) := (Below.refl _ w).alloc (Nat.le_refl _) _
  go_enter Try.func7, Try.ntmps7
  go_wp2_with fail
  refine (many_two _ A B a.length c b.length d _ (new_cell _ _ _ _ (by simp) 0) (new_cell _ _ _ _ (by simp) 1) false H.out).mono ?_
  rintro e w' ⟨rfl, rfl⟩
  go_wp2_with fail
  refine (Check_no _ _ a _ Ha.out (by omega) Hk.out).mono ?_
  rintro e w1 ⟨rfl, hbx⟩
  replace Ha := Lib.hid (Ha.out.on hbx)
  replace Hb := Lib.hid (Hb.out.on hbx)
  replace hb0 := hb0.trans (hbx.mono hb0.size)
  clear hbx
  go_wp2_with fail
  refine (awake_any _).mono ?_
  rintro e w2 ⟨rfl, hbx⟩
  replace Ha := Lib.hid (Ha.out.on hbx)
  replace Hb := Lib.hid (Hb.out.on hbx)
  replace hb0 := hb0.trans (hbx.mono hb0.size)
  clear hbx
  go_wp2_with fail
  go_ret
  exact ⟨rfl, hb0⟩

set_option maxRecDepth 100000 in
set_option maxHeartbeats 1000000 in
theorem law7_bad2 (A B : Option Addr) (a b : RL) (c d : Nat) (w : World) (hra : RdR w w.heap.size A a) (hrb : RdR w w.heap.size B b) (h1 : a.length ≤ 40) (h2 : b.length ≤ 40) (hk0 : checkB a = true) (hk : checkB b = false) :
    Calls Try.prog 7 #[.slice A a.length c, .slice B b.length d] w (LawPost w) := by
  have h : (decide (40 < a.length) || decide (40 < b.length)) = false := by simp; omega
  have H := Lib.hid h
  have Ha := Lib.hid (hra.alloc (.cells #[.slice A a.length c, .slice B b.length d] 22))
  have Hb := Lib.hid (hrb.alloc (.cells #[.slice A a.length c, .slice B b.length d] 22))
  have Hk := Lib.hid hk
  have Hk0 := Lib.hid hk0
  clear hk0
  clear hra hrb hk h
  have hb0 : Below w.heap.size w (w.alloc (.cells #[.slice A a.length c, .slice B b.length d] 22)) := (Below.refl _ w).alloc (Nat.le_refl _) _
  go_enter Try.func7, Try.ntmps7
  go_wp2_with fail
  refine (many_two _ A B a.length c b.length d _ (new_cell _ _ _ _ (by simp) 0) (new_cell _ _ _ _ (by simp) 1) false H.out).mono ?_
  rintro e w' ⟨rfl, rfl⟩
  go_wp2_with fail
  refine (Check_ok _ _ a _ Ha.out (by omega) Hk0.out).mono ?_
  rintro e w1 ⟨rfl, hbx⟩
  replace Ha := Lib.hid (Ha.out.on hbx)
  replace Hb := Lib.hid (Hb.out.on hbx)
  replace hb0 := hb0.trans (hbx.mono hb0.size)
  clear hbx
  go_wp2_with fail
  refine (Check_no _ _ b _ Hb.out (by omega) Hk.out).mono ?_
  rintro e w2 ⟨rfl, hbx⟩
  replace Ha := Lib.hid (Ha.out.on hbx)
  replace Hb := Lib.hid (Hb.out.on hbx)
  replace hb0 := hb0.trans (hbx.mono hb0.size)
  clear hbx
  go_wp2_with fail
  refine (awake_any _).mono ?_
  rintro e w3 ⟨rfl, hbx⟩
  replace Ha := Lib.hid (Ha.out.on hbx)
  replace Hb := Lib.hid (Hb.out.on hbx)
  replace hb0 := hb0.trans (hbx.mono hb0.size)
  clear hbx
  go_wp2_with fail
  go_ret
  exact ⟨rfl, hb0⟩

set_option maxRecDepth 100000 in
set_option maxHeartbeats 4000000 in
theorem law7_ok (A B : Option Addr) (a b : RL) (c d : Nat) (w : World) (hra : RdR w w.heap.size A a) (hrb : RdR w w.heap.size B b) (h1 : a.length ≤ 40) (h2 : b.length ≤ 40) (hla : a.length ≤ c) (hlb : b.length ≤ d) (hka : checkB a = true) (hkb : checkB b = true) :
    Calls Try.prog 7 #[.slice A a.length c, .slice B b.length d] w (LawPost w) := by
  have h : (decide (40 < a.length) || decide (40 < b.length)) = false := by simp; omega
  have H := Lib.hid h
  have Ha := Lib.hid (hra.alloc (.cells #[.slice A a.length c, .slice B b.length d] 22))
  have Hb := Lib.hid (hrb.alloc (.cells #[.slice A a.length c, .slice B b.length d] 22))
  have Hka := Lib.hid hka
  have Hkb := Lib.hid hkb
  clear hra hrb hka hkb h
  have hb0 : Below w.heap.size w (w.alloc (.cells #[.slice A a.length c, .slice B b.length d] 22)) := (Below.refl _ w).alloc (Nat.le_refl _) _
  go_enter Try.func7, Try.ntmps7
  go_wp2_with fail
  refine (many_two _ A B a.length c b.length d _ (new_cell _ _ _ _ (by simp) 0) (new_cell _ _ _ _ (by simp) 1) false H.out).mono ?_
  rintro e w' ⟨rfl, rfl⟩
  go_wp2_with fail
  refine (Check_ok _ _ a _ Ha.out (by omega) Hka.out).mono ?_
  rintro e w1 ⟨rfl, hbx⟩
  replace Ha := Lib.hid (Ha.out.on hbx)
  replace Hb := Lib.hid (Hb.out.on hbx)
  replace hb0 := hb0.trans (hbx.mono hb0.size)
  clear hbx
  go_wp2_with fail
  refine (Check_ok _ _ b _ Hb.out (by omega) Hkb.out).mono ?_
  rintro e w2 ⟨rfl, hbx⟩
  replace Ha := Lib.hid (Ha.out.on hbx)
  replace Hb := Lib.hid (Hb.out.on hbx)
  replace hb0 := hb0.trans (hbx.mono hb0.size)
  clear hbx
  go_wp2_with fail
  refine (comb26 A B c d a b _ Ha.out Hb.out hla hlb Hka.out Hkb.out).mono ?_
  rintro e w3 ⟨u, Au, cu, rfl, hru, hlu, hcu, hmu, hbx⟩
  have Hu := Lib.hid hru
  have HCu := Lib.hid hcu
  have HKu := Lib.hid (canon_iff.2 hcu)
  have HMu := Lib.hid hmu
  have hnu := canon_len hcu
  clear hru hcu hmu
  replace Ha := Lib.hid (Ha.out.on hbx)
  replace Hb := Lib.hid (Hb.out.on hbx)
  replace hb0 := hb0.trans (hbx.mono hb0.size)
  clear hbx
  go_wp2_with fail
  refine (comb27 A B c d a b _ Ha.out Hb.out hla hlb Hka.out Hkb.out).mono ?_
  rintro e w4 ⟨m, Am, cm, rfl, hrm, hlm, hcm, hmm, hbx⟩
  have Hm := Lib.hid hrm
  have HCm := Lib.hid hcm
  have HKm := Lib.hid (canon_iff.2 hcm)
  have HMm := Lib.hid hmm
  have hnm := canon_len hcm
  clear hrm hcm hmm
  replace Ha := Lib.hid (Ha.out.on hbx)
  replace Hb := Lib.hid (Hb.out.on hbx)
  replace Hu := Lib.hid (Hu.out.on hbx)
  replace hb0 := hb0.trans (hbx.mono hb0.size)
  clear hbx
  go_wp2_with fail
  refine (comb28 A B c d a b _ Ha.out Hb.out hla hlb Hka.out Hkb.out).mono ?_
  rintro e w5 ⟨d, Ad, cd, rfl, hrd, hld, hcd, hmd, hbx⟩
  have Hd := Lib.hid hrd
  have HCd := Lib.hid hcd
  have HKd := Lib.hid (canon_iff.2 hcd)
  have HMd := Lib.hid hmd
  have hnd := canon_len hcd
  clear hrd hcd hmd
  replace Ha := Lib.hid (Ha.out.on hbx)
  replace Hb := Lib.hid (Hb.out.on hbx)
  replace Hu := Lib.hid (Hu.out.on hbx)
  replace Hm := Lib.hid (Hm.out.on hbx)
  replace hb0 := hb0.trans (hbx.mono hb0.size)
  clear hbx
  have HE1 := Lib.hid (cnt_parts (canon_iff.1 Hka.out) HCm.out HCd.out HMm.out HMd.out)
  have HE2 := Lib.hid (cnt_union (canon_iff.1 Hka.out) (canon_iff.1 Hkb.out) HCu.out HCm.out HMu.out HMm.out)
  have qx := cnt_small Hka.out
  obtain ⟨x, Ex⟩ : ∃ x, Hid (cnt a a.length = x) := ⟨_, rfl⟩
  rw [Ex.out] at qx
  obtain ⟨px, qx⟩ := qx
  have qy := cnt_small Hkb.out
  obtain ⟨y, Ey⟩ : ∃ y, Hid (cnt b b.length = y) := ⟨_, rfl⟩
  rw [Ey.out] at qy
  obtain ⟨py, qy⟩ := qy
  have qz := cnt_small HKu.out
  obtain ⟨z, Ez⟩ : ∃ z, Hid (cnt u u.length = z) := ⟨_, rfl⟩
  rw [Ez.out] at qz
  obtain ⟨pz, qz⟩ := qz
  have qr := cnt_small HKm.out
  obtain ⟨r, Er⟩ : ∃ r, Hid (cnt m m.length = r) := ⟨_, rfl⟩
  rw [Er.out] at qr
  obtain ⟨pr, qr⟩ := qr
  have qt := cnt_small HKd.out
  obtain ⟨t, Et⟩ : ∃ t, Hid (cnt d d.length = t) := ⟨_, rfl⟩
  rw [Et.out] at qt
  obtain ⟨pt, qt⟩ := qt
  rw [Ex.out, Er.out, Et.out] at HE1
  rw [Ex.out, Ey.out, Er.out, Ez.out] at HE2
  have t1 : (x == r + t) = true := by rw [beq_iff_eq]; exact HE1.out
  have t2 : (z == x + y - r) = true := by rw [beq_iff_eq]; exact HE2.out
  go_wp2_with fail
  refine (Count_at _ _ a _ Ha.out (by omega) Hka.out x Ex.out).mono ?_
  rintro e w6 ⟨rfl, hbx⟩
  replace Ha := Lib.hid (Ha.out.on hbx)
  replace Hb := Lib.hid (Hb.out.on hbx)
  replace Hu := Lib.hid (Hu.out.on hbx)
  replace Hm := Lib.hid (Hm.out.on hbx)
  replace Hd := Lib.hid (Hd.out.on hbx)
  replace hb0 := hb0.trans (hbx.mono hb0.size)
  clear hbx
  go_wp2_with fail
  refine (Count_at _ _ b _ Hb.out (by omega) Hkb.out y Ey.out).mono ?_
  rintro e w7 ⟨rfl, hbx⟩
  replace Ha := Lib.hid (Ha.out.on hbx)
  replace Hb := Lib.hid (Hb.out.on hbx)
  replace Hu := Lib.hid (Hu.out.on hbx)
  replace Hm := Lib.hid (Hm.out.on hbx)
  replace Hd := Lib.hid (Hd.out.on hbx)
  replace hb0 := hb0.trans (hbx.mono hb0.size)
  clear hbx
  go_wp2_with fail
  refine (Count_at _ _ u _ Hu.out (by omega) HKu.out z Ez.out).mono ?_
  rintro e w8 ⟨rfl, hbx⟩
  replace Ha := Lib.hid (Ha.out.on hbx)
  replace Hb := Lib.hid (Hb.out.on hbx)
  replace Hu := Lib.hid (Hu.out.on hbx)
  replace Hm := Lib.hid (Hm.out.on hbx)
  replace Hd := Lib.hid (Hd.out.on hbx)
  replace hb0 := hb0.trans (hbx.mono hb0.size)
  clear hbx
  go_wp2_with fail
  refine (Count_at _ _ m _ Hm.out (by omega) HKm.out r Er.out).mono ?_
  rintro e w9 ⟨rfl, hbx⟩
  replace Ha := Lib.hid (Ha.out.on hbx)
  replace Hb := Lib.hid (Hb.out.on hbx)
  replace Hu := Lib.hid (Hu.out.on hbx)
  replace Hm := Lib.hid (Hm.out.on hbx)
  replace Hd := Lib.hid (Hd.out.on hbx)
  replace hb0 := hb0.trans (hbx.mono hb0.size)
  clear hbx
  go_wp2_with fail
  refine (Count_at _ _ d _ Hd.out (by omega) HKd.out t Et.out).mono ?_
  rintro e w10 ⟨rfl, hbx⟩
  replace Ha := Lib.hid (Ha.out.on hbx)
  replace Hb := Lib.hid (Hb.out.on hbx)
  replace Hu := Lib.hid (Hu.out.on hbx)
  replace Hm := Lib.hid (Hm.out.on hbx)
  replace Hd := Lib.hid (Hd.out.on hbx)
  replace hb0 := hb0.trans (hbx.mono hb0.size)
  clear hbx
  go_wp2_with fail
  refine (awake_any _).mono ?_
  rintro e w14 ⟨rfl, hbx⟩
  replace Ha := Lib.hid (Ha.out.on hbx)
  replace Hb := Lib.hid (Hb.out.on hbx)
  replace Hu := Lib.hid (Hu.out.on hbx)
  replace Hm := Lib.hid (Hm.out.on hbx)
  replace Hd := Lib.hid (Hd.out.on hbx)
  replace hb0 := hb0.trans (hbx.mono hb0.size)
  clear hbx
  go_wp2_with fail
  go_ret
  exact ⟨rfl, hb0⟩

theorem law7 (A B : Option Addr) (len c len' d : Nat) (a b : RL) (hx : a.length = len) (hy : b.length = len') (w : World) (hra : RdR w w.heap.size A a) (hrb : RdR w w.heap.size B b) (hla : len ≤ c) (hlb : len' ≤ d) :
    Calls Try.prog 7 #[.slice A len c, .slice B len' d] w (LawPost w) := by
  subst hx hy
  cases h : (decide (40 < a.length) || decide (40 < b.length)) with
  | true => exact law7_many A B a.length c b.length d w h
  | false =>
    simp at h
    cases hk1 : checkB a with
    | false => exact law7_bad1 A B a b c d w hra hrb h.1 h.2 hk1
    | true =>
      cases hk2 : checkB b with
      | false => exact law7_bad2 A B a b c d w hra hrb h.1 h.2 hk1 hk2
      | true => exact law7_ok A B a b c d w hra hrb h.1 h.2 hla hlb hk1 hk2
end Go.Proofs.Ytahlccihjjhgfaa
