/- The laws RevsetMeans, RevsetCounts, RevsetLaws. -/
import Derived.Test.YtahlccihjjhgfaaU
namespace Go.Proofs.Ytahlccihjjhgfaa
open Go.RowKit

set_option maxRecDepth 100000 in
set_option maxHeartbeats 1000000 in
theorem law8_many (A B : Option Addr) (n c m d : Nat) (k : Int) (w : World) (h : (decide (40 < n) || decide (40 < m)) = true) :
    Calls Try.prog 8 #[.slice A n c, .slice B m d, .int .i64 k] w (LawPost w) := by
  go_enter Try.func8, Try.ntmps8
  go_wp2_with (first | (go_at_call 11; refine (many_two _ A B n c m d _ (new_cell _ _ _ _ (by simp) 0) (new_cell _ _ _ _ (by simp) 1) true h).mono ?_; rintro e w' ⟨rfl, rfl⟩) | (go_at_call 12; refine (awake_any _).mono ?_; rintro e w1 ⟨rfl, hb1⟩))
  go_ret
  exact ⟨rfl, ((Below.refl _ w).alloc (Nat.le_refl _) _).trans (hb1.mono (by simp))⟩

set_option maxRecDepth 100000 in
set_option maxHeartbeats 1000000 in
theorem law8_bad1 (A B : Option Addr) (a b : RL) (c d : Nat) (k : Int) (w : World) (hra : RdR w w.heap.size A a) (hrb : RdR w w.heap.size B b) (h1 : a.length ≤ 40) (h2 : b.length ≤ 40) (hk : checkB a = false) :
    Calls Try.prog 8 #[.slice A a.length c, .slice B b.length d, .int .i64 k] w (LawPost w) := by
  have h : (decide (40 < a.length) || decide (40 < b.length)) = false := by simp; omega
  have H := Lib.hid h
  have Ha := Lib.hid (hra.alloc (.cells #[.slice A a.length c, .slice B b.length d] 22))
  have Hb := Lib.hid (hrb.alloc (.cells #[.slice A a.length c, .slice B b.length d] 22))
  have Hk := Lib.hid hk
  clear hra hrb hk h
  have hb0 : Below w.heap.size w (w.alloc (.cells #[.slice A a.length c, .slice B b.length d] 22)) := (Below.refl _ w).alloc (Nat.le_refl _) _
  go_enter Try.func8, Try.ntmps8
  go_wp2_with fail
  refine (many_two _ A B a.length c b.length d _ (new_cell _ _ _ _ (by simp) 0) (new_cell _ _ _ _ (by simp) 1) false H.out).mono ?_
  rintro e w' ⟨rfl, rfl⟩
  go_wp2_with fail
  refine (Check_no _ _ a _ Ha.out (by omega) Hk.out).mono ?_
  rintro e w1 ⟨rfl, hbx⟩
  replace Ha := Lib.hid (Ha.out.on hbx)
  replace Hb := Lib.hid (Hb.out.on hbx)
  replace hb0 := hb0.trans (hbx.mono hb0.size)
  clear hbx
  go_wp2_with fail
  refine (awake_any _).mono ?_
  rintro e w2 ⟨rfl, hbx⟩
  replace Ha := Lib.hid (Ha.out.on hbx)
  replace Hb := Lib.hid (Hb.out.on hbx)
  replace hb0 := hb0.trans (hbx.mono hb0.size)
  clear hbx
  go_wp2_with fail
  go_ret
  exact ⟨rfl, hb0⟩

set_option maxRecDepth 100000 in
set_option maxHeartbeats 1000000 in
theorem law8_bad2 (A B : Option Addr) (a b : RL) (c d : Nat) (k : Int) (w : World) (hra : RdR w w.heap.size A a) (hrb : RdR w w.heap.size B b) (h1 : a.length ≤ 40) (h2 : b.length ≤ 40) (hk0 : checkB a = true) (hk : checkB b = false) :
    Calls Try.prog 8 #[.slice A a.length c, .slice B b.length d, .int .i64 k] w (LawPost w) := by
  have h : (decide (40 < a.length) || decide (40 < b.length)) = false := by simp; omega
  have H := Lib.hid h
  have Ha := Lib.hid (hra.alloc (.cells #[.slice A a.length c, .slice B b.length d] 22))
  have Hb := Lib.hid (hrb.alloc (.cells #[.slice A a.length c, .slice B b.length d] 22))
  have Hk := Lib.hid hk
  have Hk0 := Lib.hid hk0
  clear hk0
  clear hra hrb hk h
  have hb0 : Below w.heap.size w (w.alloc (.cells #[.slice A a.length c, .slice B b.length d] 22)) := (Below.refl _ w).alloc (Nat.le_refl _) _
  go_enter Try.func8, Try.ntmps8
  go_wp2_with fail
  refine (many_two _ A B a.length c b.length d _ (new_cell _ _ _ _ (by simp) 0) (new_cell _ _ _ _ (by simp) 1) false H.out).mono ?_
  rintro e w' ⟨rfl, rfl⟩
  go_wp2_with fail
  refine (Check_ok _ _ a _ Ha.out (by omega) Hk0.out).mono ?_
  rintro e w1 ⟨rfl, hbx⟩
  replace Ha := Lib.hid (Ha.out.on hbx)
  replace Hb := Lib.hid (Hb.out.on hbx)
  replace hb0 := hb0.trans (hbx.mono hb0.size)
  clear hbx
  go_wp2_with fail
  refine (Check_no _ _ b _ Hb.out (by omega) Hk.out).mono ?_
  rintro e w2 ⟨rfl, hbx⟩
  replace Ha := Lib.hid (Ha.out.on hbx)
  replace Hb := Lib.hid (Hb.out.on hbx)
  replace hb0 := hb0.trans (hbx.mono hb0.size)
  clear hbx
  go_wp2_with fail
  refine (awake_any _).mono ?_
  rintro e w3 ⟨rfl, hbx⟩
  replace Ha := Lib.hid (Ha.out.on hbx)
  replace Hb := Lib.hid (Hb.out.on hbx)
  replace hb0 := hb0.trans (hbx.mono hb0.size)
  clear hbx
  go_wp2_with fail
  go_ret
  exact ⟨rfl, hb0⟩

set_option maxRecDepth 100000 in
set_option maxHeartbeats 4000000 in
theorem law8_ok (A B : Option Addr) (a b : RL) (c d : Nat) (k : Int) (w : World) (hra : RdR w w.heap.size A a) (hrb : RdR w w.heap.size B b) (h1 : a.length ≤ 40) (h2 : b.length ≤ 40) (hla : a.length ≤ c) (hlb : b.length ≤ d) (hka : checkB a = true) (hkb : checkB b = true) (p q : Bool) (hp : a.any (inR k) = p) (hq : b.any (inR k) = q) :
    Calls Try.prog 8 #[.slice A a.length c, .slice B b.length d, .int .i64 k] w (LawPost w) := by
  have h : (decide (40 < a.length) || decide (40 < b.length)) = false := by simp; omega
  have H := Lib.hid h
  have Ha := Lib.hid (hra.alloc (.cells #[.slice A a.length c, .slice B b.length d] 22))
  have Hb := Lib.hid (hrb.alloc (.cells #[.slice A a.length c, .slice B b.length d] 22))
  have Hka := Lib.hid hka
  have Hkb := Lib.hid hkb
  clear hra hrb hka hkb h
  have hb0 : Below w.heap.size w (w.alloc (.cells #[.slice A a.length c, .slice B b.length d] 22)) := (Below.refl _ w).alloc (Nat.le_refl _) _
  have Hp := Lib.hid hp
  have Hq := Lib.hid hq
  clear hp hq
  go_enter Try.func8, Try.ntmps8
  go_wp2_with fail
  refine (many_two _ A B a.length c b.length d _ (new_cell _ _ _ _ (by simp) 0) (new_cell _ _ _ _ (by simp) 1) false H.out).mono ?_
  rintro e w' ⟨rfl, rfl⟩
  go_wp2_with fail
  refine (Check_ok _ _ a _ Ha.out (by omega) Hka.out).mono ?_
  rintro e w1 ⟨rfl, hbx⟩
  replace Ha := Lib.hid (Ha.out.on hbx)
  replace Hb := Lib.hid (Hb.out.on hbx)
  replace hb0 := hb0.trans (hbx.mono hb0.size)
  clear hbx
  go_wp2_with fail
  refine (Check_ok _ _ b _ Hb.out (by omega) Hkb.out).mono ?_
  rintro e w2 ⟨rfl, hbx⟩
  replace Ha := Lib.hid (Ha.out.on hbx)
  replace Hb := Lib.hid (Hb.out.on hbx)
  replace hb0 := hb0.trans (hbx.mono hb0.size)
  clear hbx
  go_wp2_with fail
  refine (comb26 A B c d a b _ Ha.out Hb.out hla hlb Hka.out Hkb.out).mono ?_
  rintro e w3 ⟨u, Au, cu, rfl, hru, hlu, hcu, hmu, hbx⟩
  have Hu := Lib.hid hru
  have HCu := Lib.hid hcu
  have HKu := Lib.hid (canon_iff.2 hcu)
  have HMu := Lib.hid hmu
  have hnu := canon_len hcu
  clear hru hcu hmu
  replace Ha := Lib.hid (Ha.out.on hbx)
  replace Hb := Lib.hid (Hb.out.on hbx)
  replace hb0 := hb0.trans (hbx.mono hb0.size)
  clear hbx
  go_wp2_with fail
  refine (comb27 A B c d a b _ Ha.out Hb.out hla hlb Hka.out Hkb.out).mono ?_
  rintro e w4 ⟨m, Am, cm, rfl, hrm, hlm, hcm, hmm, hbx⟩
  have Hm := Lib.hid hrm
  have HCm := Lib.hid hcm
  have HKm := Lib.hid (canon_iff.2 hcm)
  have HMm := Lib.hid hmm
  have hnm := canon_len hcm
  clear hrm hcm hmm
  replace Ha := Lib.hid (Ha.out.on hbx)
  replace Hb := Lib.hid (Hb.out.on hbx)
  replace Hu := Lib.hid (Hu.out.on hbx)
  replace hb0 := hb0.trans (hbx.mono hb0.size)
  clear hbx
  go_wp2_with fail
  refine (comb28 A B c d a b _ Ha.out Hb.out hla hlb Hka.out Hkb.out).mono ?_
  rintro e w5 ⟨d, Ad, cd, rfl, hrd, hld, hcd, hmd, hbx⟩
  have Hd := Lib.hid hrd
  have HCd := Lib.hid hcd
  have HKd := Lib.hid (canon_iff.2 hcd)
  have HMd := Lib.hid hmd
  have hnd := canon_len hcd
  clear hrd hcd hmd
  replace Ha := Lib.hid (Ha.out.on hbx)
  replace Hb := Lib.hid (Hb.out.on hbx)
  replace Hu := Lib.hid (Hu.out.on hbx)
  replace Hm := Lib.hid (Hm.out.on hbx)
  replace hb0 := hb0.trans (hbx.mono hb0.size)
  clear hbx
  have HVu : Hid (u.any (inR k) = orB p q) := any_iff (by rw [HMu.out, Hp.out, Hq.out])
  have HVm : Hid (m.any (inR k) = andB p q) := any_iff (by rw [HMm.out, Hp.out, Hq.out])
  have HVd : Hid (d.any (inR k) = notB p q) := any_iff (by rw [HMd.out, Hp.out, Hq.out])
  go_wp2_with fail
  refine (Check_ok _ _ u _ Hu.out (by omega) HKu.out).mono ?_
  rintro e w6 ⟨rfl, hbx⟩
  replace Ha := Lib.hid (Ha.out.on hbx)
  replace Hb := Lib.hid (Hb.out.on hbx)
  replace Hu := Lib.hid (Hu.out.on hbx)
  replace Hm := Lib.hid (Hm.out.on hbx)
  replace Hd := Lib.hid (Hd.out.on hbx)
  replace hb0 := hb0.trans (hbx.mono hb0.size)
  clear hbx
  go_wp2_with fail
  refine (Check_ok _ _ m _ Hm.out (by omega) HKm.out).mono ?_
  rintro e w7 ⟨rfl, hbx⟩
  replace Ha := Lib.hid (Ha.out.on hbx)
  replace Hb := Lib.hid (Hb.out.on hbx)
  replace Hu := Lib.hid (Hu.out.on hbx)
  replace Hm := Lib.hid (Hm.out.on hbx)
  replace Hd := Lib.hid (Hd.out.on hbx)
  replace hb0 := hb0.trans (hbx.mono hb0.size)
  clear hbx
  go_wp2_with fail
  refine (Check_ok _ _ d _ Hd.out (by omega) HKd.out).mono ?_
  rintro e w8 ⟨rfl, hbx⟩
  replace Ha := Lib.hid (Ha.out.on hbx)
  replace Hb := Lib.hid (Hb.out.on hbx)
  replace Hu := Lib.hid (Hu.out.on hbx)
  replace Hm := Lib.hid (Hm.out.on hbx)
  replace Hd := Lib.hid (Hd.out.on hbx)
  replace hb0 := hb0.trans (hbx.mono hb0.size)
  clear hbx
  go_wp2_with fail
  refine (Has_at _ _ a k _ Ha.out (by omega) Hka.out p Hp.out).mono ?_
  rintro e w9 ⟨rfl, hbx⟩
  replace Ha := Lib.hid (Ha.out.on hbx)
  replace Hb := Lib.hid (Hb.out.on hbx)
  replace Hu := Lib.hid (Hu.out.on hbx)
  replace Hm := Lib.hid (Hm.out.on hbx)
  replace Hd := Lib.hid (Hd.out.on hbx)
  replace hb0 := hb0.trans (hbx.mono hb0.size)
  clear hbx
  go_wp2_with fail
  refine (Has_at _ _ b k _ Hb.out (by omega) Hkb.out q Hq.out).mono ?_
  rintro e w10 ⟨rfl, hbx⟩
  replace Ha := Lib.hid (Ha.out.on hbx)
  replace Hb := Lib.hid (Hb.out.on hbx)
  replace Hu := Lib.hid (Hu.out.on hbx)
  replace Hm := Lib.hid (Hm.out.on hbx)
  replace Hd := Lib.hid (Hd.out.on hbx)
  replace hb0 := hb0.trans (hbx.mono hb0.size)
  clear hbx
  cases p <;> cases q
  all_goals
    go_wp2_with fail
    refine (Has_at _ _ u k _ Hu.out (by omega) HKu.out _ HVu.out).mono ?_
    rintro e w11 ⟨rfl, hbx⟩
    simp only [orB, Bool.or_false, Bool.or_true, Bool.false_and, Bool.true_and, Bool.not_true, Bool.not_false, Bool.or_self, Bool.and_self, Bool.and_false, Bool.and_true]
    replace Ha := Lib.hid (Ha.out.on hbx)
    replace Hb := Lib.hid (Hb.out.on hbx)
    replace Hu := Lib.hid (Hu.out.on hbx)
    replace Hm := Lib.hid (Hm.out.on hbx)
    replace Hd := Lib.hid (Hd.out.on hbx)
    replace hb0 := hb0.trans (hbx.mono hb0.size)
    clear hbx
    go_wp2_with fail
    refine (Has_at _ _ m k _ Hm.out (by omega) HKm.out _ HVm.out).mono ?_
    rintro e w12 ⟨rfl, hbx⟩
    simp only [andB, Bool.or_false, Bool.or_true, Bool.false_and, Bool.true_and, Bool.not_true, Bool.not_false, Bool.or_self, Bool.and_self, Bool.and_false, Bool.and_true]
    replace Ha := Lib.hid (Ha.out.on hbx)
    replace Hb := Lib.hid (Hb.out.on hbx)
    replace Hu := Lib.hid (Hu.out.on hbx)
    replace Hm := Lib.hid (Hm.out.on hbx)
    replace Hd := Lib.hid (Hd.out.on hbx)
    replace hb0 := hb0.trans (hbx.mono hb0.size)
    clear hbx
    go_wp2_with fail
    refine (Has_at _ _ d k _ Hd.out (by omega) HKd.out _ HVd.out).mono ?_
    rintro e w13 ⟨rfl, hbx⟩
    simp only [notB, Bool.or_false, Bool.or_true, Bool.false_and, Bool.true_and, Bool.not_true, Bool.not_false, Bool.or_self, Bool.and_self, Bool.and_false, Bool.and_true]
    replace Ha := Lib.hid (Ha.out.on hbx)
    replace Hb := Lib.hid (Hb.out.on hbx)
    replace Hu := Lib.hid (Hu.out.on hbx)
    replace Hm := Lib.hid (Hm.out.on hbx)
    replace Hd := Lib.hid (Hd.out.on hbx)
    replace hb0 := hb0.trans (hbx.mono hb0.size)
    clear hbx
    go_wp2_with fail
    refine (awake_any _).mono ?_
    rintro e w14 ⟨rfl, hbx⟩
    replace Ha := Lib.hid (Ha.out.on hbx)
    replace Hb := Lib.hid (Hb.out.on hbx)
    replace Hu := Lib.hid (Hu.out.on hbx)
    replace Hm := Lib.hid (Hm.out.on hbx)
    replace Hd := Lib.hid (Hd.out.on hbx)
    replace hb0 := hb0.trans (hbx.mono hb0.size)
    clear hbx
    go_wp2_with fail
    go_ret
    exact ⟨rfl, hb0⟩

theorem law8 (A B : Option Addr) (len c len' d : Nat) (a b : RL) (hx : a.length = len) (hy : b.length = len') (k : Int) (w : World) (hra : RdR w w.heap.size A a) (hrb : RdR w w.heap.size B b) (hla : len ≤ c) (hlb : len' ≤ d) :
    Calls Try.prog 8 #[.slice A len c, .slice B len' d, .int .i64 k] w (LawPost w) := by
  subst hx hy
  cases h : (decide (40 < a.length) || decide (40 < b.length)) with
  | true => exact law8_many A B a.length c b.length d k w h
  | false =>
    simp at h
    cases hk1 : checkB a with
    | false => exact law8_bad1 A B a b c d k w hra hrb h.1 h.2 hk1
    | true =>
      cases hk2 : checkB b with
      | false => exact law8_bad2 A B a b c d k w hra hrb h.1 h.2 hk1 hk2
      | true => exact law8_ok A B a b c d k w hra hrb h.1 h.2 hla hlb hk1 hk2 _ _ rfl rfl
end Go.Proofs.Ytahlccihjjhgfaa
