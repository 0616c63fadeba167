/- The law RevsetLaws. -/
import Derived.Test.YtahlccihjjhgfaaU
namespace Go.Proofs.Ytahlccihjjhgfaa
open Go.RowKit

set_option maxRecDepth 100000 in
set_option maxHeartbeats 1000000 in
theorem law6_many (A B C : Option Addr) (n c m d k f : Nat) (w : World) (h : (decide (40 < n) || (decide (40 < m) || decide (40 < k))) = true) :
    Calls Try.prog 6 #[.slice A n c, .slice B m d, .slice C k f] w (LawPost w) := by
  go_enter Try.func6, Try.ntmps6
  go_wp2_with (first | (go_at_call 11; refine (many_three _ A B C n c m d k f _ (new_cell _ _ _ _ (by simp) 0) (new_cell _ _ _ _ (by simp) 1) (new_cell _ _ _ _ (by simp) 2) true h).mono ?_; rintro e w' ⟨rfl, rfl⟩) | (go_at_call 12; refine (awake_any _).mono ?_; rintro e w1 ⟨rfl, hb1⟩))
  go_ret
  exact ⟨rfl, ((Below.refl _ w).alloc (Nat.le_refl _) _).trans (hb1.mono (by simp))⟩

set_option maxRecDepth 100000 in
set_option maxHeartbeats 8000000 in
theorem law6_bad1 (A B C : Option Addr) (a b c : RL) (ca cb cc : Nat) (w : World) (hra : RdR w w.heap.size A a) (hrb : RdR w w.heap.size B b) (hrc : RdR w w.heap.size C c) (h1 : a.length ≤ 40) (h2 : b.length ≤ 40) (h3 : c.length ≤ 40) (hka : checkB a = false) :
    Calls Try.prog 6 #[.slice A a.length ca, .slice B b.length cb, .slice C c.length cc] w (LawPost w) := by
  have h : (decide (40 < a.length) || (decide (40 < b.length) || decide (40 < c.length))) = false := by simp; omega
  have H := Lib.hid h
  have Ha := Lib.hid (hra.alloc (.cells #[.slice A a.length ca, .slice B b.length cb, .slice C c.length cc] 22))
  have Hb := Lib.hid (hrb.alloc (.cells #[.slice A a.length ca, .slice B b.length cb, .slice C c.length cc] 22))
  have Hc := Lib.hid (hrc.alloc (.cells #[.slice A a.length ca, .slice B b.length cb, .slice C c.length cc] 22))
  clear hra hrb hrc h
  have Hka := Lib.hid hka
  clear hka
  have hb0 : Below w.heap.size w (w.alloc (.cells #[.slice A a.length ca, .slice B b.length cb, .slice C c.length cc] 22)) := (Below.refl _ w).alloc (Nat.le_refl _) _
  go_enter Try.func6, Try.ntmps6
  go_wp2_with fail
  refine (many_three _ A B C a.length ca b.length cb c.length cc _ (new_cell _ _ _ _ (by simp) 0) (new_cell _ _ _ _ (by simp) 1) (new_cell _ _ _ _ (by simp) 2) false H.out).mono ?_
  rintro e w' ⟨rfl, rfl⟩
  go_wp2_with fail
  refine (Check_no _ _ a _ Ha.out (by omega) Hka.out).mono ?_
  rintro e w1 ⟨rfl, hbx⟩
  replace Ha := Lib.hid (Ha.out.on hbx)
  replace Hb := Lib.hid (Hb.out.on hbx)
  replace Hc := Lib.hid (Hc.out.on hbx)
  replace hb0 := hb0.trans (hbx.mono hb0.size)
  clear hbx
  go_wp2_with fail
  refine (awake_any _).mono ?_
  rintro e w9 ⟨rfl, hbx⟩
  replace Ha := Lib.hid (Ha.out.on hbx)
  replace Hb := Lib.hid (Hb.out.on hbx)
  replace Hc := Lib.hid (Hc.out.on hbx)
  replace hb0 := hb0.trans (hbx.mono hb0.size)
  clear hbx
  go_wp2_with fail
  go_ret
  exact ⟨rfl, hb0⟩

set_option maxRecDepth 100000 in
set_option maxHeartbeats 8000000 in
theorem law6_bad2 (A B C : Option Addr) (a b c : RL) (ca cb cc : Nat) (w : World) (hra : RdR w w.heap.size A a) (hrb : RdR w w.heap.size B b) (hrc : RdR w w.heap.size C c) (h1 : a.length ≤ 40) (h2 : b.length ≤ 40) (h3 : c.length ≤ 40) (hka : checkB a = true) (hkb : checkB b = false) :
    Calls Try.prog 6 #[.slice A a.length ca, .slice B b.length cb, .slice C c.length cc] w (LawPost w) := by
  have h : (decide (40 < a.length) || (decide (40 < b.length) || decide (40 < c.length))) = false := by simp; omega
  have H := Lib.hid h
  have Ha := Lib.hid (hra.alloc (.cells #[.slice A a.length ca, .slice B b.length cb, .slice C c.length cc] 22))
  have Hb := Lib.hid (hrb.alloc (.cells #[.slice A a.length ca, .slice B b.length cb, .slice C c.length cc] 22))
  have Hc := Lib.hid (hrc.alloc (.cells #[.slice A a.length ca, .slice B b.length cb, .slice C c.length cc] 22))
  clear hra hrb hrc h
  have Hka := Lib.hid hka
  clear hka
  have Hkb := Lib.hid hkb
  clear hkb
  have hb0 : Below w.heap.size w (w.alloc (.cells #[.slice A a.length ca, .slice B b.length cb, .slice C c.length cc] 22)) := (Below.refl _ w).alloc (Nat.le_refl _) _
  go_enter Try.func6, Try.ntmps6
  go_wp2_with fail
  refine (many_three _ A B C a.length ca b.length cb c.length cc _ (new_cell _ _ _ _ (by simp) 0) (new_cell _ _ _ _ (by simp) 1) (new_cell _ _ _ _ (by simp) 2) false H.out).mono ?_
  rintro e w' ⟨rfl, rfl⟩
  go_wp2_with fail
  refine (Check_ok _ _ a _ Ha.out (by omega) Hka.out).mono ?_
  rintro e w1 ⟨rfl, hbx⟩
  replace Ha := Lib.hid (Ha.out.on hbx)
  replace Hb := Lib.hid (Hb.out.on hbx)
  replace Hc := Lib.hid (Hc.out.on hbx)
  replace hb0 := hb0.trans (hbx.mono hb0.size)
  clear hbx
  go_wp2_with fail
  refine (Check_no _ _ b _ Hb.out (by omega) Hkb.out).mono ?_
  rintro e w2 ⟨rfl, hbx⟩
  replace Ha := Lib.hid (Ha.out.on hbx)
  replace Hb := Lib.hid (Hb.out.on hbx)
  replace Hc := Lib.hid (Hc.out.on hbx)
  replace hb0 := hb0.trans (hbx.mono hb0.size)
  clear hbx
  go_wp2_with fail
  refine (awake_any _).mono ?_
  rintro e w9 ⟨rfl, hbx⟩
  replace Ha := Lib.hid (Ha.out.on hbx)
  replace Hb := Lib.hid (Hb.out.on hbx)
  replace Hc := Lib.hid (Hc.out.on hbx)
  replace hb0 := hb0.trans (hbx.mono hb0.size)
  clear hbx
  go_wp2_with fail
  go_ret
  exact ⟨rfl, hb0⟩

set_option maxRecDepth 100000 in
set_option maxHeartbeats 8000000 in
theorem law6_bad3 (A B C : Option Addr) (a b c : RL) (ca cb cc : Nat) (w : World) (hra : RdR w w.heap.size A a) (hrb : RdR w w.heap.size B b) (hrc : RdR w w.heap.size C c) (h1 : a.length ≤ 40) (h2 : b.length ≤ 40) (h3 : c.length ≤ 40) (hka : checkB a = true) (hkb : checkB b = true) (hkc : checkB c = false) :
    Calls Try.prog 6 #[.slice A a.length ca, .slice B b.length cb, .slice C c.length cc] w (LawPost w) := by
  have h : (decide (40 < a.length) || (decide (40 < b.length) || decide (40 < c.length))) = false := by simp; omega
  have H := Lib.hid h
  have Ha := Lib.hid (hra.alloc (.cells #[.slice A a.length ca, .slice B b.length cb, .slice C c.length cc] 22))
  have Hb := Lib.hid (hrb.alloc (.cells #[.slice A a.length ca, .slice B b.length cb, .slice C c.length cc] 22))
  have Hc := Lib.hid (hrc.alloc (.cells #[.slice A a.length ca, .slice B b.length cb, .slice C c.length cc] 22))
  clear hra hrb hrc h
  have Hka := Lib.hid hka
  clear hka
  have Hkb := Lib.hid hkb
  clear hkb
  have Hkc := Lib.hid hkc
  clear hkc
  have hb0 : Below w.heap.size w (w.alloc (.cells #[.slice A a.length ca, .slice B b.length cb, .slice C c.length cc] 22)) := (Below.refl _ w).alloc (Nat.le_refl _) _
  go_enter Try.func6, Try.ntmps6
  go_wp2_with fail
  refine (many_three _ A B C a.length ca b.length cb c.length cc _ (new_cell _ _ _ _ (by simp) 0) (new_cell _ _ _ _ (by simp) 1) (new_cell _ _ _ _ (by simp) 2) false H.out).mono ?_
  rintro e w' ⟨rfl, rfl⟩
  go_wp2_with fail
  refine (Check_ok _ _ a _ Ha.out (by omega) Hka.out).mono ?_
  rintro e w1 ⟨rfl, hbx⟩
  replace Ha := Lib.hid (Ha.out.on hbx)
  replace Hb := Lib.hid (Hb.out.on hbx)
  replace Hc := Lib.hid (Hc.out.on hbx)
  replace hb0 := hb0.trans (hbx.mono hb0.size)
  clear hbx
  go_wp2_with fail
  refine (Check_ok _ _ b _ Hb.out (by omega) Hkb.out).mono ?_
  rintro e w2 ⟨rfl, hbx⟩
  replace Ha := Lib.hid (Ha.out.on hbx)
  replace Hb := Lib.hid (Hb.out.on hbx)
  replace Hc := Lib.hid (Hc.out.on hbx)
  replace hb0 := hb0.trans (hbx.mono hb0.size)
  clear hbx
  go_wp2_with fail
  refine (Check_no _ _ c _ Hc.out (by omega) Hkc.out).mono ?_
  rintro e w3 ⟨rfl, hbx⟩
  replace Ha := Lib.hid (Ha.out.on hbx)
  replace Hb := Lib.hid (Hb.out.on hbx)
  replace Hc := Lib.hid (Hc.out.on hbx)
  replace hb0 := hb0.trans (hbx.mono hb0.size)
  clear hbx
  go_wp2_with fail
  refine (awake_any _).mono ?_
  rintro e w9 ⟨rfl, hbx⟩
  replace Ha := Lib.hid (Ha.out.on hbx)
  replace Hb := Lib.hid (Hb.out.on hbx)
  replace Hc := Lib.hid (Hc.out.on hbx)
  replace hb0 := hb0.trans (hbx.mono hb0.size)
  clear hbx
  go_wp2_with fail
  go_ret
  exact ⟨rfl, hb0⟩

set_option maxRecDepth 100000 in
set_option maxHeartbeats 8000000 in
theorem law6_ok (A B C : Option Addr) (a b c : RL) (ca cb cc : Nat) (w : World) (hra : RdR w w.heap.size A a) (hrb : RdR w w.heap.size B b) (hrc : RdR w w.heap.size C c) (h1 : a.length ≤ 40) (h2 : b.length ≤ 40) (h3 : c.length ≤ 40) (hla : a.length ≤ ca) (hlb : b.length ≤ cb) (hlc : c.length ≤ cc) (hka : checkB a = true) (hkb : checkB b = true) (hkc : checkB c = true) :
    Calls Try.prog 6 #[.slice A a.length ca, .slice B b.length cb, .slice C c.length cc] w (LawPost w) := by
  have h : (decide (40 < a.length) || (decide (40 < b.length) || decide (40 < c.length))) = false := by simp; omega
  have H := Lib.hid h
  have Ha := Lib.hid (hra.alloc (.cells #[.slice A a.length ca, .slice B b.length cb, .slice C c.length cc] 22))
  have Hb := Lib.hid (hrb.alloc (.cells #[.slice A a.length ca, .slice B b.length cb, .slice C c.length cc] 22))
  have Hc := Lib.hid (hrc.alloc (.cells #[.slice A a.length ca, .slice B b.length cb, .slice C c.length cc] 22))
  clear hra hrb hrc h
  have Hka := Lib.hid hka
  clear hka
  have Hkb := Lib.hid hkb
  clear hkb
  have Hkc := Lib.hid hkc
  clear hkc
  have hb0 : Below w.heap.size w (w.alloc (.cells #[.slice A a.length ca, .slice B b.length cb, .slice C c.length cc] 22)) := (Below.refl _ w).alloc (Nat.le_refl _) _
  go_enter Try.func6, Try.ntmps6
  go_wp2_with fail
  refine (many_three _ A B C a.length ca b.length cb c.length cc _ (new_cell _ _ _ _ (by simp) 0) (new_cell _ _ _ _ (by simp) 1) (new_cell _ _ _ _ (by simp) 2) false H.out).mono ?_
  rintro e w' ⟨rfl, rfl⟩
  go_wp2_with fail
  refine (Check_ok _ _ a _ Ha.out (by omega) Hka.out).mono ?_
  rintro e w1 ⟨rfl, hbx⟩
  replace Ha := Lib.hid (Ha.out.on hbx)
  replace Hb := Lib.hid (Hb.out.on hbx)
  replace Hc := Lib.hid (Hc.out.on hbx)
  replace hb0 := hb0.trans (hbx.mono hb0.size)
  clear hbx
  go_wp2_with fail
  refine (Check_ok _ _ b _ Hb.out (by omega) Hkb.out).mono ?_
  rintro e w2 ⟨rfl, hbx⟩
  replace Ha := Lib.hid (Ha.out.on hbx)
  replace Hb := Lib.hid (Hb.out.on hbx)
  replace Hc := Lib.hid (Hc.out.on hbx)
  replace hb0 := hb0.trans (hbx.mono hb0.size)
  clear hbx
  go_wp2_with fail
  refine (Check_ok _ _ c _ Hc.out (by omega) Hkc.out).mono ?_
  rintro e w3 ⟨rfl, hbx⟩
  replace Ha := Lib.hid (Ha.out.on hbx)
  replace Hb := Lib.hid (Hb.out.on hbx)
  replace Hc := Lib.hid (Hc.out.on hbx)
  replace hb0 := hb0.trans (hbx.mono hb0.size)
  clear hbx
  have HCa := Lib.hid (canon_iff.1 Hka.out)
  have HCb := Lib.hid (canon_iff.1 Hkb.out)
  have HCc := Lib.hid (canon_iff.1 Hkc.out)
  go_wp2_with fail
  refine (set24 A B ca cb a b _ Ha.out Hb.out hla hlb HCa.out HCb.out).mono ?_
  rintro e w11 ⟨t1, At1, ct1, rfl, hrt1, hlt1, hct1, hmt1, hbx⟩
  have Ht1 := Lib.hid hrt1
  have HCt1 := Lib.hid hct1
  have HVt1 : Hid (∀ n, t1.any (inR n) = orB (a.any (inR n)) (b.any (inR n))) := fun n => any_iff (hmt1 n)
  clear hrt1 hct1 hmt1
  replace Ha := Lib.hid (Ha.out.on hbx)
  replace Hb := Lib.hid (Hb.out.on hbx)
  replace Hc := Lib.hid (Hc.out.on hbx)
  replace hb0 := hb0.trans (hbx.mono hb0.size)
  clear hbx
  go_wp2_with fail
  refine (set24 B A cb ca b a _ Hb.out Ha.out hlb hla HCb.out HCa.out).mono ?_
  rintro e w12 ⟨t2, At2, ct2, rfl, hrt2, hlt2, hct2, hmt2, hbx⟩
  have Ht2 := Lib.hid hrt2
  have HCt2 := Lib.hid hct2
  have HVt2 : Hid (∀ n, t2.any (inR n) = orB (b.any (inR n)) (a.any (inR n))) := fun n => any_iff (hmt2 n)
  clear hrt2 hct2 hmt2
  replace Ha := Lib.hid (Ha.out.on hbx)
  replace Hb := Lib.hid (Hb.out.on hbx)
  replace Hc := Lib.hid (Hc.out.on hbx)
  replace Ht1 := Lib.hid (Ht1.out.on hbx)
  replace hb0 := hb0.trans (hbx.mono hb0.size)
  clear hbx
  go_wp2_with fail
  refine (eq_yes _ _ _ _ t1 t2 _ Ht1.out Ht2.out HCt1.out HCt2.out (canon_eq HCt1.out HCt2.out (fun n => by rw [← mem_iff, ← mem_iff]; simp only [HVt1.out, HVt2.out, orB, andB]; cases a.any (inR n) <;> cases b.any (inR n) <;> cases c.any (inR n) <;> rfl))).mono ?_
  rintro e w13 ⟨rfl, hbx⟩
  replace Ha := Lib.hid (Ha.out.on hbx)
  replace Hb := Lib.hid (Hb.out.on hbx)
  replace Hc := Lib.hid (Hc.out.on hbx)
  replace Ht1 := Lib.hid (Ht1.out.on hbx)
  replace Ht2 := Lib.hid (Ht2.out.on hbx)
  replace hb0 := hb0.trans (hbx.mono hb0.size)
  clear hbx
  clear Ht1 HCt1 HVt1
  clear Ht2 HCt2 HVt2
  go_wp2_with fail
  refine (set25 A B ca cb a b _ Ha.out Hb.out hla hlb HCa.out HCb.out).mono ?_
  rintro e w14 ⟨t3, At3, ct3, rfl, hrt3, hlt3, hct3, hmt3, hbx⟩
  have Ht3 := Lib.hid hrt3
  have HCt3 := Lib.hid hct3
  have HVt3 : Hid (∀ n, t3.any (inR n) = andB (a.any (inR n)) (b.any (inR n))) := fun n => any_iff (hmt3 n)
  clear hrt3 hct3 hmt3
  replace Ha := Lib.hid (Ha.out.on hbx)
  replace Hb := Lib.hid (Hb.out.on hbx)
  replace Hc := Lib.hid (Hc.out.on hbx)
  replace hb0 := hb0.trans (hbx.mono hb0.size)
  clear hbx
  go_wp2_with fail
  refine (set25 B A cb ca b a _ Hb.out Ha.out hlb hla HCb.out HCa.out).mono ?_
  rintro e w15 ⟨t4, At4, ct4, rfl, hrt4, hlt4, hct4, hmt4, hbx⟩
  have Ht4 := Lib.hid hrt4
  have HCt4 := Lib.hid hct4
  have HVt4 : Hid (∀ n, t4.any (inR n) = andB (b.any (inR n)) (a.any (inR n))) := fun n => any_iff (hmt4 n)
  clear hrt4 hct4 hmt4
  replace Ha := Lib.hid (Ha.out.on hbx)
  replace Hb := Lib.hid (Hb.out.on hbx)
  replace Hc := Lib.hid (Hc.out.on hbx)
  replace Ht3 := Lib.hid (Ht3.out.on hbx)
  replace hb0 := hb0.trans (hbx.mono hb0.size)
  clear hbx
  go_wp2_with fail
  refine (eq_yes _ _ _ _ t3 t4 _ Ht3.out Ht4.out HCt3.out HCt4.out (canon_eq HCt3.out HCt4.out (fun n => by rw [← mem_iff, ← mem_iff]; simp only [HVt3.out, HVt4.out, orB, andB]; cases a.any (inR n) <;> cases b.any (inR n) <;> cases c.any (inR n) <;> rfl))).mono ?_
  rintro e w16 ⟨rfl, hbx⟩
  replace Ha := Lib.hid (Ha.out.on hbx)
  replace Hb := Lib.hid (Hb.out.on hbx)
  replace Hc := Lib.hid (Hc.out.on hbx)
  replace Ht3 := Lib.hid (Ht3.out.on hbx)
  replace Ht4 := Lib.hid (Ht4.out.on hbx)
  replace hb0 := hb0.trans (hbx.mono hb0.size)
  clear hbx
  clear Ht3 HCt3 HVt3
  clear Ht4 HCt4 HVt4
  go_wp2_with fail
  refine (set24 A A ca ca a a _ Ha.out Ha.out hla hla HCa.out HCa.out).mono ?_
  rintro e w17 ⟨t5, At5, ct5, rfl, hrt5, hlt5, hct5, hmt5, hbx⟩
  have Ht5 := Lib.hid hrt5
  have HCt5 := Lib.hid hct5
  have HVt5 : Hid (∀ n, t5.any (inR n) = orB (a.any (inR n)) (a.any (inR n))) := fun n => any_iff (hmt5 n)
  clear hrt5 hct5 hmt5
  replace Ha := Lib.hid (Ha.out.on hbx)
  replace Hb := Lib.hid (Hb.out.on hbx)
  replace Hc := Lib.hid (Hc.out.on hbx)
  replace hb0 := hb0.trans (hbx.mono hb0.size)
  clear hbx
  go_wp2_with fail
  refine (eq_yes _ _ _ _ t5 a _ Ht5.out Ha.out HCt5.out HCa.out (canon_eq HCt5.out HCa.out (fun n => by rw [← mem_iff, ← mem_iff]; simp only [HVt5.out, orB, andB]; cases a.any (inR n) <;> cases b.any (inR n) <;> cases c.any (inR n) <;> rfl))).mono ?_
  rintro e w18 ⟨rfl, hbx⟩
  replace Ha := Lib.hid (Ha.out.on hbx)
  replace Hb := Lib.hid (Hb.out.on hbx)
  replace Hc := Lib.hid (Hc.out.on hbx)
  replace Ht5 := Lib.hid (Ht5.out.on hbx)
  replace hb0 := hb0.trans (hbx.mono hb0.size)
  clear hbx
  clear Ht5 HCt5 HVt5
  go_wp2_with fail
  refine (set25 A A ca ca a a _ Ha.out Ha.out hla hla HCa.out HCa.out).mono ?_
  rintro e w19 ⟨t6, At6, ct6, rfl, hrt6, hlt6, hct6, hmt6, hbx⟩
  have Ht6 := Lib.hid hrt6
  have HCt6 := Lib.hid hct6
  have HVt6 : Hid (∀ n, t6.any (inR n) = andB (a.any (inR n)) (a.any (inR n))) := fun n => any_iff (hmt6 n)
  clear hrt6 hct6 hmt6
  replace Ha := Lib.hid (Ha.out.on hbx)
  replace Hb := Lib.hid (Hb.out.on hbx)
  replace Hc := Lib.hid (Hc.out.on hbx)
  replace hb0 := hb0.trans (hbx.mono hb0.size)
  clear hbx
  go_wp2_with fail
  refine (eq_yes _ _ _ _ t6 a _ Ht6.out Ha.out HCt6.out HCa.out (canon_eq HCt6.out HCa.out (fun n => by rw [← mem_iff, ← mem_iff]; simp only [HVt6.out, orB, andB]; cases a.any (inR n) <;> cases b.any (inR n) <;> cases c.any (inR n) <;> rfl))).mono ?_
  rintro e w20 ⟨rfl, hbx⟩
  replace Ha := Lib.hid (Ha.out.on hbx)
  replace Hb := Lib.hid (Hb.out.on hbx)
  replace Hc := Lib.hid (Hc.out.on hbx)
  replace Ht6 := Lib.hid (Ht6.out.on hbx)
  replace hb0 := hb0.trans (hbx.mono hb0.size)
  clear hbx
  clear Ht6 HCt6 HVt6
  go_wp2_with fail
  refine (set24 A B ca cb a b _ Ha.out Hb.out hla hlb HCa.out HCb.out).mono ?_
  rintro e w21 ⟨t7, At7, ct7, rfl, hrt7, hlt7, hct7, hmt7, hbx⟩
  have Ht7 := Lib.hid hrt7
  have HCt7 := Lib.hid hct7
  have HVt7 : Hid (∀ n, t7.any (inR n) = orB (a.any (inR n)) (b.any (inR n))) := fun n => any_iff (hmt7 n)
  clear hrt7 hct7 hmt7
  replace Ha := Lib.hid (Ha.out.on hbx)
  replace Hb := Lib.hid (Hb.out.on hbx)
  replace Hc := Lib.hid (Hc.out.on hbx)
  replace hb0 := hb0.trans (hbx.mono hb0.size)
  clear hbx
  go_wp2_with fail
  refine (set24 At7 C ct7 cc t7 c _ Ht7.out Hc.out hlt7 hlc HCt7.out HCc.out).mono ?_
  rintro e w22 ⟨t8, At8, ct8, rfl, hrt8, hlt8, hct8, hmt8, hbx⟩
  have Ht8 := Lib.hid hrt8
  have HCt8 := Lib.hid hct8
  have HVt8 : Hid (∀ n, t8.any (inR n) = orB (t7.any (inR n)) (c.any (inR n))) := fun n => any_iff (hmt8 n)
  clear hrt8 hct8 hmt8
  replace Ha := Lib.hid (Ha.out.on hbx)
  replace Hb := Lib.hid (Hb.out.on hbx)
  replace Hc := Lib.hid (Hc.out.on hbx)
  replace Ht7 := Lib.hid (Ht7.out.on hbx)
  replace hb0 := hb0.trans (hbx.mono hb0.size)
  clear hbx
  go_wp2_with fail
  refine (set24 B C cb cc b c _ Hb.out Hc.out hlb hlc HCb.out HCc.out).mono ?_
  rintro e w23 ⟨t9, At9, ct9, rfl, hrt9, hlt9, hct9, hmt9, hbx⟩
  have Ht9 := Lib.hid hrt9
  have HCt9 := Lib.hid hct9
  have HVt9 : Hid (∀ n, t9.any (inR n) = orB (b.any (inR n)) (c.any (inR n))) := fun n => any_iff (hmt9 n)
  clear hrt9 hct9 hmt9
  replace Ha := Lib.hid (Ha.out.on hbx)
  replace Hb := Lib.hid (Hb.out.on hbx)
  replace Hc := Lib.hid (Hc.out.on hbx)
  replace Ht7 := Lib.hid (Ht7.out.on hbx)
  replace Ht8 := Lib.hid (Ht8.out.on hbx)
  replace hb0 := hb0.trans (hbx.mono hb0.size)
  clear hbx
  go_wp2_with fail
  refine (set24 A At9 ca ct9 a t9 _ Ha.out Ht9.out hla hlt9 HCa.out HCt9.out).mono ?_
  rintro e w24 ⟨t10, At10, ct10, rfl, hrt10, hlt10, hct10, hmt10, hbx⟩
  have Ht10 := Lib.hid hrt10
  have HCt10 := Lib.hid hct10
  have HVt10 : Hid (∀ n, t10.any (inR n) = orB (a.any (inR n)) (t9.any (inR n))) := fun n => any_iff (hmt10 n)
  clear hrt10 hct10 hmt10
  replace Ha := Lib.hid (Ha.out.on hbx)
  replace Hb := Lib.hid (Hb.out.on hbx)
  replace Hc := Lib.hid (Hc.out.on hbx)
  replace Ht7 := Lib.hid (Ht7.out.on hbx)
  replace Ht8 := Lib.hid (Ht8.out.on hbx)
  replace Ht9 := Lib.hid (Ht9.out.on hbx)
  replace hb0 := hb0.trans (hbx.mono hb0.size)
  clear hbx
  go_wp2_with fail
  refine (eq_yes _ _ _ _ t8 t10 _ Ht8.out Ht10.out HCt8.out HCt10.out (canon_eq HCt8.out HCt10.out (fun n => by rw [← mem_iff, ← mem_iff]; simp only [HVt8.out, HVt7.out, HVt10.out, HVt9.out, orB, andB]; cases a.any (inR n) <;> cases b.any (inR n) <;> cases c.any (inR n) <;> rfl))).mono ?_
  rintro e w25 ⟨rfl, hbx⟩
  replace Ha := Lib.hid (Ha.out.on hbx)
  replace Hb := Lib.hid (Hb.out.on hbx)
  replace Hc := Lib.hid (Hc.out.on hbx)
  replace Ht7 := Lib.hid (Ht7.out.on hbx)
  replace Ht8 := Lib.hid (Ht8.out.on hbx)
  replace Ht9 := Lib.hid (Ht9.out.on hbx)
  replace Ht10 := Lib.hid (Ht10.out.on hbx)
  replace hb0 := hb0.trans (hbx.mono hb0.size)
  clear hbx
  clear Ht7 HCt7 HVt7
  clear Ht8 HCt8 HVt8
  clear Ht9 HCt9 HVt9
  clear Ht10 HCt10 HVt10
  go_wp2_with fail
  refine (set25 A B ca cb a b _ Ha.out Hb.out hla hlb HCa.out HCb.out).mono ?_
  rintro e w26 ⟨t11, At11, ct11, rfl, hrt11, hlt11, hct11, hmt11, hbx⟩
  have Ht11 := Lib.hid hrt11
  have HCt11 := Lib.hid hct11
  have HVt11 : Hid (∀ n, t11.any (inR n) = andB (a.any (inR n)) (b.any (inR n))) := fun n => any_iff (hmt11 n)
  clear hrt11 hct11 hmt11
  replace Ha := Lib.hid (Ha.out.on hbx)
  replace Hb := Lib.hid (Hb.out.on hbx)
  replace Hc := Lib.hid (Hc.out.on hbx)
  replace hb0 := hb0.trans (hbx.mono hb0.size)
  clear hbx
  go_wp2_with fail
  refine (set25 At11 C ct11 cc t11 c _ Ht11.out Hc.out hlt11 hlc HCt11.out HCc.out).mono ?_
  rintro e w27 ⟨t12, At12, ct12, rfl, hrt12, hlt12, hct12, hmt12, hbx⟩
  have Ht12 := Lib.hid hrt12
  have HCt12 := Lib.hid hct12
  have HVt12 : Hid (∀ n, t12.any (inR n) = andB (t11.any (inR n)) (c.any (inR n))) := fun n => any_iff (hmt12 n)
  clear hrt12 hct12 hmt12
  replace Ha := Lib.hid (Ha.out.on hbx)
  replace Hb := Lib.hid (Hb.out.on hbx)
  replace Hc := Lib.hid (Hc.out.on hbx)
  replace Ht11 := Lib.hid (Ht11.out.on hbx)
  replace hb0 := hb0.trans (hbx.mono hb0.size)
  clear hbx
  go_wp2_with fail
  refine (set25 B C cb cc b c _ Hb.out Hc.out hlb hlc HCb.out HCc.out).mono ?_
  rintro e w28 ⟨t13, At13, ct13, rfl, hrt13, hlt13, hct13, hmt13, hbx⟩
  have Ht13 := Lib.hid hrt13
  have HCt13 := Lib.hid hct13
  have HVt13 : Hid (∀ n, t13.any (inR n) = andB (b.any (inR n)) (c.any (inR n))) := fun n => any_iff (hmt13 n)
  clear hrt13 hct13 hmt13
  replace Ha := Lib.hid (Ha.out.on hbx)
  replace Hb := Lib.hid (Hb.out.on hbx)
  replace Hc := Lib.hid (Hc.out.on hbx)
  replace Ht11 := Lib.hid (Ht11.out.on hbx)
  replace Ht12 := Lib.hid (Ht12.out.on hbx)
  replace hb0 := hb0.trans (hbx.mono hb0.size)
  clear hbx
  go_wp2_with fail
  refine (set25 A At13 ca ct13 a t13 _ Ha.out Ht13.out hla hlt13 HCa.out HCt13.out).mono ?_
  rintro e w29 ⟨t14, At14, ct14, rfl, hrt14, hlt14, hct14, hmt14, hbx⟩
  have Ht14 := Lib.hid hrt14
  have HCt14 := Lib.hid hct14
  have HVt14 : Hid (∀ n, t14.any (inR n) = andB (a.any (inR n)) (t13.any (inR n))) := fun n => any_iff (hmt14 n)
  clear hrt14 hct14 hmt14
  replace Ha := Lib.hid (Ha.out.on hbx)
  replace Hb := Lib.hid (Hb.out.on hbx)
  replace Hc := Lib.hid (Hc.out.on hbx)
  replace Ht11 := Lib.hid (Ht11.out.on hbx)
  replace Ht12 := Lib.hid (Ht12.out.on hbx)
  replace Ht13 := Lib.hid (Ht13.out.on hbx)
  replace hb0 := hb0.trans (hbx.mono hb0.size)
  clear hbx
  go_wp2_with fail
  refine (eq_yes _ _ _ _ t12 t14 _ Ht12.out Ht14.out HCt12.out HCt14.out (canon_eq HCt12.out HCt14.out (fun n => by rw [← mem_iff, ← mem_iff]; simp only [HVt12.out, HVt11.out, HVt14.out, HVt13.out, orB, andB]; cases a.any (inR n) <;> cases b.any (inR n) <;> cases c.any (inR n) <;> rfl))).mono ?_
  rintro e w30 ⟨rfl, hbx⟩
  replace Ha := Lib.hid (Ha.out.on hbx)
  replace Hb := Lib.hid (Hb.out.on hbx)
  replace Hc := Lib.hid (Hc.out.on hbx)
  replace Ht11 := Lib.hid (Ht11.out.on hbx)
  replace Ht12 := Lib.hid (Ht12.out.on hbx)
  replace Ht13 := Lib.hid (Ht13.out.on hbx)
  replace Ht14 := Lib.hid (Ht14.out.on hbx)
  replace hb0 := hb0.trans (hbx.mono hb0.size)
  clear hbx
  clear Ht11 HCt11 HVt11
  clear Ht12 HCt12 HVt12
  clear Ht13 HCt13 HVt13
  clear Ht14 HCt14 HVt14
  go_wp2_with fail
  refine (set24 B C cb cc b c _ Hb.out Hc.out hlb hlc HCb.out HCc.out).mono ?_
  rintro e w31 ⟨t15, At15, ct15, rfl, hrt15, hlt15, hct15, hmt15, hbx⟩
  have Ht15 := Lib.hid hrt15
  have HCt15 := Lib.hid hct15
  have HVt15 : Hid (∀ n, t15.any (inR n) = orB (b.any (inR n)) (c.any (inR n))) := fun n => any_iff (hmt15 n)
  clear hrt15 hct15 hmt15
  replace Ha := Lib.hid (Ha.out.on hbx)
  replace Hb := Lib.hid (Hb.out.on hbx)
  replace Hc := Lib.hid (Hc.out.on hbx)
  replace hb0 := hb0.trans (hbx.mono hb0.size)
  clear hbx
  go_wp2_with fail
  refine (set25 A At15 ca ct15 a t15 _ Ha.out Ht15.out hla hlt15 HCa.out HCt15.out).mono ?_
  rintro e w32 ⟨t16, At16, ct16, rfl, hrt16, hlt16, hct16, hmt16, hbx⟩
  have Ht16 := Lib.hid hrt16
  have HCt16 := Lib.hid hct16
  have HVt16 : Hid (∀ n, t16.any (inR n) = andB (a.any (inR n)) (t15.any (inR n))) := fun n => any_iff (hmt16 n)
  clear hrt16 hct16 hmt16
  replace Ha := Lib.hid (Ha.out.on hbx)
  replace Hb := Lib.hid (Hb.out.on hbx)
  replace Hc := Lib.hid (Hc.out.on hbx)
  replace Ht15 := Lib.hid (Ht15.out.on hbx)
  replace hb0 := hb0.trans (hbx.mono hb0.size)
  clear hbx
  go_wp2_with fail
  refine (set25 A B ca cb a b _ Ha.out Hb.out hla hlb HCa.out HCb.out).mono ?_
  rintro e w33 ⟨t17, At17, ct17, rfl, hrt17, hlt17, hct17, hmt17, hbx⟩
  have Ht17 := Lib.hid hrt17
  have HCt17 := Lib.hid hct17
  have HVt17 : Hid (∀ n, t17.any (inR n) = andB (a.any (inR n)) (b.any (inR n))) := fun n => any_iff (hmt17 n)
  clear hrt17 hct17 hmt17
  replace Ha := Lib.hid (Ha.out.on hbx)
  replace Hb := Lib.hid (Hb.out.on hbx)
  replace Hc := Lib.hid (Hc.out.on hbx)
  replace Ht15 := Lib.hid (Ht15.out.on hbx)
  replace Ht16 := Lib.hid (Ht16.out.on hbx)
  replace hb0 := hb0.trans (hbx.mono hb0.size)
  clear hbx
  go_wp2_with fail
  refine (set25 A C ca cc a c _ Ha.out Hc.out hla hlc HCa.out HCc.out).mono ?_
  rintro e w34 ⟨t18, At18, ct18, rfl, hrt18, hlt18, hct18, hmt18, hbx⟩
  have Ht18 := Lib.hid hrt18
  have HCt18 := Lib.hid hct18
  have HVt18 : Hid (∀ n, t18.any (inR n) = andB (a.any (inR n)) (c.any (inR n))) := fun n => any_iff (hmt18 n)
  clear hrt18 hct18 hmt18
  replace Ha := Lib.hid (Ha.out.on hbx)
  replace Hb := Lib.hid (Hb.out.on hbx)
  replace Hc := Lib.hid (Hc.out.on hbx)
  replace Ht15 := Lib.hid (Ht15.out.on hbx)
  replace Ht16 := Lib.hid (Ht16.out.on hbx)
  replace Ht17 := Lib.hid (Ht17.out.on hbx)
  replace hb0 := hb0.trans (hbx.mono hb0.size)
  clear hbx
  go_wp2_with fail
  refine (set24 At17 At18 ct17 ct18 t17 t18 _ Ht17.out Ht18.out hlt17 hlt18 HCt17.out HCt18.out).mono ?_
  rintro e w35 ⟨t19, At19, ct19, rfl, hrt19, hlt19, hct19, hmt19, hbx⟩
  have Ht19 := Lib.hid hrt19
  have HCt19 := Lib.hid hct19
  have HVt19 : Hid (∀ n, t19.any (inR n) = orB (t17.any (inR n)) (t18.any (inR n))) := fun n => any_iff (hmt19 n)
  clear hrt19 hct19 hmt19
  replace Ha := Lib.hid (Ha.out.on hbx)
  replace Hb := Lib.hid (Hb.out.on hbx)
  replace Hc := Lib.hid (Hc.out.on hbx)
  replace Ht15 := Lib.hid (Ht15.out.on hbx)
  replace Ht16 := Lib.hid (Ht16.out.on hbx)
  replace Ht17 := Lib.hid (Ht17.out.on hbx)
  replace Ht18 := Lib.hid (Ht18.out.on hbx)
  replace hb0 := hb0.trans (hbx.mono hb0.size)
  clear hbx
  go_wp2_with fail
  refine (eq_yes _ _ _ _ t16 t19 _ Ht16.out Ht19.out HCt16.out HCt19.out (canon_eq HCt16.out HCt19.out (fun n => by rw [← mem_iff, ← mem_iff]; simp only [HVt16.out, HVt15.out, HVt19.out, HVt17.out, HVt18.out, orB, andB]; cases a.any (inR n) <;> cases b.any (inR n) <;> cases c.any (inR n) <;> rfl))).mono ?_
  rintro e w36 ⟨rfl, hbx⟩
  replace Ha := Lib.hid (Ha.out.on hbx)
  replace Hb := Lib.hid (Hb.out.on hbx)
  replace Hc := Lib.hid (Hc.out.on hbx)
  replace Ht15 := Lib.hid (Ht15.out.on hbx)
  replace Ht16 := Lib.hid (Ht16.out.on hbx)
  replace Ht17 := Lib.hid (Ht17.out.on hbx)
  replace Ht18 := Lib.hid (Ht18.out.on hbx)
  replace Ht19 := Lib.hid (Ht19.out.on hbx)
  replace hb0 := hb0.trans (hbx.mono hb0.size)
  clear hbx
  clear Ht15 HCt15 HVt15
  clear Ht16 HCt16 HVt16
  clear Ht17 HCt17 HVt17
  clear Ht18 HCt18 HVt18
  clear Ht19 HCt19 HVt19
  go_wp2_with fail
  refine (set25 B C cb cc b c _ Hb.out Hc.out hlb hlc HCb.out HCc.out).mono ?_
  rintro e w37 ⟨t20, At20, ct20, rfl, hrt20, hlt20, hct20, hmt20, hbx⟩
  have Ht20 := Lib.hid hrt20
  have HCt20 := Lib.hid hct20
  have HVt20 : Hid (∀ n, t20.any (inR n) = andB (b.any (inR n)) (c.any (inR n))) := fun n => any_iff (hmt20 n)
  clear hrt20 hct20 hmt20
  replace Ha := Lib.hid (Ha.out.on hbx)
  replace Hb := Lib.hid (Hb.out.on hbx)
  replace Hc := Lib.hid (Hc.out.on hbx)
  replace hb0 := hb0.trans (hbx.mono hb0.size)
  clear hbx
  go_wp2_with fail
  refine (set24 A At20 ca ct20 a t20 _ Ha.out Ht20.out hla hlt20 HCa.out HCt20.out).mono ?_
  rintro e w38 ⟨t21, At21, ct21, rfl, hrt21, hlt21, hct21, hmt21, hbx⟩
  have Ht21 := Lib.hid hrt21
  have HCt21 := Lib.hid hct21
  have HVt21 : Hid (∀ n, t21.any (inR n) = orB (a.any (inR n)) (t20.any (inR n))) := fun n => any_iff (hmt21 n)
  clear hrt21 hct21 hmt21
  replace Ha := Lib.hid (Ha.out.on hbx)
  replace Hb := Lib.hid (Hb.out.on hbx)
  replace Hc := Lib.hid (Hc.out.on hbx)
  replace Ht20 := Lib.hid (Ht20.out.on hbx)
  replace hb0 := hb0.trans (hbx.mono hb0.size)
  clear hbx
  go_wp2_with fail
  refine (set24 A B ca cb a b _ Ha.out Hb.out hla hlb HCa.out HCb.out).mono ?_
  rintro e w39 ⟨t22, At22, ct22, rfl, hrt22, hlt22, hct22, hmt22, hbx⟩
  have Ht22 := Lib.hid hrt22
  have HCt22 := Lib.hid hct22
  have HVt22 : Hid (∀ n, t22.any (inR n) = orB (a.any (inR n)) (b.any (inR n))) := fun n => any_iff (hmt22 n)
  clear hrt22 hct22 hmt22
  replace Ha := Lib.hid (Ha.out.on hbx)
  replace Hb := Lib.hid (Hb.out.on hbx)
  replace Hc := Lib.hid (Hc.out.on hbx)
  replace Ht20 := Lib.hid (Ht20.out.on hbx)
  replace Ht21 := Lib.hid (Ht21.out.on hbx)
  replace hb0 := hb0.trans (hbx.mono hb0.size)
  clear hbx
  go_wp2_with fail
  refine (set24 A C ca cc a c _ Ha.out Hc.out hla hlc HCa.out HCc.out).mono ?_
  rintro e w40 ⟨t23, At23, ct23, rfl, hrt23, hlt23, hct23, hmt23, hbx⟩
  have Ht23 := Lib.hid hrt23
  have HCt23 := Lib.hid hct23
  have HVt23 : Hid (∀ n, t23.any (inR n) = orB (a.any (inR n)) (c.any (inR n))) := fun n => any_iff (hmt23 n)
  clear hrt23 hct23 hmt23
  replace Ha := Lib.hid (Ha.out.on hbx)
  replace Hb := Lib.hid (Hb.out.on hbx)
  replace Hc := Lib.hid (Hc.out.on hbx)
  replace Ht20 := Lib.hid (Ht20.out.on hbx)
  replace Ht21 := Lib.hid (Ht21.out.on hbx)
  replace Ht22 := Lib.hid (Ht22.out.on hbx)
  replace hb0 := hb0.trans (hbx.mono hb0.size)
  clear hbx
  go_wp2_with fail
  refine (set25 At22 At23 ct22 ct23 t22 t23 _ Ht22.out Ht23.out hlt22 hlt23 HCt22.out HCt23.out).mono ?_
  rintro e w41 ⟨t24, At24, ct24, rfl, hrt24, hlt24, hct24, hmt24, hbx⟩
  have Ht24 := Lib.hid hrt24
  have HCt24 := Lib.hid hct24
  have HVt24 : Hid (∀ n, t24.any (inR n) = andB (t22.any (inR n)) (t23.any (inR n))) := fun n => any_iff (hmt24 n)
  clear hrt24 hct24 hmt24
  replace Ha := Lib.hid (Ha.out.on hbx)
  replace Hb := Lib.hid (Hb.out.on hbx)
  replace Hc := Lib.hid (Hc.out.on hbx)
  replace Ht20 := Lib.hid (Ht20.out.on hbx)
  replace Ht21 := Lib.hid (Ht21.out.on hbx)
  replace Ht22 := Lib.hid (Ht22.out.on hbx)
  replace Ht23 := Lib.hid (Ht23.out.on hbx)
  replace hb0 := hb0.trans (hbx.mono hb0.size)
  clear hbx
  go_wp2_with fail
  refine (eq_yes _ _ _ _ t21 t24 _ Ht21.out Ht24.out HCt21.out HCt24.out (canon_eq HCt21.out HCt24.out (fun n => by rw [← mem_iff, ← mem_iff]; simp only [HVt21.out, HVt20.out, HVt24.out, HVt22.out, HVt23.out, orB, andB]; cases a.any (inR n) <;> cases b.any (inR n) <;> cases c.any (inR n) <;> rfl))).mono ?_
  rintro e w42 ⟨rfl, hbx⟩
  replace Ha := Lib.hid (Ha.out.on hbx)
  replace Hb := Lib.hid (Hb.out.on hbx)
  replace Hc := Lib.hid (Hc.out.on hbx)
  replace Ht20 := Lib.hid (Ht20.out.on hbx)
  replace Ht21 := Lib.hid (Ht21.out.on hbx)
  replace Ht22 := Lib.hid (Ht22.out.on hbx)
  replace Ht23 := Lib.hid (Ht23.out.on hbx)
  replace Ht24 := Lib.hid (Ht24.out.on hbx)
  replace hb0 := hb0.trans (hbx.mono hb0.size)
  clear hbx
  clear Ht20 HCt20 HVt20
  clear Ht21 HCt21 HVt21
  clear Ht22 HCt22 HVt22
  clear Ht23 HCt23 HVt23
  clear Ht24 HCt24 HVt24
  go_wp2_with fail
  refine (awake_any _).mono ?_
  rintro e w99 ⟨rfl, hbx⟩
  replace Ha := Lib.hid (Ha.out.on hbx)
  replace Hb := Lib.hid (Hb.out.on hbx)
  replace Hc := Lib.hid (Hc.out.on hbx)
  replace hb0 := hb0.trans (hbx.mono hb0.size)
  clear hbx
  go_wp2_with fail
  go_ret
  exact ⟨rfl, hb0⟩

theorem law6 (A B C : Option Addr) (n ca m cb k cc : Nat) (a b c : RL) (hx : a.length = n) (hy : b.length = m) (hz : c.length = k) (w : World) (hra : RdR w w.heap.size A a) (hrb : RdR w w.heap.size B b) (hrc : RdR w w.heap.size C c) (hla : n ≤ ca) (hlb : m ≤ cb) (hlc : k ≤ cc) :
    Calls Try.prog 6 #[.slice A n ca, .slice B m cb, .slice C k cc] w (LawPost w) := by
  subst hx hy hz
  cases h : (decide (40 < a.length) || (decide (40 < b.length) || decide (40 < c.length))) with
  | true => exact law6_many A B C a.length ca b.length cb c.length cc w h
  | false =>
    simp at h
    cases hk1 : checkB a with
    | false => exact law6_bad1 A B C a b c ca cb cc w hra hrb hrc h.1 h.2.1 h.2.2 hk1
    | true =>
      cases hk2 : checkB b with
      | false => exact law6_bad2 A B C a b c ca cb cc w hra hrb hrc h.1 h.2.1 h.2.2 hk1 hk2
      | true =>
        cases hk3 : checkB c with
        | false => exact law6_bad3 A B C a b c ca cb cc w hra hrb hrc h.1 h.2.1 h.2.2 hk1 hk2 hk3
        | true => exact law6_ok A B C a b c ca cb cc w hra hrb hrc h.1 h.2.1 h.2.2 hla hlb hlc hk1 hk2 hk3
end Go.Proofs.Ytahlccihjjhgfaa
