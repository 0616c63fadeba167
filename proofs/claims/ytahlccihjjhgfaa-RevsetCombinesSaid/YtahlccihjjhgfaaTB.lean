/- The laws RevsetNormalizes and RevsetCombines. -/
import Derived.Test.YtahlccihjjhgfaaTA
namespace Go.Proofs.Ytahlccihjjhgfaa
open Go.RowKit

theorem nil_rd (w : World) (B : Nat) : RdR w B none [] := fun hp => absurd hp (by simp)

set_option maxRecDepth 100000 in
set_option maxHeartbeats 1000000 in
theorem law9_many (A : Option Addr) (m c : Nat) (w : World) (h : 40 < m) :
    Calls Try.prog 9 #[.slice A m c] w (LawPost w) := by
  go_enter Try.func9, Try.ntmps9
  go_wp2_with (first | (go_at_call 11; refine (many_one_yes _ A m c _ (new_cell _ _ _ _ (by simp) 0) h).mono ?_; rintro e w' ⟨rfl, rfl⟩) | (go_at_call 12; refine (awake_any _).mono ?_; rintro e w1 ⟨rfl, hb1⟩))
  go_ret
  exact ⟨rfl, ((Below.refl _ w).alloc (Nat.le_refl _) _).trans (hb1.mono (by simp))⟩

set_option maxRecDepth 100000 in
set_option maxHeartbeats 2000000 in
theorem law9_bad_no (A : Option Addr) (c : Nat) (xs : RL) (w : World) (hra : RdR w w.heap.size A xs) (h : ¬ 40 < xs.length) (hs : allSound xs = false) (hk : checkB xs = false) :
    Calls Try.prog 9 #[.slice A xs.length c] w (LawPost w) := by
  obtain ⟨i0, hi, hz0, hz1, hz2⟩ := info_parts info29
  have Ha := Lib.hid (hra.alloc (.cells #[.slice A xs.length c] 22))
  have Hs := Lib.hid hs
  have Hk := Lib.hid hk
  clear hra hs hk
  have hb0 : Below w.heap.size w (w.alloc (.cells #[.slice A xs.length c] 22)) := (Below.refl _ w).alloc (Nat.le_refl _) _
  go_enter Try.func9, Try.ntmps9
  go_wp2_with fail
  refine (many_one_no _ A xs.length c _ (new_cell _ _ _ _ (by simp) 0) h).mono ?_
  rintro e w' ⟨rfl, rfl⟩
  obtain ⟨w0, HW0⟩ : ∃ w0, Hid (w.alloc (.cells #[.slice A xs.length c] 22) = w0) := ⟨_, rfl⟩
  rw [HW0.out] at Ha hb0 ⊢
  go_wp2_with (at_builtin; refine wpList_append_opt rfl _ _ _ rfl w0.heap.size 29 i0 _ 2 16 Try.underlying22 hi hz0 hz1 hz2 rfl (by decide) _ 0 [] rfl (World.ownsRow_nil _ _ _ _) A xs.length c (flatR xs) rfl (flatR_length xs) Ha.out.opt.1 Ha.out.opt.2 (flatR_all xs) (by unfold maxLen; omega) (by omega) (Nat.le_refl _) ?_)
  intro v1 w1 hown1 hg1
  have hbx : Below w0.heap.size w0 w1 := (Below.refl _ w0).grown hg1 (Nat.le_refl _) (fun k hk => by simp [Value.ownBlock] at hk)
  obtain ⟨A1, c1, rfl⟩ := own_slice hown1
  have Hwas := Lib.hid (RdR.of_own hown1).2
  clear hown1 hg1
  replace Ha := Lib.hid (Ha.out.on hbx)
  replace hb0 := hb0.trans (hbx.mono hb0.size)
  clear hbx
  go_wp2_with fail
  refine (Normalize_bad _ _ xs _ Ha.out (by omega) Hs.out).mono ?_
  rintro e w2 ⟨rfl, hbx⟩
  replace Ha := Lib.hid (Ha.out.on hbx)
  replace Hwas := Lib.hid (Hwas.out.on hbx)
  replace hb0 := hb0.trans (hbx.mono hb0.size)
  clear hbx
  go_wp2_with fail
  refine (rNormalize_bad _ _ xs _ Ha.out (by omega) Hs.out).mono ?_
  rintro e w3 ⟨rfl, hbx⟩
  replace Ha := Lib.hid (Ha.out.on hbx)
  replace Hwas := Lib.hid (Hwas.out.on hbx)
  replace hb0 := hb0.trans (hbx.mono hb0.size)
  clear hbx
  go_wp2_with fail
  refine (same_yes none none 0 0 [] [] _ (nil_rd _ _) (nil_rd _ _) (by simp) (by simp) rfl).mono ?_
  rintro e w4 ⟨rfl, hbx⟩
  replace Ha := Lib.hid (Ha.out.on hbx)
  replace Hwas := Lib.hid (Hwas.out.on hbx)
  replace hb0 := hb0.trans (hbx.mono hb0.size)
  clear hbx
  go_wp2_with fail
  refine (Check_no _ _ xs _ Ha.out (by omega) Hk.out).mono ?_
  rintro e w5 ⟨rfl, hbx⟩
  replace Ha := Lib.hid (Ha.out.on hbx)
  replace Hwas := Lib.hid (Hwas.out.on hbx)
  replace hb0 := hb0.trans (hbx.mono hb0.size)
  clear hbx
  go_wp2_with fail
  refine (rCheck_no _ _ xs _ Ha.out (by omega) Hk.out).mono ?_
  rintro e w6 ⟨rfl, hbx⟩
  replace Ha := Lib.hid (Ha.out.on hbx)
  replace Hwas := Lib.hid (Hwas.out.on hbx)
  replace hb0 := hb0.trans (hbx.mono hb0.size)
  clear hbx
  go_wp2_with fail
  refine (same_yes _ _ _ _ xs xs _ Ha.out Hwas.out (by omega) (by omega) rfl).mono ?_
  rintro e w7 ⟨rfl, hbx⟩
  replace Ha := Lib.hid (Ha.out.on hbx)
  replace Hwas := Lib.hid (Hwas.out.on hbx)
  replace hb0 := hb0.trans (hbx.mono hb0.size)
  clear hbx
  go_wp2_with fail
  refine (awake_any _).mono ?_
  rintro e w8 ⟨rfl, hbx⟩
  replace Ha := Lib.hid (Ha.out.on hbx)
  replace Hwas := Lib.hid (Hwas.out.on hbx)
  replace hb0 := hb0.trans (hbx.mono hb0.size)
  clear hbx
  go_wp2_with fail
  go_ret
  exact ⟨rfl, hb0⟩

set_option maxRecDepth 100000 in
set_option maxHeartbeats 2000000 in
theorem law9_bad_ok (A : Option Addr) (c : Nat) (xs : RL) (w : World) (hra : RdR w w.heap.size A xs) (h : ¬ 40 < xs.length) (hs : allSound xs = false) (hk : checkB xs = true) :
    Calls Try.prog 9 #[.slice A xs.length c] w (LawPost w) := by
  obtain ⟨i0, hi, hz0, hz1, hz2⟩ := info_parts info29
  have Ha := Lib.hid (hra.alloc (.cells #[.slice A xs.length c] 22))
  have Hs := Lib.hid hs
  have Hk := Lib.hid hk
  clear hra hs hk
  have hb0 : Below w.heap.size w (w.alloc (.cells #[.slice A xs.length c] 22)) := (Below.refl _ w).alloc (Nat.le_refl _) _
  go_enter Try.func9, Try.ntmps9
  go_wp2_with fail
  refine (many_one_no _ A xs.length c _ (new_cell _ _ _ _ (by simp) 0) h).mono ?_
  rintro e w' ⟨rfl, rfl⟩
  obtain ⟨w0, HW0⟩ : ∃ w0, Hid (w.alloc (.cells #[.slice A xs.length c] 22) = w0) := ⟨_, rfl⟩
  rw [HW0.out] at Ha hb0 ⊢
  go_wp2_with (at_builtin; refine wpList_append_opt rfl _ _ _ rfl w0.heap.size 29 i0 _ 2 16 Try.underlying22 hi hz0 hz1 hz2 rfl (by decide) _ 0 [] rfl (World.ownsRow_nil _ _ _ _) A xs.length c (flatR xs) rfl (flatR_length xs) Ha.out.opt.1 Ha.out.opt.2 (flatR_all xs) (by unfold maxLen; omega) (by omega) (Nat.le_refl _) ?_)
  intro v1 w1 hown1 hg1
  have hbx : Below w0.heap.size w0 w1 := (Below.refl _ w0).grown hg1 (Nat.le_refl _) (fun k hk => by simp [Value.ownBlock] at hk)
  obtain ⟨A1, c1, rfl⟩ := own_slice hown1
  have Hwas := Lib.hid (RdR.of_own hown1).2
  clear hown1 hg1
  replace Ha := Lib.hid (Ha.out.on hbx)
  replace hb0 := hb0.trans (hbx.mono hb0.size)
  clear hbx
  go_wp2_with fail
  refine (Normalize_bad _ _ xs _ Ha.out (by omega) Hs.out).mono ?_
  rintro e w2 ⟨rfl, hbx⟩
  replace Ha := Lib.hid (Ha.out.on hbx)
  replace Hwas := Lib.hid (Hwas.out.on hbx)
  replace hb0 := hb0.trans (hbx.mono hb0.size)
  clear hbx
  go_wp2_with fail
  refine (rNormalize_bad _ _ xs _ Ha.out (by omega) Hs.out).mono ?_
  rintro e w3 ⟨rfl, hbx⟩
  replace Ha := Lib.hid (Ha.out.on hbx)
  replace Hwas := Lib.hid (Hwas.out.on hbx)
  replace hb0 := hb0.trans (hbx.mono hb0.size)
  clear hbx
  go_wp2_with fail
  refine (same_yes none none 0 0 [] [] _ (nil_rd _ _) (nil_rd _ _) (by simp) (by simp) rfl).mono ?_
  rintro e w4 ⟨rfl, hbx⟩
  replace Ha := Lib.hid (Ha.out.on hbx)
  replace Hwas := Lib.hid (Hwas.out.on hbx)
  replace hb0 := hb0.trans (hbx.mono hb0.size)
  clear hbx
  go_wp2_with fail
  refine (Check_ok _ _ xs _ Ha.out (by omega) Hk.out).mono ?_
  rintro e w5 ⟨rfl, hbx⟩
  replace Ha := Lib.hid (Ha.out.on hbx)
  replace Hwas := Lib.hid (Hwas.out.on hbx)
  replace hb0 := hb0.trans (hbx.mono hb0.size)
  clear hbx
  go_wp2_with fail
  refine (rCheck_ok _ _ xs _ Ha.out (by omega) Hk.out).mono ?_
  rintro e w6 ⟨rfl, hbx⟩
  replace Ha := Lib.hid (Ha.out.on hbx)
  replace Hwas := Lib.hid (Hwas.out.on hbx)
  replace hb0 := hb0.trans (hbx.mono hb0.size)
  clear hbx
  go_wp2_with fail
  refine (same_yes _ _ _ _ xs xs _ Ha.out Hwas.out (by omega) (by omega) rfl).mono ?_
  rintro e w7 ⟨rfl, hbx⟩
  replace Ha := Lib.hid (Ha.out.on hbx)
  replace Hwas := Lib.hid (Hwas.out.on hbx)
  replace hb0 := hb0.trans (hbx.mono hb0.size)
  clear hbx
  go_wp2_with fail
  refine (awake_any _).mono ?_
  rintro e w8 ⟨rfl, hbx⟩
  replace Ha := Lib.hid (Ha.out.on hbx)
  replace Hwas := Lib.hid (Hwas.out.on hbx)
  replace hb0 := hb0.trans (hbx.mono hb0.size)
  clear hbx
  go_wp2_with fail
  go_ret
  exact ⟨rfl, hb0⟩

set_option maxRecDepth 100000 in
set_option maxHeartbeats 2000000 in
theorem law9_ok_no (A : Option Addr) (c : Nat) (xs : RL) (w : World) (hra : RdR w w.heap.size A xs) (h : ¬ 40 < xs.length) (hs : allSound xs = true) (hk : checkB xs = false) :
    Calls Try.prog 9 #[.slice A xs.length c] w (LawPost w) := by
  obtain ⟨i0, hi, hz0, hz1, hz2⟩ := info_parts info29
  have Ha := Lib.hid (hra.alloc (.cells #[.slice A xs.length c] 22))
  have Hs := Lib.hid hs
  have Hk := Lib.hid hk
  have HC := Lib.hid (norm_canon hs).1
  have hlN := canon_len (norm_canon hs).1
  clear hra hs hk
  have hb0 : Below w.heap.size w (w.alloc (.cells #[.slice A xs.length c] 22)) := (Below.refl _ w).alloc (Nat.le_refl _) _
  go_enter Try.func9, Try.ntmps9
  go_wp2_with fail
  refine (many_one_no _ A xs.length c _ (new_cell _ _ _ _ (by simp) 0) h).mono ?_
  rintro e w' ⟨rfl, rfl⟩
  obtain ⟨w0, HW0⟩ : ∃ w0, Hid (w.alloc (.cells #[.slice A xs.length c] 22) = w0) := ⟨_, rfl⟩
  rw [HW0.out] at Ha hb0 ⊢
  go_wp2_with (at_builtin; refine wpList_append_opt rfl _ _ _ rfl w0.heap.size 29 i0 _ 2 16 Try.underlying22 hi hz0 hz1 hz2 rfl (by decide) _ 0 [] rfl (World.ownsRow_nil _ _ _ _) A xs.length c (flatR xs) rfl (flatR_length xs) Ha.out.opt.1 Ha.out.opt.2 (flatR_all xs) (by unfold maxLen; omega) (by omega) (Nat.le_refl _) ?_)
  intro v1 w1 hown1 hg1
  have hbx : Below w0.heap.size w0 w1 := (Below.refl _ w0).grown hg1 (Nat.le_refl _) (fun k hk => by simp [Value.ownBlock] at hk)
  obtain ⟨A1, c1, rfl⟩ := own_slice hown1
  have Hwas := Lib.hid (RdR.of_own hown1).2
  clear hown1 hg1
  replace Ha := Lib.hid (Ha.out.on hbx)
  replace hb0 := hb0.trans (hbx.mono hb0.size)
  clear hbx
  go_wp2_with fail
  refine (Normalize_ok _ _ xs _ Ha.out (by omega) Hs.out).mono ?_
  rintro e w2 ⟨A2, c2, rfl, hr2, hbx⟩
  have Hn := Lib.hid hr2
  clear hr2
  replace Ha := Lib.hid (Ha.out.on hbx)
  replace Hwas := Lib.hid (Hwas.out.on hbx)
  replace hb0 := hb0.trans (hbx.mono hb0.size)
  clear hbx
  go_wp2_with fail
  refine (rNormalize_ok _ _ xs _ Ha.out (by omega) Hs.out).mono ?_
  rintro e w3 ⟨A3, c3, rfl, hr3, hbx⟩
  have Hr := Lib.hid hr3
  clear hr3
  replace Ha := Lib.hid (Ha.out.on hbx)
  replace Hwas := Lib.hid (Hwas.out.on hbx)
  replace Hn := Lib.hid (Hn.out.on hbx)
  replace hb0 := hb0.trans (hbx.mono hb0.size)
  clear hbx
  go_wp2_with fail
  refine (same_yes _ _ _ _ (normR xs) (normR xs) _ Hn.out Hr.out (by omega) (by omega) rfl).mono ?_
  rintro e w4 ⟨rfl, hbx⟩
  replace Ha := Lib.hid (Ha.out.on hbx)
  replace Hwas := Lib.hid (Hwas.out.on hbx)
  replace Hn := Lib.hid (Hn.out.on hbx)
  replace Hr := Lib.hid (Hr.out.on hbx)
  replace hb0 := hb0.trans (hbx.mono hb0.size)
  clear hbx
  go_wp2_with fail
  refine (Check_no _ _ xs _ Ha.out (by omega) Hk.out).mono ?_
  rintro e w5 ⟨rfl, hbx⟩
  replace Ha := Lib.hid (Ha.out.on hbx)
  replace Hwas := Lib.hid (Hwas.out.on hbx)
  replace Hn := Lib.hid (Hn.out.on hbx)
  replace Hr := Lib.hid (Hr.out.on hbx)
  replace hb0 := hb0.trans (hbx.mono hb0.size)
  clear hbx
  go_wp2_with fail
  refine (rCheck_no _ _ xs _ Ha.out (by omega) Hk.out).mono ?_
  rintro e w6 ⟨rfl, hbx⟩
  replace Ha := Lib.hid (Ha.out.on hbx)
  replace Hwas := Lib.hid (Hwas.out.on hbx)
  replace Hn := Lib.hid (Hn.out.on hbx)
  replace Hr := Lib.hid (Hr.out.on hbx)
  replace hb0 := hb0.trans (hbx.mono hb0.size)
  clear hbx
  go_wp2_with fail
  refine (same_yes _ _ _ _ xs xs _ Ha.out Hwas.out (by omega) (by omega) rfl).mono ?_
  rintro e w7 ⟨rfl, hbx⟩
  replace Ha := Lib.hid (Ha.out.on hbx)
  replace Hwas := Lib.hid (Hwas.out.on hbx)
  replace Hn := Lib.hid (Hn.out.on hbx)
  replace Hr := Lib.hid (Hr.out.on hbx)
  replace hb0 := hb0.trans (hbx.mono hb0.size)
  clear hbx
  go_wp2_with fail
  refine (awake_any _).mono ?_
  rintro e w8 ⟨rfl, hbx⟩
  replace Ha := Lib.hid (Ha.out.on hbx)
  replace Hwas := Lib.hid (Hwas.out.on hbx)
  replace Hn := Lib.hid (Hn.out.on hbx)
  replace Hr := Lib.hid (Hr.out.on hbx)
  replace hb0 := hb0.trans (hbx.mono hb0.size)
  clear hbx
  go_wp2_with fail
  go_ret
  exact ⟨rfl, hb0⟩

set_option maxRecDepth 100000 in
set_option maxHeartbeats 2000000 in
theorem law9_ok_ok (A : Option Addr) (c : Nat) (xs : RL) (w : World) (hra : RdR w w.heap.size A xs) (h : ¬ 40 < xs.length) (hs : allSound xs = true) (hk : checkB xs = true) :
    Calls Try.prog 9 #[.slice A xs.length c] w (LawPost w) := by
  obtain ⟨i0, hi, hz0, hz1, hz2⟩ := info_parts info29
  have Ha := Lib.hid (hra.alloc (.cells #[.slice A xs.length c] 22))
  have Hs := Lib.hid hs
  have Hk := Lib.hid hk
  have HC := Lib.hid (norm_canon hs).1
  have hlN := canon_len (norm_canon hs).1
  clear hra hs hk
  have hb0 : Below w.heap.size w (w.alloc (.cells #[.slice A xs.length c] 22)) := (Below.refl _ w).alloc (Nat.le_refl _) _
  go_enter Try.func9, Try.ntmps9
  go_wp2_with fail
  refine (many_one_no _ A xs.length c _ (new_cell _ _ _ _ (by simp) 0) h).mono ?_
  rintro e w' ⟨rfl, rfl⟩
  obtain ⟨w0, HW0⟩ : ∃ w0, Hid (w.alloc (.cells #[.slice A xs.length c] 22) = w0) := ⟨_, rfl⟩
  rw [HW0.out] at Ha hb0 ⊢
  go_wp2_with (at_builtin; refine wpList_append_opt rfl _ _ _ rfl w0.heap.size 29 i0 _ 2 16 Try.underlying22 hi hz0 hz1 hz2 rfl (by decide) _ 0 [] rfl (World.ownsRow_nil _ _ _ _) A xs.length c (flatR xs) rfl (flatR_length xs) Ha.out.opt.1 Ha.out.opt.2 (flatR_all xs) (by unfold maxLen; omega) (by omega) (Nat.le_refl _) ?_)
  intro v1 w1 hown1 hg1
  have hbx : Below w0.heap.size w0 w1 := (Below.refl _ w0).grown hg1 (Nat.le_refl _) (fun k hk => by simp [Value.ownBlock] at hk)
  obtain ⟨A1, c1, rfl⟩ := own_slice hown1
  have Hwas := Lib.hid (RdR.of_own hown1).2
  clear hown1 hg1
  replace Ha := Lib.hid (Ha.out.on hbx)
  replace hb0 := hb0.trans (hbx.mono hb0.size)
  clear hbx
  go_wp2_with fail
  refine (Normalize_ok _ _ xs _ Ha.out (by omega) Hs.out).mono ?_
  rintro e w2 ⟨A2, c2, rfl, hr2, hbx⟩
  have Hn := Lib.hid hr2
  clear hr2
  replace Ha := Lib.hid (Ha.out.on hbx)
  replace Hwas := Lib.hid (Hwas.out.on hbx)
  replace hb0 := hb0.trans (hbx.mono hb0.size)
  clear hbx
  go_wp2_with fail
  refine (rNormalize_ok _ _ xs _ Ha.out (by omega) Hs.out).mono ?_
  rintro e w3 ⟨A3, c3, rfl, hr3, hbx⟩
  have Hr := Lib.hid hr3
  clear hr3
  replace Ha := Lib.hid (Ha.out.on hbx)
  replace Hwas := Lib.hid (Hwas.out.on hbx)
  replace Hn := Lib.hid (Hn.out.on hbx)
  replace hb0 := hb0.trans (hbx.mono hb0.size)
  clear hbx
  go_wp2_with fail
  refine (same_yes _ _ _ _ (normR xs) (normR xs) _ Hn.out Hr.out (by omega) (by omega) rfl).mono ?_
  rintro e w4 ⟨rfl, hbx⟩
  replace Ha := Lib.hid (Ha.out.on hbx)
  replace Hwas := Lib.hid (Hwas.out.on hbx)
  replace Hn := Lib.hid (Hn.out.on hbx)
  replace Hr := Lib.hid (Hr.out.on hbx)
  replace hb0 := hb0.trans (hbx.mono hb0.size)
  clear hbx
  go_wp2_with fail
  refine (Check_ok _ _ xs _ Ha.out (by omega) Hk.out).mono ?_
  rintro e w5 ⟨rfl, hbx⟩
  replace Ha := Lib.hid (Ha.out.on hbx)
  replace Hwas := Lib.hid (Hwas.out.on hbx)
  replace Hn := Lib.hid (Hn.out.on hbx)
  replace Hr := Lib.hid (Hr.out.on hbx)
  replace hb0 := hb0.trans (hbx.mono hb0.size)
  clear hbx
  go_wp2_with fail
  refine (rCheck_ok _ _ xs _ Ha.out (by omega) Hk.out).mono ?_
  rintro e w6 ⟨rfl, hbx⟩
  replace Ha := Lib.hid (Ha.out.on hbx)
  replace Hwas := Lib.hid (Hwas.out.on hbx)
  replace Hn := Lib.hid (Hn.out.on hbx)
  replace Hr := Lib.hid (Hr.out.on hbx)
  replace hb0 := hb0.trans (hbx.mono hb0.size)
  clear hbx
  go_wp2_with fail
  refine (same_yes _ _ _ _ xs xs _ Ha.out Hwas.out (by omega) (by omega) rfl).mono ?_
  rintro e w7 ⟨rfl, hbx⟩
  replace Ha := Lib.hid (Ha.out.on hbx)
  replace Hwas := Lib.hid (Hwas.out.on hbx)
  replace Hn := Lib.hid (Hn.out.on hbx)
  replace Hr := Lib.hid (Hr.out.on hbx)
  replace hb0 := hb0.trans (hbx.mono hb0.size)
  clear hbx
  go_wp2_with fail
  refine (awake_any _).mono ?_
  rintro e w8 ⟨rfl, hbx⟩
  replace Ha := Lib.hid (Ha.out.on hbx)
  replace Hwas := Lib.hid (Hwas.out.on hbx)
  replace Hn := Lib.hid (Hn.out.on hbx)
  replace Hr := Lib.hid (Hr.out.on hbx)
  replace hb0 := hb0.trans (hbx.mono hb0.size)
  clear hbx
  go_wp2_with fail
  go_ret
  exact ⟨rfl, hb0⟩

theorem law9 (A : Option Addr) (len c : Nat) (xs : RL) (hx : xs.length = len) (w : World) (hr : RdR w w.heap.size A xs) :
    Calls Try.prog 9 #[.slice A len c] w (LawPost w) := by
  subst hx
  by_cases h : 40 < xs.length
  · exact law9_many A xs.length c w h
  · cases hs : allSound xs with
    | false =>
      cases hk : checkB xs with
      | false => exact law9_bad_no A c xs w hr h hs hk
      | true => exact law9_bad_ok A c xs w hr h hs hk
    | true =>
      cases hk : checkB xs with
      | false => exact law9_ok_no A c xs w hr h hs hk
      | true => exact law9_ok_ok A c xs w hr h hs hk

set_option maxRecDepth 100000 in
set_option maxHeartbeats 1000000 in
theorem law10_many (A B : Option Addr) (n c m d : Nat) (w : World) (h : (decide (40 < n) || decide (40 < m)) = true) :
    Calls Try.prog 10 #[.slice A n c, .slice B m d] w (LawPost w) := by
  go_enter Try.func10, Try.ntmps10
  go_wp2_with (first | (go_at_call 11; refine (many_two _ A B n c m d _ (new_cell _ _ _ _ (by simp) 0) (new_cell _ _ _ _ (by simp) 1) true h).mono ?_; rintro e w' ⟨rfl, rfl⟩) | (go_at_call 12; refine (awake_any _).mono ?_; rintro e w1 ⟨rfl, hb1⟩))
  go_ret
  exact ⟨rfl, ((Below.refl _ w).alloc (Nat.le_refl _) _).trans (hb1.mono (by simp))⟩

set_option maxRecDepth 100000 in
set_option maxHeartbeats 4000000 in
theorem law10_bad1 (A B : Option Addr) (a b : RL) (c d : Nat) (w : World) (hra : RdR w w.heap.size A a) (hrb : RdR w w.heap.size B b) (h1 : a.length ≤ 40) (h2 : b.length ≤ 40) (hka : checkB a = false) :
    Calls Try.prog 10 #[.slice A a.length c, .slice B b.length d] w (LawPost w) := by
  have h : (decide (40 < a.length) || decide (40 < b.length)) = false := by simp; omega
  have H := Lib.hid h
  have Ha := Lib.hid (hra.alloc (.cells #[.slice A a.length c, .slice B b.length d] 22))
  have Hb := Lib.hid (hrb.alloc (.cells #[.slice A a.length c, .slice B b.length d] 22))
  have Hka := Lib.hid hka
  clear hka
  clear hra hrb h
  have hb0 : Below w.heap.size w (w.alloc (.cells #[.slice A a.length c, .slice B b.length d] 22)) := (Below.refl _ w).alloc (Nat.le_refl _) _
  go_enter Try.func10, Try.ntmps10
  go_wp2_with fail
  refine (many_two _ A B a.length c b.length d _ (new_cell _ _ _ _ (by simp) 0) (new_cell _ _ _ _ (by simp) 1) false H.out).mono ?_
  rintro e w' ⟨rfl, rfl⟩
  go_wp2_with fail
  refine (comb26_bad1 A B c d a b _ Ha.out Hb.out (by omega) (by omega) Hka.out).mono ?_
  rintro e w1 ⟨rfl, hbx⟩
  replace Ha := Lib.hid (Ha.out.on hbx)
  replace Hb := Lib.hid (Hb.out.on hbx)
  replace hb0 := hb0.trans (hbx.mono hb0.size)
  clear hbx
  go_wp2_with fail
  refine (both_bad1 A B c d a b 1 _ Ha.out Hb.out (by omega) (by omega) Hka.out).mono ?_
  rintro e w2 ⟨rfl, hbx⟩
  replace Ha := Lib.hid (Ha.out.on hbx)
  replace Hb := Lib.hid (Hb.out.on hbx)
  replace hb0 := hb0.trans (hbx.mono hb0.size)
  clear hbx
  go_wp2_with fail
  refine (same_yes none none 0 0 [] [] _ (nil_rd _ _) (nil_rd _ _) (by simp) (by simp) rfl).mono ?_
  rintro e w3 ⟨rfl, hbx⟩
  replace Ha := Lib.hid (Ha.out.on hbx)
  replace Hb := Lib.hid (Hb.out.on hbx)
  replace hb0 := hb0.trans (hbx.mono hb0.size)
  clear hbx
  go_wp2_with fail
  refine (comb27_bad1 A B c d a b _ Ha.out Hb.out (by omega) (by omega) Hka.out).mono ?_
  rintro e w4 ⟨rfl, hbx⟩
  replace Ha := Lib.hid (Ha.out.on hbx)
  replace Hb := Lib.hid (Hb.out.on hbx)
  replace hb0 := hb0.trans (hbx.mono hb0.size)
  clear hbx
  go_wp2_with fail
  refine (both_bad1 A B c d a b 2 _ Ha.out Hb.out (by omega) (by omega) Hka.out).mono ?_
  rintro e w5 ⟨rfl, hbx⟩
  replace Ha := Lib.hid (Ha.out.on hbx)
  replace Hb := Lib.hid (Hb.out.on hbx)
  replace hb0 := hb0.trans (hbx.mono hb0.size)
  clear hbx
  go_wp2_with fail
  refine (same_yes none none 0 0 [] [] _ (nil_rd _ _) (nil_rd _ _) (by simp) (by simp) rfl).mono ?_
  rintro e w6 ⟨rfl, hbx⟩
  replace Ha := Lib.hid (Ha.out.on hbx)
  replace Hb := Lib.hid (Hb.out.on hbx)
  replace hb0 := hb0.trans (hbx.mono hb0.size)
  clear hbx
  go_wp2_with fail
  refine (comb28_bad1 A B c d a b _ Ha.out Hb.out (by omega) (by omega) Hka.out).mono ?_
  rintro e w7 ⟨rfl, hbx⟩
  replace Ha := Lib.hid (Ha.out.on hbx)
  replace Hb := Lib.hid (Hb.out.on hbx)
  replace hb0 := hb0.trans (hbx.mono hb0.size)
  clear hbx
  go_wp2_with fail
  refine (both_bad1 A B c d a b 3 _ Ha.out Hb.out (by omega) (by omega) Hka.out).mono ?_
  rintro e w8 ⟨rfl, hbx⟩
  replace Ha := Lib.hid (Ha.out.on hbx)
  replace Hb := Lib.hid (Hb.out.on hbx)
  replace hb0 := hb0.trans (hbx.mono hb0.size)
  clear hbx
  go_wp2_with fail
  refine (same_yes none none 0 0 [] [] _ (nil_rd _ _) (nil_rd _ _) (by simp) (by simp) rfl).mono ?_
  rintro e w9 ⟨rfl, hbx⟩
  replace Ha := Lib.hid (Ha.out.on hbx)
  replace Hb := Lib.hid (Hb.out.on hbx)
  replace hb0 := hb0.trans (hbx.mono hb0.size)
  clear hbx
  go_wp2_with fail
  refine (awake_any _).mono ?_
  rintro e w99 ⟨rfl, hbx⟩
  replace Ha := Lib.hid (Ha.out.on hbx)
  replace Hb := Lib.hid (Hb.out.on hbx)
  replace hb0 := hb0.trans (hbx.mono hb0.size)
  clear hbx
  go_wp2_with fail
  go_ret
  exact ⟨rfl, hb0⟩

set_option maxRecDepth 100000 in
set_option maxHeartbeats 4000000 in
theorem law10_bad2 (A B : Option Addr) (a b : RL) (c d : Nat) (w : World) (hra : RdR w w.heap.size A a) (hrb : RdR w w.heap.size B b) (h1 : a.length ≤ 40) (h2 : b.length ≤ 40) (hka : checkB a = true) (hkb : checkB b = false) :
    Calls Try.prog 10 #[.slice A a.length c, .slice B b.length d] w (LawPost w) := by
  have h : (decide (40 < a.length) || decide (40 < b.length)) = false := by simp; omega
  have H := Lib.hid h
  have Ha := Lib.hid (hra.alloc (.cells #[.slice A a.length c, .slice B b.length d] 22))
  have Hb := Lib.hid (hrb.alloc (.cells #[.slice A a.length c, .slice B b.length d] 22))
  have Hka := Lib.hid hka
  clear hka
  have Hkb := Lib.hid hkb
  clear hkb
  clear hra hrb h
  have hb0 : Below w.heap.size w (w.alloc (.cells #[.slice A a.length c, .slice B b.length d] 22)) := (Below.refl _ w).alloc (Nat.le_refl _) _
  go_enter Try.func10, Try.ntmps10
  go_wp2_with fail
  refine (many_two _ A B a.length c b.length d _ (new_cell _ _ _ _ (by simp) 0) (new_cell _ _ _ _ (by simp) 1) false H.out).mono ?_
  rintro e w' ⟨rfl, rfl⟩
  go_wp2_with fail
  refine (comb26_bad2 A B c d a b _ Ha.out Hb.out (by omega) (by omega) Hka.out Hkb.out).mono ?_
  rintro e w1 ⟨rfl, hbx⟩
  replace Ha := Lib.hid (Ha.out.on hbx)
  replace Hb := Lib.hid (Hb.out.on hbx)
  replace hb0 := hb0.trans (hbx.mono hb0.size)
  clear hbx
  go_wp2_with fail
  refine (both_bad2 A B c d a b 1 _ Ha.out Hb.out (by omega) (by omega) Hka.out Hkb.out).mono ?_
  rintro e w2 ⟨rfl, hbx⟩
  replace Ha := Lib.hid (Ha.out.on hbx)
  replace Hb := Lib.hid (Hb.out.on hbx)
  replace hb0 := hb0.trans (hbx.mono hb0.size)
  clear hbx
  go_wp2_with fail
  refine (same_yes none none 0 0 [] [] _ (nil_rd _ _) (nil_rd _ _) (by simp) (by simp) rfl).mono ?_
  rintro e w3 ⟨rfl, hbx⟩
  replace Ha := Lib.hid (Ha.out.on hbx)
  replace Hb := Lib.hid (Hb.out.on hbx)
  replace hb0 := hb0.trans (hbx.mono hb0.size)
  clear hbx
  go_wp2_with fail
  refine (comb27_bad2 A B c d a b _ Ha.out Hb.out (by omega) (by omega) Hka.out Hkb.out).mono ?_
  rintro e w4 ⟨rfl, hbx⟩
  replace Ha := Lib.hid (Ha.out.on hbx)
  replace Hb := Lib.hid (Hb.out.on hbx)
  replace hb0 := hb0.trans (hbx.mono hb0.size)
  clear hbx
  go_wp2_with fail
  refine (both_bad2 A B c d a b 2 _ Ha.out Hb.out (by omega) (by omega) Hka.out Hkb.out).mono ?_
  rintro e w5 ⟨rfl, hbx⟩
  replace Ha := Lib.hid (Ha.out.on hbx)
  replace Hb := Lib.hid (Hb.out.on hbx)
  replace hb0 := hb0.trans (hbx.mono hb0.size)
  clear hbx
  go_wp2_with fail
  refine (same_yes none none 0 0 [] [] _ (nil_rd _ _) (nil_rd _ _) (by simp) (by simp) rfl).mono ?_
  rintro e w6 ⟨rfl, hbx⟩
  replace Ha := Lib.hid (Ha.out.on hbx)
  replace Hb := Lib.hid (Hb.out.on hbx)
  replace hb0 := hb0.trans (hbx.mono hb0.size)
  clear hbx
  go_wp2_with fail
  refine (comb28_bad2 A B c d a b _ Ha.out Hb.out (by omega) (by omega) Hka.out Hkb.out).mono ?_
  rintro e w7 ⟨rfl, hbx⟩
  replace Ha := Lib.hid (Ha.out.on hbx)
  replace Hb := Lib.hid (Hb.out.on hbx)
  replace hb0 := hb0.trans (hbx.mono hb0.size)
  clear hbx
  go_wp2_with fail
  refine (both_bad2 A B c d a b 3 _ Ha.out Hb.out (by omega) (by omega) Hka.out Hkb.out).mono ?_
  rintro e w8 ⟨rfl, hbx⟩
  replace Ha := Lib.hid (Ha.out.on hbx)
  replace Hb := Lib.hid (Hb.out.on hbx)
  replace hb0 := hb0.trans (hbx.mono hb0.size)
  clear hbx
  go_wp2_with fail
  refine (same_yes none none 0 0 [] [] _ (nil_rd _ _) (nil_rd _ _) (by simp) (by simp) rfl).mono ?_
  rintro e w9 ⟨rfl, hbx⟩
  replace Ha := Lib.hid (Ha.out.on hbx)
  replace Hb := Lib.hid (Hb.out.on hbx)
  replace hb0 := hb0.trans (hbx.mono hb0.size)
  clear hbx
  go_wp2_with fail
  refine (awake_any _).mono ?_
  rintro e w99 ⟨rfl, hbx⟩
  replace Ha := Lib.hid (Ha.out.on hbx)
  replace Hb := Lib.hid (Hb.out.on hbx)
  replace hb0 := hb0.trans (hbx.mono hb0.size)
  clear hbx
  go_wp2_with fail
  go_ret
  exact ⟨rfl, hb0⟩

set_option maxRecDepth 100000 in
set_option maxHeartbeats 4000000 in
theorem law10_ok (A B : Option Addr) (a b : RL) (c d : Nat) (w : World) (hra : RdR w w.heap.size A a) (hrb : RdR w w.heap.size B b) (h1 : a.length ≤ 40) (h2 : b.length ≤ 40) (hla : a.length ≤ c) (hlb : b.length ≤ d) (hka : checkB a = true) (hkb : checkB b = true) :
    Calls Try.prog 10 #[.slice A a.length c, .slice B b.length d] w (LawPost w) := by
  have h : (decide (40 < a.length) || decide (40 < b.length)) = false := by simp; omega
  have H := Lib.hid h
  have Ha := Lib.hid (hra.alloc (.cells #[.slice A a.length c, .slice B b.length d] 22))
  have Hb := Lib.hid (hrb.alloc (.cells #[.slice A a.length c, .slice B b.length d] 22))
  have Hka := Lib.hid hka
  clear hka
  have Hkb := Lib.hid hkb
  clear hkb
  clear hra hrb h
  have hb0 : Below w.heap.size w (w.alloc (.cells #[.slice A a.length c, .slice B b.length d] 22)) := (Below.refl _ w).alloc (Nat.le_refl _) _
  go_enter Try.func10, Try.ntmps10
  go_wp2_with fail
  refine (many_two _ A B a.length c b.length d _ (new_cell _ _ _ _ (by simp) 0) (new_cell _ _ _ _ (by simp) 1) false H.out).mono ?_
  rintro e w' ⟨rfl, rfl⟩
  go_wp2_with fail
  refine (comb26 A B c d a b _ Ha.out Hb.out hla hlb Hka.out Hkb.out).mono ?_
  rintro e w1 ⟨x26, Ax26, cx26, rfl, hrx, hlx, hcx, hmx, hbx⟩
  have Hx26 := Lib.hid hrx
  have HC26 := Lib.hid hcx
  have HM26 := Lib.hid hmx
  have hn26 := canon_len hcx
  clear hrx hcx hmx hlx
  replace Ha := Lib.hid (Ha.out.on hbx)
  replace Hb := Lib.hid (Hb.out.on hbx)
  replace hb0 := hb0.trans (hbx.mono hb0.size)
  clear hbx
  go_wp2_with fail
  refine (both1 A B c d a b _ Ha.out Hb.out (by omega) (by omega) Hka.out Hkb.out).mono ?_
  rintro e w2 ⟨y26, Ay26, cy26, rfl, hrx, hcx, hmx, hbx⟩
  have Hy26 := Lib.hid hrx
  have HCy26 := Lib.hid hcx
  have HMy26 := Lib.hid hmx
  have hny26 := canon_len hcx
  clear hrx hcx hmx
  replace Ha := Lib.hid (Ha.out.on hbx)
  replace Hb := Lib.hid (Hb.out.on hbx)
  replace Hx26 := Lib.hid (Hx26.out.on hbx)
  replace hb0 := hb0.trans (hbx.mono hb0.size)
  clear hbx
  go_wp2_with fail
  refine (same_yes _ _ _ _ x26 y26 _ Hx26.out Hy26.out (by omega) (by omega) (canon_eq HC26.out HCy26.out (fun n => (HM26.out n).trans (HMy26.out n).symm))).mono ?_
  rintro e w3 ⟨rfl, hbx⟩
  replace Ha := Lib.hid (Ha.out.on hbx)
  replace Hb := Lib.hid (Hb.out.on hbx)
  replace Hx26 := Lib.hid (Hx26.out.on hbx)
  replace Hy26 := Lib.hid (Hy26.out.on hbx)
  replace hb0 := hb0.trans (hbx.mono hb0.size)
  clear hbx
  clear Hx26
  clear Hy26
  go_wp2_with fail
  refine (comb27 A B c d a b _ Ha.out Hb.out hla hlb Hka.out Hkb.out).mono ?_
  rintro e w4 ⟨x27, Ax27, cx27, rfl, hrx, hlx, hcx, hmx, hbx⟩
  have Hx27 := Lib.hid hrx
  have HC27 := Lib.hid hcx
  have HM27 := Lib.hid hmx
  have hn27 := canon_len hcx
  clear hrx hcx hmx hlx
  replace Ha := Lib.hid (Ha.out.on hbx)
  replace Hb := Lib.hid (Hb.out.on hbx)
  replace hb0 := hb0.trans (hbx.mono hb0.size)
  clear hbx
  go_wp2_with fail
  refine (both2 A B c d a b _ Ha.out Hb.out (by omega) (by omega) Hka.out Hkb.out).mono ?_
  rintro e w5 ⟨y27, Ay27, cy27, rfl, hrx, hcx, hmx, hbx⟩
  have Hy27 := Lib.hid hrx
  have HCy27 := Lib.hid hcx
  have HMy27 := Lib.hid hmx
  have hny27 := canon_len hcx
  clear hrx hcx hmx
  replace Ha := Lib.hid (Ha.out.on hbx)
  replace Hb := Lib.hid (Hb.out.on hbx)
  replace Hx27 := Lib.hid (Hx27.out.on hbx)
  replace hb0 := hb0.trans (hbx.mono hb0.size)
  clear hbx
  go_wp2_with fail
  refine (same_yes _ _ _ _ x27 y27 _ Hx27.out Hy27.out (by omega) (by omega) (canon_eq HC27.out HCy27.out (fun n => (HM27.out n).trans (HMy27.out n).symm))).mono ?_
  rintro e w6 ⟨rfl, hbx⟩
  replace Ha := Lib.hid (Ha.out.on hbx)
  replace Hb := Lib.hid (Hb.out.on hbx)
  replace Hx27 := Lib.hid (Hx27.out.on hbx)
  replace Hy27 := Lib.hid (Hy27.out.on hbx)
  replace hb0 := hb0.trans (hbx.mono hb0.size)
  clear hbx
  clear Hx27
  clear Hy27
  go_wp2_with fail
  refine (comb28 A B c d a b _ Ha.out Hb.out hla hlb Hka.out Hkb.out).mono ?_
  rintro e w7 ⟨x28, Ax28, cx28, rfl, hrx, hlx, hcx, hmx, hbx⟩
  have Hx28 := Lib.hid hrx
  have HC28 := Lib.hid hcx
  have HM28 := Lib.hid hmx
  have hn28 := canon_len hcx
  clear hrx hcx hmx hlx
  replace Ha := Lib.hid (Ha.out.on hbx)
  replace Hb := Lib.hid (Hb.out.on hbx)
  replace hb0 := hb0.trans (hbx.mono hb0.size)
  clear hbx
  go_wp2_with fail
  refine (both3 A B c d a b _ Ha.out Hb.out (by omega) (by omega) Hka.out Hkb.out).mono ?_
  rintro e w8 ⟨y28, Ay28, cy28, rfl, hrx, hcx, hmx, hbx⟩
  have Hy28 := Lib.hid hrx
  have HCy28 := Lib.hid hcx
  have HMy28 := Lib.hid hmx
  have hny28 := canon_len hcx
  clear hrx hcx hmx
  replace Ha := Lib.hid (Ha.out.on hbx)
  replace Hb := Lib.hid (Hb.out.on hbx)
  replace Hx28 := Lib.hid (Hx28.out.on hbx)
  replace hb0 := hb0.trans (hbx.mono hb0.size)
  clear hbx
  go_wp2_with fail
  refine (same_yes _ _ _ _ x28 y28 _ Hx28.out Hy28.out (by omega) (by omega) (canon_eq HC28.out HCy28.out (fun n => (HM28.out n).trans (HMy28.out n).symm))).mono ?_
  rintro e w9 ⟨rfl, hbx⟩
  replace Ha := Lib.hid (Ha.out.on hbx)
  replace Hb := Lib.hid (Hb.out.on hbx)
  replace Hx28 := Lib.hid (Hx28.out.on hbx)
  replace Hy28 := Lib.hid (Hy28.out.on hbx)
  replace hb0 := hb0.trans (hbx.mono hb0.size)
  clear hbx
  clear Hx28
  clear Hy28
  go_wp2_with fail
  refine (awake_any _).mono ?_
  rintro e w99 ⟨rfl, hbx⟩
  replace Ha := Lib.hid (Ha.out.on hbx)
  replace Hb := Lib.hid (Hb.out.on hbx)
  replace hb0 := hb0.trans (hbx.mono hb0.size)
  clear hbx
  go_wp2_with fail
  go_ret
  exact ⟨rfl, hb0⟩

theorem law10 (A B : Option Addr) (len c len' d : Nat) (a b : RL) (hx : a.length = len) (hy : b.length = len') (w : World) (hra : RdR w w.heap.size A a) (hrb : RdR w w.heap.size B b) (hla : len ≤ c) (hlb : len' ≤ d) :
    Calls Try.prog 10 #[.slice A len c, .slice B len' d] w (LawPost w) := by
  subst hx hy
  cases h : (decide (40 < a.length) || decide (40 < b.length)) with
  | true => exact law10_many A B a.length c b.length d w h
  | false =>
    simp at h
    cases hk1 : checkB a with
    | false => exact law10_bad1 A B a b c d w hra hrb h.1 h.2 hk1
    | true =>
      cases hk2 : checkB b with
      | false => exact law10_bad2 A B a b c d w hra hrb h.1 h.2 hk1 hk2
      | true => exact law10_ok A B a b c d w hra hrb h.1 h.2 hla hlb hk1 hk2
end Go.Proofs.Ytahlccihjjhgfaa
