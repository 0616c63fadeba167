/- Contracts: extend. -/
import Derived.Test.YtahlccihjjhgfaaD
import Derived.Test.YtahlccihjjhgfaaF
import Derived.Test.YtahlccihjjhgfaaPE
import Derived.StillTailTactics
namespace Go.Proofs.Ytahlccihjjhgfaa
open Go.RowKit

theorem info29 : (Try.prog.info? 29).map (fun i => (i.zero, i.size, i.bytes)) = some (some (.agg #[.int .i64 0, .int .i64 0]), 2, 16) := by kernel_rfl

theorem g_refl (w : World) (row : Option Nat) : w.grownBy w row := ⟨rfl, rfl, rfl, Nat.le_refl _, fun _ _ _ => rfl⟩
theorem g_trans {a b c : World} {row : Option Nat} (h : a.grownBy b row) (k : b.grownBy c row) : a.grownBy c row :=
  ⟨k.os.trans h.os, k.tape.trans h.tape, k.output.trans h.output, Nat.le_trans h.size k.size, fun i hi hne => (k.block i (Nat.lt_of_lt_of_le hi h.size) hne).trans (h.block i hi hne)⟩
theorem g_alloc {a w : World} {row : Option Nat} (h : a.grownBy w row) (o : Obj) : a.grownBy (w.alloc o) row := g_trans h (World.grownBy_alloc w o row)
theorem g_drewN {a w : World} {row : Option Nat} (h : a.grownBy w row) (n : Nat) : a.grownBy (w.drewN n) row := ⟨h.os, h.tape, h.output, h.size, h.block⟩
theorem g_drew {a w : World} {row : Option Nat} (h : a.grownBy w row) : a.grownBy w.drew row := ⟨h.os, h.tape, h.output, h.size, h.block⟩
theorem two_new (W : World) (x y : Value) (t : TypeId) (H : Nat) (hH : W.heap.size = H) : ∀ j u, [x, y][j]? = some u → (W.alloc (.cells #[x, y] t)).cell? ((⟨H, 0, none⟩ : Addr).add j) = some u := by
  subst hH
  intro j u hu
  have hc := fun i => (IsB.new W t #[x, y]).cell i
  match j, hu with
  | 0, hu => simp at hu; subst hu; simp [Addr.add, hc]
  | 1, hu => simp at hu; subst hu; simp [Addr.add, hc]
  | j + 2, hu => simp at hu

/-- A new row of ranges comes back; what was there, but for the old row, is as it was. -/
def ExtPost (base : Nat) (row : Option Nat) (T : RL) (w : World) (e : Ending) (w' : World) : Prop :=
  ∃ A c, e = .returned (.slice A T.length c) ∧ w'.ownsRow base 29 2 (.slice A T.length c) T.length (flatR T) ∧ w.grownBy w' row

theorem two_one (x y : Int) : ∀ u ∈ [Value.int .i64 x, Value.int .i64 y], u.oneCell' = true := by
  intro u hu
  simp at hu
  rcases hu with rfl | rfl <;> rfl

set_option maxHeartbeats 1000000 in
theorem extend_nil (base : Nat) (A : Option Addr) (c : Nat) (r1 r2 : Int) (w : World) (hown : w.ownsRow base 29 2 (.slice A 0 c) 0 []) (hbase : base ≤ w.heap.size) :
    Calls Try.prog 37 #[.slice A 0 c, .agg #[.int .i64 r1, .int .i64 r2]] w (ExtPost base (Value.slice A 0 c).ownBlock [(r1, r2)] w) := by
  obtain ⟨i0, hi, hz0, hz1, hz2⟩ := info_parts info29
  have Hown := Lib.hid hown
  clear hown
  go_enter Try.func37, Try.ntmps37
  go_wp2_with fail
  go_quiet (fail)
  go_wp2_with (at_builtin; refine wpList_append_lies _ rfl _ _ _ rfl base 29 i0 _ 2 16 Try.underlying22 hi hz0 hz1 hz2 rfl (by decide) _ 0 _ rfl (Hown.out.alloc _ |>.alloc _) ⟨w.heap.size + 1, 0, none⟩ 1 1 [.int .i64 r1, .int .i64 r2] rfl rfl ?c1 ?c2 ?c3 ?c4 ?c5 ?c6 _ rfl ?_)
  case c1 => exact two_new _ _ _ _ _ (by simp)
  case c2 => exact two_one _ _
  case c3 => omega
  case c4 => unfold maxLen; omega
  case c5 => omega
  case c6 => simp; omega
  intro g cap w3 hown3 hgrow hat hlt3
  have Hown3 := Lib.hid hown3
  have Hgrow := Lib.hid hgrow
  clear hown3 hgrow hat
  go_wp2
  go_ret
  exact ⟨some ⟨g, 0, none⟩, cap, rfl, Hown3.out, g_trans (g_alloc (g_drewN (g_alloc (g_refl _ _) _) _) _) Hgrow.out⟩

set_option maxHeartbeats 1000000 in
theorem extend_far (base g : Nat) (S : RL) (l : Int × Int) (c : Nat) (r1 r2 : Int) (w : World) (hown : w.ownsRow base 29 2 (.slice (some ⟨g, 0, none⟩) (S.length + 1) c) (S.length + 1) (flatR (S ++ [l]))) (hbase : base ≤ w.heap.size) (hn : S.length ≤ 4294967296)
    (hl : 0 ≤ l.2 ∧ l.2 ≤ 4294967296) (hr : 0 ≤ r1 ∧ r1 ≤ 4294967296) (hf : 2 ≤ r1 - l.2) :
    Calls Try.prog 37 #[.slice (some ⟨g, 0, none⟩) (S.length + 1) c, .agg #[.int .i64 r1, .int .i64 r2]] w (ExtPost base (some g) (S ++ [l] ++ [(r1, r2)]) w) := by
  obtain ⟨i0, hi, hz0, hz1, hz2⟩ := info_parts info29
  obtain ⟨l1, l2⟩ := l
  simp only at hl hf
  obtain ⟨hl0, hl1⟩ := hl
  obtain ⟨hr0, hr1⟩ := hr
  obtain ⟨m, HM⟩ : ∃ m, Hid (S.length = m) := ⟨_, rfl⟩
  have hg : g < w.heap.size := (hown.lt g rfl).2
  have hcell : w.cell? ⟨g, m * 2 + 1, none⟩ = some (.int .i64 l2) := by
    rw [hown.cellAt _ (by rw [HM.out]; omega), flatR_snd _ _ (by simp [HM.out]), List.getD_eq_getElem?_getD, ← HM.out]
    simp
  have Hown := Lib.hid hown
  clear hown
  rw [HM.out] at Hown hn ⊢
  have hm0 : ((m : Int) + 1 == 0) = false := by rw [beq_eq_false_iff_ne]; omega
  go_enter Try.func37, Try.ntmps37
  go_wp2_with fail
  go_quiet (fail)
  go_wp2_with (at_builtin; refine wpList_append_lies _ rfl _ _ _ rfl base 29 i0 _ 2 16 Try.underlying22 hi hz0 hz1 hz2 rfl (by decide) _ (m + 1) _ rfl (Hown.out.alloc _ |>.alloc _) ⟨w.heap.size + 1, 0, none⟩ 1 1 [.int .i64 r1, .int .i64 r2] rfl rfl ?c1 ?c2 ?c3 ?c4 ?c5 ?c6 _ rfl ?_)
  case c1 => exact two_new _ _ _ _ _ (by simp)
  case c2 => exact two_one _ _
  case c3 => omega
  case c4 => unfold maxLen; omega
  case c5 => omega
  case c6 => simp; omega
  intro g' cap w3 hown3 hgrow hat hlt3
  have Hown3 := Lib.hid hown3
  have Hgrow := Lib.hid hgrow
  clear hown3 hgrow hat
  go_wp2
  go_ret
  have e : (S ++ [(l1, l2)] ++ [(r1, r2)]).length = m + 1 + 1 := by simp [HM.out]
  refine ⟨some ⟨g', 0, none⟩, cap, by rw [e]; rfl, ?_, g_trans (g_alloc (g_drewN (g_alloc (g_refl _ _) _) _) _) Hgrow.out⟩
  rw [e, flatR_append]
  exact Hown3.out

set_option maxHeartbeats 1000000 in
theorem extend_near (base g : Nat) (S : RL) (l : Int × Int) (c : Nat) (r1 r2 : Int) (w : World) (hown : w.ownsRow base 29 2 (.slice (some ⟨g, 0, none⟩) (S.length + 1) c) (S.length + 1) (flatR (S ++ [l]))) (hn : S.length ≤ 4294967296)
    (hl : 0 ≤ l.2 ∧ l.2 ≤ 4294967296) (hr : 0 ≤ r1 ∧ r1 ≤ 4294967296) (hf : ¬ 2 ≤ r1 - l.2) :
    Calls Try.prog 37 #[.slice (some ⟨g, 0, none⟩) (S.length + 1) c, .agg #[.int .i64 r1, .int .i64 r2]] w (ExtPost base (some g) (S ++ [(l.1, max l.2 r2)]) w) := by
  obtain ⟨l1, l2⟩ := l
  simp only at hl hf
  obtain ⟨hl0, hl1⟩ := hl
  obtain ⟨hr0, hr1⟩ := hr
  obtain ⟨m, HM⟩ : ∃ m, Hid (S.length = m) := ⟨_, rfl⟩
  have hg : g < w.heap.size := (hown.lt g rfl).2
  have hcell : w.cell? ⟨g, m * 2 + 1, none⟩ = some (.int .i64 l2) := by
    rw [hown.cellAt _ (by rw [HM.out]; omega), flatR_snd _ _ (by simp [HM.out]), List.getD_eq_getElem?_getD, ← HM.out]
    simp
  have hfz : w.frozen? ⟨g, m * 2 + 1, none⟩ = false := hown.frozenAt _
  have Hown := Lib.hid hown
  clear hown
  rw [HM.out] at Hown hn ⊢
  have hm0 : ((m : Int) + 1 == 0) = false := by rw [beq_eq_false_iff_ne]; omega
  have hgn : g ≠ w.heap.size := by omega
  go_enter Try.func37, Try.ntmps37
  go_wp2_with fail
  go_quiet (fail)
  go_wp2
  refine wp_region_draw_tail 14 (by kernel_rfl) (by kernel_rfl) ?_
  simp only [List.take_succ_cons, List.take_zero, List.drop_succ_cons, List.drop_zero]
  repeat (go_big_quiet_step (fail))
  refine wpQuiet_nil ?_
  intro q2
  go_wp2
  go_ret
  have e : (S ++ [(l1, max l2 r2)]).length = m + 1 := by simp [HM.out]
  have hst := (Hown.out.alloc (.cells #[.int .i64 r1, .int .i64 r2] 29)).stored (m * 2 + 1) (.int .i64 (max l2 r2))
  rw [← HM.out, flatR_set] at hst
  refine ⟨some ⟨g, 0, none⟩, c, by rw [e]; rfl, ?_, ?_⟩
  · rw [e, ← HM.out]
    exact hst.1
  · rw [← HM.out]
    exact g_drewN (g_trans (g_alloc (g_refl w (some g)) (.cells #[.int .i64 r1, .int .i64 r2] 29)) hst.2) (nq + q2)

/-- extend, whatever the set. -/
theorem extend_any (base : Nat) (A : Option Addr) (c : Nat) (S : RL) (r1 r2 : Int) (w : World) (hown : w.ownsRow base 29 2 (.slice A S.length c) S.length (flatR S)) (hbase : base ≤ w.heap.size) (hn : S.length ≤ 4294967296)
    (hS : ∀ x ∈ S, 0 ≤ x.2 ∧ x.2 ≤ 4294967296) (hr : 0 ≤ r1 ∧ r1 ≤ 4294967296) :
    Calls Try.prog 37 #[.slice A S.length c, .agg #[.int .i64 r1, .int .i64 r2]] w (ExtPost base (Value.slice A S.length c).ownBlock (ext S (r1, r2)) w) := by
  by_cases h0 : 0 < S.length
  · obtain ⟨T, l, rfl⟩ := snoc_of h0
    obtain ⟨g, cap, hv, hb, hlt⟩ := hown.form h0
    injection hv with h1 h2 h3
    subst h1
    have e : (T ++ [l]).length = T.length + 1 := by simp
    rw [e] at hown hn ⊢
    by_cases hf : 2 ≤ r1 - l.2
    · rw [ext_far _ _ _ hf]
      exact extend_far base g T l c r1 r2 w hown hbase (by omega) (hS l (by simp)) hr hf
    · rw [ext_near _ _ _ hf]
      exact extend_near base g T l c r1 r2 w hown (by omega) (hS l (by simp)) hr hf
  · have : S = [] := List.eq_nil_of_length_eq_zero (by omega)
    subst this
    exact extend_nil base A c r1 r2 w hown hbase
end Go.Proofs.Ytahlccihjjhgfaa
