/- Contracts: Same, SameIDs, Has, the reference's N, Dead, Sweep, the program's Dead. -/
import Derived.Test.YtjglpmcekbjoaaaPB
namespace Go.Proofs.Ytjglpmcekbjoaaa
open Go.RowKit
attribute [local go_sem] wext_cell

theorem gb {p q : Bool} {w W : World} (h : p = q) (hb : Below w.heap.size w W) : Gives (.bool p) w (.returned (.bool q)) W := ⟨by rw [h], hb⟩
theorem eq_of_take {α : Type} {a b : List α} (hl : a.length = b.length) (h : a.take a.length = b.take a.length) : a = b := by
  rw [List.take_length, hl, List.take_length] at h
  exact h
theorem ne_of_getD {α : Type} {a b : List α} (d : α) (k : Nat) (h : a.getD k d ≠ b.getD k d) : a ≠ b := fun e => h (by rw [e])
theorem take_both {α : Type} {a b : List α} {d : α} {k : Nat} (ha : k < a.length) (hb : k < b.length) (h : a.take k = b.take k) (he : a.getD k d = b.getD k d) : a.take (k + 1) = b.take (k + 1) := by
  rw [take_snoc _ d _ ha, take_snoc _ d _ hb, h, he]

set_option maxHeartbeats 2000000 in
theorem Same_any (x y : Nat) (a b : List CT) (A B : Option Addr) (c d : Nat) (w : World) (ha : RdC w x A a) (hb : RdC w y B b) (hla : a.length ≤ 9223372036854775807) (hlb : b.length ≤ 9223372036854775807) :
    Calls Try.prog 16 #[.slice A a.length c, .slice B b.length d] w (Gives (.bool (decide (a = b))) w) := by
  have Ha := Lib.hid ha
  have Hb := Lib.hid hb
  clear ha hb
  by_cases hlen : a.length = b.length
  · have hbe : (a.length != b.length) = false := by simp [hlen]
    have hbi : (((a.length : Nat) : Int) != ((b.length : Nat) : Int)) = false := by simp [hlen]
    have Hlen := Lib.hid hlen
    clear hlen
    go_enter Try.func16, Try.ntmps16
    go_wp2_with fail
    go_loopw [5] (fun v wr => ∃ k : Nat, k ≤ a.length ∧ v = .int .i64 k ∧ Hid (a.take k = b.take k) ∧ Below w.heap.size w wr) (fun v _ => a.length - (intOf v).toNat)
    case atStart => exact ⟨0, Nat.zero_le _, rfl, rfl, Below.refl _ _⟩
    case round =>
      obtain ⟨k, hk, rfl, Hk, hbw⟩ := hrel
      have Hbw := Lib.hid hbw
      clear hbw
      by_cases hlt : k < a.length
      · have hlt' : k < b.length := by have := Hlen.out; omega
        obtain ⟨b1, o1, rfl, hb1, _, hc1⟩ := Ha.out (by omega)
        obtain ⟨b2, o2, rfl, hb2, _, hc2⟩ := Hb.out (by omega)
        obtain ⟨s0, s1, s2, HI⟩ : ∃ s0 s1 s2, Hid (a.getD k ct0 = ((s0, s1), s2)) := ⟨_, _, _, rfl⟩
        obtain ⟨r0, r1, r2, HJ⟩ : ∃ r0 r1 r2, Hid (b.getD k ct0 = ((r0, r1), r2)) := ⟨_, _, _, rfl⟩
        have p0 : wr.cell? ⟨b1, o1 + k * 3, none⟩ = some (.int .u64 s0) := B_cell Hbw.out hb1 (hc1 k hlt 0 _ (by rw [HI.out]; rfl))
        have q0 : wr.cell? ⟨b2, o2 + k * 3, none⟩ = some (.int .u64 r0) := B_cell Hbw.out hb2 (hc2 k hlt' 0 _ (by rw [HJ.out]; rfl))
        have p1 : wr.cell? ⟨b1, o1 + k * 3 + 1, none⟩ = some (.int .i64 s1) := B_cell Hbw.out hb1 (hc1 k hlt 1 _ (by rw [HI.out]; rfl))
        have q1 : wr.cell? ⟨b2, o2 + k * 3 + 1, none⟩ = some (.int .i64 r1) := B_cell Hbw.out hb2 (hc2 k hlt' 1 _ (by rw [HJ.out]; rfl))
        have p2 : wr.cell? ⟨b1, o1 + k * 3 + 2, none⟩ = some (.int .i64 s2) := B_cell Hbw.out hb1 (hc1 k hlt 2 _ (by rw [HI.out]; rfl))
        have q2 : wr.cell? ⟨b2, o2 + k * 3 + 2, none⟩ = some (.int .i64 r2) := B_cell Hbw.out hb2 (hc2 k hlt' 2 _ (by rw [HJ.out]; rfl))
        clear hc1 hc2
        by_cases e0 : s0 = r0
        · obtain rfl := e0
          by_cases e1 : s1 = r1
          · obtain rfl := e1
            by_cases e2 : s2 = r2
            · obtain rfl := e2
              go_wp2_with fail
              go_quiet (fail)
              go_wp2_with fail
              go_roundw
              case rel => exact ⟨k + 1, by omega, by go_num, take_both (d := ct0) hlt hlt' Hk.out (by rw [HI.out, HJ.out]), bdrewN Hbw.out _⟩
              case measure => simp [intOf]; omega
            · have hne : (s2 == r2) = false := by rw [beq_eq_false_iff_ne]; exact e2
              have HF : Hid (decide (a = b) = false) := by
                unfold Hid
                rw [decide_eq_false_iff_not]
                exact ne_of_getD ct0 k (fun h => e2 (by rw [HI.out, HJ.out] at h; simp at h; omega))
              clear e2
              go_wp2_with fail
              go_quiet (fail)
              go_wp2_with fail
              go_ret
              exact gb HF.out (bdrewN Hbw.out _)
          · have hne : (s1 == r1) = false := by rw [beq_eq_false_iff_ne]; exact e1
            have HF : Hid (decide (a = b) = false) := by
              unfold Hid
              rw [decide_eq_false_iff_not]
              exact ne_of_getD ct0 k (fun h => e1 (by rw [HI.out, HJ.out] at h; simp at h; omega))
            clear e1
            go_wp2_with fail
            go_quiet (fail)
            go_wp2_with fail
            go_ret
            exact gb HF.out (bdrewN Hbw.out _)
        · have hne : (s0 == r0) = false := by rw [beq_eq_false_iff_ne]; exact e0
          have HF : Hid (decide (a = b) = false) := by
            unfold Hid
            rw [decide_eq_false_iff_not]
            exact ne_of_getD ct0 k (fun h => e0 (by rw [HI.out, HJ.out] at h; simp at h; omega))
          clear e0
          go_wp2_with fail
          go_quiet (fail)
          go_wp2_with fail
          go_ret
          exact gb HF.out (bdrewN Hbw.out _)
      · obtain rfl : k = a.length := by omega
        have HT : Hid (decide (a = b) = true) := by
          unfold Hid
          rw [decide_eq_true_eq]
          exact eq_of_take Hlen.out Hk.out
        go_wp2_with fail
        go_ret
        exact gb HT.out Hbw.out
  · have hbe : (a.length != b.length) = true := by rw [bne_iff_ne]; exact hlen
    have hbi : (((a.length : Nat) : Int) != ((b.length : Nat) : Int)) = true := by rw [bne_iff_ne]; omega
    have HF : Hid (decide (a = b) = false) := by
      unfold Hid
      rw [decide_eq_false_iff_not]
      intro e
      exact hlen (by rw [e])
    clear hlen
    go_enter Try.func16, Try.ntmps16
    go_wp2_with fail
    go_ret
    exact gb HF.out (Below.refl _ _)

set_option maxHeartbeats 2000000 in
theorem SameIDs_any (x y : Nat) (a b : List ID) (A B : Option Addr) (c d : Nat) (w : World) (ha : RdID w x A a) (hb : RdID w y B b) (hla : a.length ≤ 9223372036854775807) (hlb : b.length ≤ 9223372036854775807) :
    Calls Try.prog 30 #[.slice A a.length c, .slice B b.length d] w (Gives (.bool (decide (a = b))) w) := by
  have Ha := Lib.hid ha
  have Hb := Lib.hid hb
  clear ha hb
  by_cases hlen : a.length = b.length
  · have hbe : (a.length != b.length) = false := by simp [hlen]
    have hbi : (((a.length : Nat) : Int) != ((b.length : Nat) : Int)) = false := by simp [hlen]
    have Hlen := Lib.hid hlen
    clear hlen
    go_enter Try.func30, Try.ntmps30
    go_wp2_with fail
    go_loopw [5] (fun v wr => ∃ k : Nat, k ≤ a.length ∧ v = .int .i64 k ∧ Hid (a.take k = b.take k) ∧ Below w.heap.size w wr) (fun v _ => a.length - (intOf v).toNat)
    case atStart => exact ⟨0, Nat.zero_le _, rfl, rfl, Below.refl _ _⟩
    case round =>
      obtain ⟨k, hk, rfl, Hk, hbw⟩ := hrel
      have Hbw := Lib.hid hbw
      clear hbw
      by_cases hlt : k < a.length
      · have hlt' : k < b.length := by have := Hlen.out; omega
        obtain ⟨b1, o1, rfl, hb1, _, hc1⟩ := Ha.out (by omega)
        obtain ⟨b2, o2, rfl, hb2, _, hc2⟩ := Hb.out (by omega)
        obtain ⟨s0, s1, HI⟩ : ∃ s0 s1, Hid (a.getD k (0, 0) = (s0, s1)) := ⟨_, _, rfl⟩
        obtain ⟨r0, r1, HJ⟩ : ∃ r0 r1, Hid (b.getD k (0, 0) = (r0, r1)) := ⟨_, _, rfl⟩
        have p0 : wr.cell? ⟨b1, o1 + k * 2, none⟩ = some (.int .u64 s0) := B_cell Hbw.out hb1 (hc1 k hlt 0 _ (by rw [HI.out]; rfl))
        have q0 : wr.cell? ⟨b2, o2 + k * 2, none⟩ = some (.int .u64 r0) := B_cell Hbw.out hb2 (hc2 k hlt' 0 _ (by rw [HJ.out]; rfl))
        have p1 : wr.cell? ⟨b1, o1 + k * 2 + 1, none⟩ = some (.int .i64 s1) := B_cell Hbw.out hb1 (hc1 k hlt 1 _ (by rw [HI.out]; rfl))
        have q1 : wr.cell? ⟨b2, o2 + k * 2 + 1, none⟩ = some (.int .i64 r1) := B_cell Hbw.out hb2 (hc2 k hlt' 1 _ (by rw [HJ.out]; rfl))
        clear hc1 hc2
        by_cases e0 : s0 = r0
        · obtain rfl := e0
          by_cases e1 : s1 = r1
          · obtain rfl := e1
            go_wp2_with fail
            go_quiet (fail)
            go_wp2_with fail
            go_roundw
            case rel => exact ⟨k + 1, by omega, by go_num, take_both (d := (0, 0)) hlt hlt' Hk.out (by rw [HI.out, HJ.out]), bdrewN Hbw.out _⟩
            case measure => simp [intOf]; omega
          · have hne : (s1 == r1) = false := by rw [beq_eq_false_iff_ne]; exact e1
            have HF : Hid (decide (a = b) = false) := by
              unfold Hid
              rw [decide_eq_false_iff_not]
              exact ne_of_getD (0, 0) k (fun h => e1 (by rw [HI.out, HJ.out] at h; simp at h; omega))
            clear e1
            go_wp2_with fail
            go_quiet (fail)
            go_wp2_with fail
            go_ret
            exact gb HF.out (bdrewN Hbw.out _)
        · have hne : (s0 == r0) = false := by rw [beq_eq_false_iff_ne]; exact e0
          have HF : Hid (decide (a = b) = false) := by
            unfold Hid
            rw [decide_eq_false_iff_not]
            exact ne_of_getD (0, 0) k (fun h => e0 (by rw [HI.out, HJ.out] at h; simp at h; omega))
          clear e0
          go_wp2_with fail
          go_quiet (fail)
          go_wp2_with fail
          go_ret
          exact gb HF.out (bdrewN Hbw.out _)
      · obtain rfl : k = a.length := by omega
        have HT : Hid (decide (a = b) = true) := by
          unfold Hid
          rw [decide_eq_true_eq]
          exact eq_of_take Hlen.out Hk.out
        go_wp2_with fail
        go_ret
        exact gb HT.out Hbw.out
  · have hbe : (a.length != b.length) = true := by rw [bne_iff_ne]; exact hlen
    have hbi : (((a.length : Nat) : Int) != ((b.length : Nat) : Int)) = true := by rw [bne_iff_ne]; omega
    have HF : Hid (decide (a = b) = false) := by
      unfold Hid
      rw [decide_eq_false_iff_not]
      intro e
      exact hlen (by rw [e])
    clear hlen
    go_enter Try.func30, Try.ntmps30
    go_wp2_with fail
    go_ret
    exact gb HF.out (Below.refl _ _)

set_option maxHeartbeats 2000000 in
theorem Has_any (x : Nat) (l : List ID) (A : Option Addr) (c : Nat) (s z : Int) (w : World) (hl : RdID w x A l) (hn : l.length ≤ 9223372036854775807) :
    Calls Try.prog 20 #[.slice A l.length c, .agg #[.int .u64 s, .int .i64 z]] w (Gives (.bool (decide ((s, z) ∈ l))) w) := by
  have Hl := Lib.hid hl
  clear hl
  go_enter Try.func20, Try.ntmps20
  go_wp2_with fail
  go_loopw [5] (fun v wr => ∃ k : Nat, k ≤ l.length ∧ v = .int .i64 k ∧ Hid (¬ (s, z) ∈ l.take k) ∧ IsB wr w.heap.size 43 #[.int .u64 s, .int .i64 z] ∧ Below w.heap.size w wr) (fun v _ => l.length - (intOf v).toNat)
  case atStart => exact ⟨0, Nat.zero_le _, rfl, by simp [Hid], IsB.new _ _ _, bel1 _ _⟩
  case round =>
    obtain ⟨k, hk, rfl, Hk, hI, hbw⟩ := hrel
    have hi0 : wr.cell? ⟨w.heap.size, 0, none⟩ = some (.int .u64 s) := by rw [hI.cell]; rfl
    have hi1 : wr.cell? ⟨w.heap.size, 1, none⟩ = some (.int .i64 z) := by rw [hI.cell]; rfl
    have hIl := hI.lt
    have HI := Lib.hid hI
    have Hbw := Lib.hid hbw
    clear hbw hI
    by_cases hlt : k < l.length
    · obtain ⟨b1, o1, rfl, hb1, _, hc1⟩ := Hl.out (by omega)
      obtain ⟨p, q, HJ⟩ : ∃ p q, Hid (l.getD k (0, 0) = (p, q)) := ⟨_, _, rfl⟩
      have p0 : wr.cell? ⟨b1, o1 + k * 2, none⟩ = some (.int .u64 p) := B_cell Hbw.out hb1 (hc1 k hlt 0 _ (by rw [HJ.out]; rfl))
      have p1 : wr.cell? ⟨b1, o1 + k * 2 + 1, none⟩ = some (.int .i64 q) := B_cell Hbw.out hb1 (hc1 k hlt 1 _ (by rw [HJ.out]; rfl))
      clear hc1
      have next : (p, q) ≠ (s, z) → ¬ (s, z) ∈ l.take (k + 1) := by
        intro hne hm
        rw [take_snoc _ (0, 0) _ hlt, HJ.out] at hm
        rcases List.mem_append.1 hm with h | h
        · exact Hk.out h
        · rw [List.mem_singleton] at h; exact hne h.symm
      have Hnext := Lib.hid next
      clear next
      by_cases e0 : p = s
      · obtain rfl := e0
        by_cases e1 : q = z
        · obtain rfl := e1
          have HT : Hid (decide ((p, q) ∈ l) = true) := by
            unfold Hid
            rw [decide_eq_true_eq, ← HJ.out]
            exact getD_mem _ _ _ hlt
          go_wp2_with fail
          go_quiet (fail)
          go_wp2_with fail
          go_ret
          exact gb HT.out (bdrewN Hbw.out _)
        · have hne : (q == z) = false := by rw [beq_eq_false_iff_ne]; exact e1
          have Hn : Hid (¬ (p, z) ∈ l.take (k + 1)) := Hnext.out (fun h => e1 (by injection h))
          clear e1
          go_wp2_with fail
          go_quiet (fail)
          go_wp2_with fail
          go_roundw
          case rel => exact ⟨k + 1, by omega, by go_num, Hn, HI.out.drewN _, bdrewN Hbw.out _⟩
          case measure => simp [intOf]; omega
      · have hne : (p == s) = false := by rw [beq_eq_false_iff_ne]; exact e0
        have Hn : Hid (¬ (s, z) ∈ l.take (k + 1)) := Hnext.out (fun h => e0 (by injection h))
        clear e0
        go_wp2_with fail
        go_quiet (fail)
        go_wp2_with fail
        go_roundw
        case rel => exact ⟨k + 1, by omega, by go_num, Hn, HI.out.drewN _, bdrewN Hbw.out _⟩
        case measure => simp [intOf]; omega
    · obtain rfl : k = l.length := by omega
      have HF : Hid (decide ((s, z) ∈ l) = false) := by
        unfold Hid
        rw [decide_eq_false_iff_not]
        have := Hk.out
        rwa [List.take_length] at this
      go_wp2_with fail
      go_ret
      exact gb HF.out Hbw.out

def Gives2 (n : Int) (b : Bool) (w : World) (e : Ending) (w' : World) : Prop := e = .returned (.tuple #[.int .i64 n, .bool b]) ∧ Below w.heap.size w w'
theorem gv2 {n m : Int} {b d : Bool} {p : Int × Bool} {w W : World} (h : p = (m, d)) (hn : n = p.1) (hb' : b = p.2) (hb : Below w.heap.size w W) : Gives2 n b w (.returned (.tuple #[.int .i64 m, .bool d])) W := by
  subst hn hb'
  exact ⟨by rw [h], hb⟩
theorem asc_take {t : List CT} {k : Nat} {i : ID} {n : Int} (hn : (t.map (·.1)).Nodup) (hk : k < t.length) (h : t.getD k ct0 = (i, n)) : asc t i = some n := asc_mem (c := (i, n)) hn (h ▸ getD_mem t ct0 k hk)

set_option maxHeartbeats 2000000 in
theorem rN_any (x : Nat) (t : List CT) (A : Option Addr) (c : Nat) (s z : Int) (w : World) (hr : RdC w x A t) (hn : t.length ≤ 9223372036854775807) :
    Calls Try.prog 33 #[.slice A t.length c, .agg #[.int .u64 s, .int .i64 z]] w (Gives2 (nP t (s, z)).1 (nP t (s, z)).2 w) := by
  have Hr := Lib.hid hr
  clear hr
  go_enter Try.func33, Try.ntmps33
  go_wp2_with fail
  refine (rCheck_any x t A c _ (Hr.out.alloc _) hn).mono ?_
  rintro e w1 ⟨rfl, hb1⟩
  have Hb1 : Hid (Below w.heap.size w w1) := (bel1 w _).trans (hb1.mono (by simp))
  have HI1 : Hid (IsB w1 w.heap.size 43 #[.int .u64 s, .int .i64 z]) := (IsB.new _ _ _).on hb1
  clear hb1
  by_cases hE : tblE t = 0
  · have HE := Lib.hid hE
    rw [hE]
    clear hE
    go_wp2_with fail
    go_loopw [6] (fun v wr => ∃ k : Nat, k ≤ t.length ∧ v = .int .i64 k ∧ Hid (¬ (s, z) ∈ (t.take k).map (·.1)) ∧ IsB wr w.heap.size 43 #[.int .u64 s, .int .i64 z] ∧ Below w.heap.size w wr) (fun v _ => t.length - (intOf v).toNat)
    case atStart => exact ⟨0, Nat.zero_le _, rfl, by simp [Hid], HI1.out, Hb1.out⟩
    case round =>
      obtain ⟨k, hk, rfl, Hk, hI, hbw⟩ := hrel
      have hi0 : wr.cell? ⟨w.heap.size, 0, none⟩ = some (.int .u64 s) := by rw [hI.cell]; rfl
      have hi1 : wr.cell? ⟨w.heap.size, 1, none⟩ = some (.int .i64 z) := by rw [hI.cell]; rfl
      have hIl := hI.lt
      have HI := Lib.hid hI
      have Hbw := Lib.hid hbw
      clear hbw hI
      by_cases hlt : k < t.length
      · obtain ⟨b1, o1, rfl, hb1, _, hc1⟩ := Hr.out (by omega)
        obtain ⟨p, q, n, HJ⟩ : ∃ p q n, Hid (t.getD k ct0 = ((p, q), n)) := ⟨_, _, _, rfl⟩
        have p0 : wr.cell? ⟨b1, o1 + k * 3, none⟩ = some (.int .u64 p) := B_cell Hbw.out hb1 (hc1 k hlt 0 _ (by rw [HJ.out]; rfl))
        have p1 : wr.cell? ⟨b1, o1 + k * 3 + 1, none⟩ = some (.int .i64 q) := B_cell Hbw.out hb1 (hc1 k hlt 1 _ (by rw [HJ.out]; rfl))
        have p2 : wr.cell? ⟨b1, o1 + k * 3 + 2, none⟩ = some (.int .i64 n) := B_cell Hbw.out hb1 (hc1 k hlt 2 _ (by rw [HJ.out]; rfl))
        have p2' : ∀ nq, (wr.drewN nq).cell? ⟨b1, o1 + k * 3 + 2, none⟩ = some (.int .i64 n) := fun _ => p2
        have Hp2 := Lib.hid p2'
        clear hc1 p2'
        have next : (p, q) ≠ (s, z) → ¬ (s, z) ∈ (t.take (k + 1)).map (·.1) := by
          intro hne hm
          rw [take_snoc _ ct0 _ hlt, HJ.out, List.map_append] at hm
          rcases List.mem_append.1 hm with h | h
          · exact Hk.out h
          · simp only [List.map_cons, List.map_nil, List.mem_singleton] at h; exact hne h.symm
        have Hnext := Lib.hid next
        clear next
        by_cases e0 : p = s
        · obtain rfl := e0
          by_cases e1 : q = z
          · obtain rfl := e1
            have HT : Hid (nP t (p, q) = (n, true)) := by
              unfold Hid nP
              rw [if_pos HE.out, asc_take (tbl_nodup HE.out) hlt HJ.out]
            go_wp2_with fail
            go_quiet (fail)
            go_wp2_with fail
            go_ret2
            exact gv2 HT.out rfl rfl (bdrewN Hbw.out _)
          · have hne : (q == z) = false := by rw [beq_eq_false_iff_ne]; exact e1
            have Hn : Hid (¬ (p, z) ∈ (t.take (k + 1)).map (·.1)) := Hnext.out (fun h => e1 (by injection h))
            clear e1
            go_wp2_with fail
            go_quiet (fail)
            go_wp2_with fail
            go_roundw
            case rel => exact ⟨k + 1, by omega, by go_num, Hn, HI.out.drewN _, bdrewN Hbw.out _⟩
            case measure => simp [intOf]; omega
        · have hne : (p == s) = false := by rw [beq_eq_false_iff_ne]; exact e0
          have Hn : Hid (¬ (s, z) ∈ (t.take (k + 1)).map (·.1)) := Hnext.out (fun h => e0 (by injection h))
          clear e0
          go_wp2_with fail
          go_quiet (fail)
          go_wp2_with fail
          go_roundw
          case rel => exact ⟨k + 1, by omega, by go_num, Hn, HI.out.drewN _, bdrewN Hbw.out _⟩
          case measure => simp [intOf]; omega
      · obtain rfl : k = t.length := by omega
        have HF : Hid (nP t (s, z) = (0, false)) := by
          unfold Hid nP
          have := Hk.out
          rw [List.take_length] at this
          rw [if_pos HE.out, asc_none_iff.2 this]
        go_wp2_with fail
        go_ret2
        exact gv2 HF.out rfl rfl Hbw.out
  · have HF : Hid (nP t (s, z) = (0, false)) := by
      unfold Hid nP
      rw [if_neg hE]
    have hbe : (tblE t != 0) = true := by rw [bne_iff_ne]; exact hE
    clear hE
    go_wp2_with fail
    go_ret2
    exact gv2 HF.out rfl rfl Hb1.out
end Go.Proofs.Ytjglpmcekbjoaaa
