/- Contracts: Dead (both), the reference's Sweep. -/
import Derived.Test.YtjglpmcekbjoaaaQ
namespace Go.Proofs.Ytjglpmcekbjoaaa
open Go.RowKit
attribute [local go_sem] wext_cell

def deadL (t : List CT) : List ID := (t.filter (fun c => c.2 == 0)).map (·.1)
def liveL (t : List CT) : List CT := t.filter (fun c => decide (0 < c.2))
theorem deadL_snoc (t : List CT) (c : CT) : deadL (t ++ [c]) = if c.2 == 0 then deadL t ++ [c.1] else deadL t := by
  unfold deadL
  rw [List.filter_append]
  by_cases h : (c.2 == 0) = true <;> simp [h]
theorem liveL_snoc (t : List CT) (c : CT) : liveL (t ++ [c]) = if decide (0 < c.2) then liveL t ++ [c] else liveL t := by
  unfold liveL
  rw [List.filter_append]
  by_cases h : 0 < c.2 <;> simp [h]
theorem deadL_len (t : List CT) : (deadL t).length ≤ t.length := by
  unfold deadL
  rw [List.length_map]
  exact List.length_filter_le _ _
theorem liveL_len (t : List CT) : (liveL t).length ≤ t.length := List.length_filter_le _ _
theorem take_len {α : Type} (l : List α) (k : Nat) : (l.take k).length ≤ k := by rw [List.length_take]; omega
theorem oneI_own {x : Nat} {l : List ID} {w wr : World} {A : Option Addr} {c : Nat} (h : wr.ownsRow w.heap.size 43 2 (.slice A l.length c) l.length (l.flatMap encID)) (hx : x < w.heap.size) (hb : Below w.heap.size w wr) : OneI x l w (.returned (.slice A l.length c)) wr :=
  ⟨A, c, rfl, (Rd.of_own encID_len (by omega) h hx).2, hb⟩
theorem oneC_own {x : Nat} {l : List CT} {w wr : World} {A : Option Addr} {c : Nat} (h : wr.ownsRow w.heap.size 66 3 (.slice A l.length c) l.length (l.flatMap encC)) (hx : x < w.heap.size) (hb : Below w.heap.size w wr) : OneC x l w (.returned (.slice A l.length c)) wr :=
  ⟨A, c, rfl, (Rd.of_own encC_len (by omega) h hx).2, own_cap h, hb⟩
theorem oneI_nil {x : Nat} {l : List ID} {w wr : World} (h : l = []) (hb : Below w.heap.size w wr) : OneI x l w (.returned (.slice none 0 0)) wr := by
  subst h
  exact ⟨none, 0, rfl, Rd.nil, hb⟩
theorem oneC_nil {x : Nat} {l : List CT} {w wr : World} (h : l = []) (hb : Below w.heap.size w wr) : OneC x l w (.returned (.slice none 0 0)) wr := by
  subst h
  exact ⟨none, 0, rfl, Rd.nil, Nat.le_refl _, hb⟩

set_option maxRecDepth 100000 in
set_option maxHeartbeats 4000000 in
theorem Dead_any (x : Nat) (t : List CT) (A : Option Addr) (c : Nat) (w : World) (hr : RdC w x A t) (hx : x < w.heap.size) (hn : t.length ≤ 9223372036854775807) :
    Calls Try.prog 19 #[.slice A t.length c] w (OneI x (deadP t) w) := by
  obtain ⟨i0, hi, hz0, hz1, hz2⟩ := info_parts info43
  have Hr := Lib.hid hr
  clear hr
  go_enter Try.func19, Try.ntmps19
  go_wp2_with fail
  refine (Check_any x t A c _ Hr.out hn).mono ?_
  rintro e w1 ⟨rfl, hb1⟩
  have Hb1 := Lib.hid hb1
  clear hb1
  by_cases hE : tblE t = 0
  · have HE := Lib.hid hE
    have HP : Hid (deadP t = deadL t) := by rw [Hid, deadP, if_pos hE]; rfl
    have hl4 := ((tblE_iff t).1 hE).1
    rw [hE]
    clear hE
    go_wp2_with fail
    go_loopw [3, 11] (fun vO vI wr => ∃ (k : Nat) (B : Option Addr) (d : Nat), k ≤ t.length ∧ vI = .int .i64 k ∧ vO = .slice B (deadL (t.take k)).length d ∧ wr.ownsRow w.heap.size 43 2 (.slice B (deadL (t.take k)).length d) (deadL (t.take k)).length ((deadL (t.take k)).flatMap encID) ∧ Below w.heap.size w wr) (fun _ vI _ => t.length - (intOf vI).toNat)
    case atStart => exact ⟨0, none, 0, Nat.zero_le _, rfl, rfl, World.ownsRow_nil _ _ _ _, Hb1.out⟩
    case round =>
      obtain ⟨k, B, d, hk, rfl, rfl, hown, hbw⟩ := hrel
      have hsz := hbw.size
      have hlen := deadL_len (t.take k)
      have htk := take_len t k
      obtain ⟨xs, HX⟩ : ∃ xs, Hid (deadL (t.take k) = xs) := ⟨_, rfl⟩
      rw [HX.out] at hown hlen ⊢
      have Hown := Lib.hid hown
      have Hbw := Lib.hid hbw
      clear hown hbw
      by_cases hlt : k < t.length
      · obtain ⟨b1, o1, rfl, hb1, _, hc1⟩ := Hr.out (by omega)
        obtain ⟨p, q, n, HJ⟩ : ∃ p q n, Hid (t.getD k ct0 = ((p, q), n)) := ⟨_, _, _, rfl⟩
        have C0 : Hid (w.cell? ⟨b1, o1 + k * 3, none⟩ = some (.int .u64 p)) := hc1 k hlt 0 _ (by rw [HJ.out]; rfl)
        have C1 : Hid (w.cell? ⟨b1, o1 + k * 3 + 1, none⟩ = some (.int .i64 q)) := hc1 k hlt 1 _ (by rw [HJ.out]; rfl)
        have C2 : Hid (w.cell? ⟨b1, o1 + k * 3 + 2, none⟩ = some (.int .i64 n)) := hc1 k hlt 2 _ (by rw [HJ.out]; rfl)
        clear hc1
        have K1 := Hown
        have B1 := Hbw
        have hs1 := B1.out.size
        have hc0 := B_cell B1.out hb1 C0.out
        have hc1 := B_cell B1.out hb1 C1.out
        have hc2 := B_cell B1.out hb1 C2.out
        have hbl : b1 < wr.heap.size := by omega
        by_cases hz : n = 0
        · have HN : Hid (deadL (t.take (k + 1)) = xs ++ [(p, q)]) := by
            unfold Hid
            rw [take_snoc _ ct0 _ hlt, deadL_snoc, HX.out, HJ.out, if_pos (by simpa using hz)]
          have hbz : (n == 0) = true := by rw [beq_iff_eq]; exact hz
          clear hz
          go_wp2_with (at_builtin; refine halt_ ?_)
          unfold Hid
          refine wpList_append_lies _ rfl _ _ _ rfl w.heap.size 43 i0 _ 2 16 Try.underlying36 hi hz0 hz1 hz2 rfl (by decide) _ xs.length _ rfl ((K1.out.alloc _).alloc _) ⟨wr.heap.size + 1, 0, none⟩ 1 1 [.int .u64 p, .int .i64 q] rfl rfl (two_new _ _ _ _ _ (by simp)) (encID_one (p, q)) (by omega) (by unfold maxLen; omega) (by omega) (by simp; omega) (wr.heap.size + 2) (by simp) ?_
          intro g3 c3 w3 hown3 hgrow3 hat3 hlt3
          have K3 := Lib.hid hown3
          have B3 : Hid (Below w.heap.size w w3) := ((B1.out.alloc B1.out.size _).alloc (by simp; omega) _).grown hgrow3 (by simp; omega) (fun k hk => (K1.out.lt k hk).1)
          clear hown3 hgrow3 hat3
          go_wp2_with fail
          go_roundw
          case rel =>
            refine ⟨k + 1, some ⟨g3, 0, none⟩, c3, by omega, by go_num, by rw [HN.out]; simp, ?_, B3.out⟩
            rw [HN.out, List.length_append, List.flatMap_append]
            exact K3.out
          case measure => simp [intOf]; omega
        · have HN : Hid (deadL (t.take (k + 1)) = xs) := by
            unfold Hid
            rw [take_snoc _ ct0 _ hlt, deadL_snoc, HX.out, HJ.out, if_neg (by simpa using hz)]
          have hbz : (n == 0) = false := by rw [beq_eq_false_iff_ne]; exact hz
          clear hz
          go_wp2_with fail
          go_roundw
          case rel => exact ⟨k + 1, B, d, by omega, by go_num, by rw [HN.out], by rw [HN.out]; exact (K1.out.alloc _), (B1.out.alloc B1.out.size _)⟩
          case measure => simp [intOf]; omega
      · obtain rfl : k = t.length := by omega
        rw [List.take_length] at HX
        go_wp2_with fail
        go_ret
        rw [HP.out, HX.out]
        exact oneI_own Hown.out hx Hbw.out
  · have HP : Hid (deadP t = []) := by rw [Hid, deadP, if_neg hE]
    have hbe : (tblE t != 0) = true := by rw [bne_iff_ne]; exact hE
    clear hE
    go_wp2_with fail
    go_ret
    exact oneI_nil HP.out Hb1.out

set_option maxRecDepth 100000 in
set_option maxHeartbeats 4000000 in
theorem rDead_any (x : Nat) (t : List CT) (A : Option Addr) (c : Nat) (w : World) (hr : RdC w x A t) (hx : x < w.heap.size) (hn : t.length ≤ 9223372036854775807) :
    Calls Try.prog 36 #[.slice A t.length c] w (OneI x (deadP t) w) := by
  obtain ⟨i0, hi, hz0, hz1, hz2⟩ := info_parts info43
  have Hr := Lib.hid hr
  clear hr
  by_cases hE : tblE t = 0
  · have HE := Lib.hid hE
    have HP : Hid (deadP t = deadL t) := by rw [Hid, deadP, if_pos hE]; rfl
    have hl4 := ((tblE_iff t).1 hE).1
    clear hE
    go_enter Try.func36, Try.ntmps36
    go_wp2_with fail
    go_loopw [3, 4] (fun vO vI wr => ∃ (k : Nat) (B : Option Addr) (d : Nat), k ≤ t.length ∧ vI = .int .i64 k ∧ vO = .slice B (deadL (t.take k)).length d ∧ wr.ownsRow w.heap.size 43 2 (.slice B (deadL (t.take k)).length d) (deadL (t.take k)).length ((deadL (t.take k)).flatMap encID) ∧ Below w.heap.size w wr) (fun _ vI _ => t.length - (intOf vI).toNat)
    case atStart => exact ⟨0, none, 0, Nat.zero_le _, rfl, rfl, World.ownsRow_nil _ _ _ _, Below.refl _ _⟩
    case round =>
      obtain ⟨k, B, d, hk, rfl, rfl, hown, hbw⟩ := hrel
      have hsz := hbw.size
      have hlen := deadL_len (t.take k)
      have htk := take_len t k
      obtain ⟨xs, HX⟩ : ∃ xs, Hid (deadL (t.take k) = xs) := ⟨_, rfl⟩
      rw [HX.out] at hown hlen ⊢
      have Hown := Lib.hid hown
      have Hbw := Lib.hid hbw
      clear hown hbw
      by_cases hlt : k < t.length
      · obtain ⟨b1, o1, rfl, hb1, _, hc1⟩ := Hr.out (by omega)
        obtain ⟨p, q, n, HJ⟩ : ∃ p q n, Hid (t.getD k ct0 = ((p, q), n)) := ⟨_, _, _, rfl⟩
        have C0 : Hid (w.cell? ⟨b1, o1 + k * 3, none⟩ = some (.int .u64 p)) := hc1 k hlt 0 _ (by rw [HJ.out]; rfl)
        have C1 : Hid (w.cell? ⟨b1, o1 + k * 3 + 1, none⟩ = some (.int .i64 q)) := hc1 k hlt 1 _ (by rw [HJ.out]; rfl)
        have C2 : Hid (w.cell? ⟨b1, o1 + k * 3 + 2, none⟩ = some (.int .i64 n)) := hc1 k hlt 2 _ (by rw [HJ.out]; rfl)
        clear hc1
        go_wp2_with fail
        refine (rCheck_any x t _ c _ (Hr.out.on Hbw.out) hn).mono ?_
        rintro e w1 ⟨rfl, hb1'⟩
        rw [HE.out]
        have K1 : Hid (w1.ownsRow w.heap.size 43 2 (.slice B (xs).length d) (xs).length ((xs).flatMap encID)) := own_on Hown.out hb1'
        have B1 : Hid (Below w.heap.size w w1) := Hbw.out.trans (hb1'.mono hsz)
        clear hb1'
        have hs1 := B1.out.size
        have hc0 := B_cell B1.out hb1 C0.out
        have hc1 := B_cell B1.out hb1 C1.out
        have hc2 := B_cell B1.out hb1 C2.out
        have hbl : b1 < w1.heap.size := by omega
        by_cases hz : n = 0
        · have HN : Hid (deadL (t.take (k + 1)) = xs ++ [(p, q)]) := by
            unfold Hid
            rw [take_snoc _ ct0 _ hlt, deadL_snoc, HX.out, HJ.out, if_pos (by simpa using hz)]
          have hbz : (n == 0) = true := by rw [beq_iff_eq]; exact hz
          clear hz
          go_wp2_with (at_builtin; refine halt_ ?_)
          unfold Hid
          refine wpList_append_lies _ rfl _ _ _ rfl w.heap.size 43 i0 _ 2 16 Try.underlying36 hi hz0 hz1 hz2 rfl (by decide) _ xs.length _ rfl (K1.out.alloc _) ⟨w1.heap.size, 0, none⟩ 1 1 [.int .u64 p, .int .i64 q] rfl rfl (two_new _ _ _ _ _ (by simp)) (encID_one (p, q)) (by omega) (by unfold maxLen; omega) (by omega) (by simp; omega) (w1.heap.size + 1) (by simp) ?_
          intro g3 c3 w3 hown3 hgrow3 hat3 hlt3
          have K3 := Lib.hid hown3
          have B3 : Hid (Below w.heap.size w w3) := (B1.out.alloc B1.out.size _).grown hgrow3 (by simp; omega) (fun k hk => (K1.out.lt k hk).1)
          clear hown3 hgrow3 hat3
          go_wp2_with fail
          go_roundw
          case rel =>
            refine ⟨k + 1, some ⟨g3, 0, none⟩, c3, by omega, by go_num, by rw [HN.out]; simp, ?_, B3.out⟩
            rw [HN.out, List.length_append, List.flatMap_append]
            exact K3.out
          case measure => simp [intOf]; omega
        · have HN : Hid (deadL (t.take (k + 1)) = xs) := by
            unfold Hid
            rw [take_snoc _ ct0 _ hlt, deadL_snoc, HX.out, HJ.out, if_neg (by simpa using hz)]
          have hbz : (n == 0) = false := by rw [beq_eq_false_iff_ne]; exact hz
          clear hz
          go_wp2_with fail
          go_roundw
          case rel => exact ⟨k + 1, B, d, by omega, by go_num, by rw [HN.out], by rw [HN.out]; exact K1.out, B1.out⟩
          case measure => simp [intOf]; omega
      · obtain rfl : k = t.length := by omega
        rw [List.take_length] at HX
        go_wp2_with fail
        go_ret
        rw [HP.out, HX.out]
        exact oneI_own Hown.out hx Hbw.out
  · have HP : Hid (deadP t = []) := by rw [Hid, deadP, if_neg hE]
    have hbe : (tblE t == 0) = false := by rw [beq_eq_false_iff_ne]; exact hE
    clear hE
    by_cases h0 : t.length = 0
    · have hdl : decide (0 < t.length) = false := by simp [h0]
      have hdi : decide ((0 : Int) < (t.length : Int)) = false := by simp [h0]
      clear h0
      go_enter Try.func36, Try.ntmps36
      go_wp2_with fail
      go_loopw [3, 4] (fun vO vI wr => vI = .int .i64 0 ∧ vO = .slice none 0 0 ∧ Below w.heap.size w wr) (fun _ _ _ => 0)
      case atStart => exact ⟨rfl, rfl, Below.refl _ _⟩
      case round =>
        obtain ⟨rfl, rfl, hbw⟩ := hrel
        have Hbw := Lib.hid hbw
        clear hbw
        go_wp2_with fail
        go_ret
        exact oneI_nil HP.out Hbw.out
    · have hdl : decide (0 < t.length) = true := by simp; omega
      have hlp : 0 < t.length := by omega
      clear h0
      go_enter Try.func36, Try.ntmps36
      go_wp2_with fail
      go_loopw [3, 4] (fun vO vI wr => vI = .int .i64 0 ∧ vO = .slice none 0 0 ∧ Below w.heap.size w wr) (fun _ _ _ => 0)
      case atStart => exact ⟨rfl, rfl, Below.refl _ _⟩
      case round =>
        obtain ⟨rfl, rfl, hbw⟩ := hrel
        have hsz := hbw.size
        have Hbw := Lib.hid hbw
        clear hbw
        go_wp2_with fail
        refine (rCheck_any x t _ c _ (Hr.out.on Hbw.out) hn).mono ?_
        rintro e w1 ⟨rfl, hb1'⟩
        have B1 : Hid (Below w.heap.size w w1) := Hbw.out.trans (hb1'.mono hsz)
        clear hb1'
        go_wp2_with fail
        go_ret
        exact oneI_nil HP.out B1.out

set_option maxRecDepth 100000 in
set_option maxHeartbeats 4000000 in
theorem rSweep_any (x : Nat) (t : List CT) (A : Option Addr) (c : Nat) (w : World) (hr : RdC w x A t) (hx : x < w.heap.size) (hn : t.length ≤ 9223372036854775807) :
    Calls Try.prog 38 #[.slice A t.length c] w (OneC x (sweepP t) w) := by
  obtain ⟨i0, hi, hz0, hz1, hz2⟩ := info_parts info66
  have Hr := Lib.hid hr
  clear hr
  by_cases hE : tblE t = 0
  · have HE := Lib.hid hE
    have HP : Hid (sweepP t = liveL t) := by rw [Hid, ← sweep_eq, if_pos hE]; rfl
    have hl4 := ((tblE_iff t).1 hE).1
    clear hE
    go_enter Try.func38, Try.ntmps38
    go_wp2_with fail
    go_loopw [3, 4] (fun vO vI wr => ∃ (k : Nat) (B : Option Addr) (d : Nat), k ≤ t.length ∧ vI = .int .i64 k ∧ vO = .slice B (liveL (t.take k)).length d ∧ wr.ownsRow w.heap.size 66 3 (.slice B (liveL (t.take k)).length d) (liveL (t.take k)).length ((liveL (t.take k)).flatMap encC) ∧ Below w.heap.size w wr) (fun _ vI _ => t.length - (intOf vI).toNat)
    case atStart => exact ⟨0, none, 0, Nat.zero_le _, rfl, rfl, World.ownsRow_nil _ _ _ _, Below.refl _ _⟩
    case round =>
      obtain ⟨k, B, d, hk, rfl, rfl, hown, hbw⟩ := hrel
      have hsz := hbw.size
      have hlen := liveL_len (t.take k)
      have htk := take_len t k
      obtain ⟨xs, HX⟩ : ∃ xs, Hid (liveL (t.take k) = xs) := ⟨_, rfl⟩
      rw [HX.out] at hown hlen ⊢
      have Hown := Lib.hid hown
      have Hbw := Lib.hid hbw
      clear hown hbw
      by_cases hlt : k < t.length
      · obtain ⟨b1, o1, rfl, hb1, _, hc1⟩ := Hr.out (by omega)
        obtain ⟨p, q, n, HJ⟩ : ∃ p q n, Hid (t.getD k ct0 = ((p, q), n)) := ⟨_, _, _, rfl⟩
        have C0 : Hid (w.cell? ⟨b1, o1 + k * 3, none⟩ = some (.int .u64 p)) := hc1 k hlt 0 _ (by rw [HJ.out]; rfl)
        have C1 : Hid (w.cell? ⟨b1, o1 + k * 3 + 1, none⟩ = some (.int .i64 q)) := hc1 k hlt 1 _ (by rw [HJ.out]; rfl)
        have C2 : Hid (w.cell? ⟨b1, o1 + k * 3 + 2, none⟩ = some (.int .i64 n)) := hc1 k hlt 2 _ (by rw [HJ.out]; rfl)
        clear hc1
        go_wp2_with fail
        refine (rCheck_any x t _ c _ (Hr.out.on Hbw.out) hn).mono ?_
        rintro e w1 ⟨rfl, hb1'⟩
        rw [HE.out]
        have K1 : Hid (w1.ownsRow w.heap.size 66 3 (.slice B (xs).length d) (xs).length ((xs).flatMap encC)) := own_on Hown.out hb1'
        have B1 : Hid (Below w.heap.size w w1) := Hbw.out.trans (hb1'.mono hsz)
        clear hb1'
        have hs1 := B1.out.size
        have hc0 := B_cell B1.out hb1 C0.out
        have hc1 := B_cell B1.out hb1 C1.out
        have hc2 := B_cell B1.out hb1 C2.out
        have hbl : b1 < w1.heap.size := by omega
        by_cases hz : 0 < n
        · have HN : Hid (liveL (t.take (k + 1)) = xs ++ [((p, q), n)]) := by
            unfold Hid
            rw [take_snoc _ ct0 _ hlt, liveL_snoc, HX.out, HJ.out, if_pos (by simpa using hz)]
          go_wp2_with (at_builtin; refine halt_ ?_)
          unfold Hid
          refine wpList_append_lies _ rfl _ _ _ rfl w.heap.size 66 i0 _ 3 24 Try.underlying28 hi hz0 hz1 hz2 rfl (by decide) _ xs.length _ rfl (K1.out.alloc _) ⟨w1.heap.size, 0, none⟩ 1 1 [.int .u64 p, .int .i64 q, .int .i64 n] rfl rfl (three_new _ _ _ _ _ _ (by simp)) (encC_one ((p, q), n)) (by omega) (by unfold maxLen; omega) (by omega) (by simp; omega) (w1.heap.size + 1) (by simp) ?_
          intro g3 c3 w3 hown3 hgrow3 hat3 hlt3
          have K3 := Lib.hid hown3
          have B3 : Hid (Below w.heap.size w w3) := (B1.out.alloc B1.out.size _).grown hgrow3 (by simp; omega) (fun k hk => (K1.out.lt k hk).1)
          clear hown3 hgrow3 hat3
          go_wp2_with fail
          go_roundw
          case rel =>
            refine ⟨k + 1, some ⟨g3, 0, none⟩, c3, by omega, by go_num, by rw [HN.out]; simp, ?_, B3.out⟩
            rw [HN.out, List.length_append, List.flatMap_append]
            exact K3.out
          case measure => simp [intOf]; omega
        · have HN : Hid (liveL (t.take (k + 1)) = xs) := by
            unfold Hid
            rw [take_snoc _ ct0 _ hlt, liveL_snoc, HX.out, HJ.out, if_neg (by simpa using hz)]
          go_wp2_with fail
          go_roundw
          case rel => exact ⟨k + 1, B, d, by omega, by go_num, by rw [HN.out], by rw [HN.out]; exact K1.out, B1.out⟩
          case measure => simp [intOf]; omega
      · obtain rfl : k = t.length := by omega
        rw [List.take_length] at HX
        go_wp2_with fail
        go_ret
        rw [HP.out, HX.out]
        exact oneC_own Hown.out hx Hbw.out
  · have HP : Hid (sweepP t = []) := by rw [Hid, sweepP, if_neg hE]
    have hbe : (tblE t == 0) = false := by rw [beq_eq_false_iff_ne]; exact hE
    clear hE
    by_cases h0 : t.length = 0
    · have hdl : decide (0 < t.length) = false := by simp [h0]
      have hdi : decide ((0 : Int) < (t.length : Int)) = false := by simp [h0]
      clear h0
      go_enter Try.func38, Try.ntmps38
      go_wp2_with fail
      go_loopw [3, 4] (fun vO vI wr => vI = .int .i64 0 ∧ vO = .slice none 0 0 ∧ Below w.heap.size w wr) (fun _ _ _ => 0)
      case atStart => exact ⟨rfl, rfl, Below.refl _ _⟩
      case round =>
        obtain ⟨rfl, rfl, hbw⟩ := hrel
        have Hbw := Lib.hid hbw
        clear hbw
        go_wp2_with fail
        go_ret
        exact oneC_nil HP.out Hbw.out
    · have hdl : decide (0 < t.length) = true := by simp; omega
      have hlp : 0 < t.length := by omega
      clear h0
      go_enter Try.func38, Try.ntmps38
      go_wp2_with fail
      go_loopw [3, 4] (fun vO vI wr => vI = .int .i64 0 ∧ vO = .slice none 0 0 ∧ Below w.heap.size w wr) (fun _ _ _ => 0)
      case atStart => exact ⟨rfl, rfl, Below.refl _ _⟩
      case round =>
        obtain ⟨rfl, rfl, hbw⟩ := hrel
        have hsz := hbw.size
        have Hbw := Lib.hid hbw
        clear hbw
        go_wp2_with fail
        refine (rCheck_any x t _ c _ (Hr.out.on Hbw.out) hn).mono ?_
        rintro e w1 ⟨rfl, hb1'⟩
        have B1 : Hid (Below w.heap.size w w1) := Hbw.out.trans (hb1'.mono hsz)
        clear hb1'
        go_wp2_with fail
        go_ret
        exact oneC_nil HP.out B1.out
end Go.Proofs.Ytjglpmcekbjoaaa
