/- Walks of laws: Copies. -/
import Derived.Test.YtddjkkmdcdiofaaLG
namespace Go.Proofs.Ytddjkkmdcdiofaa
open Go.RowKit Go.MapKept Go.ChangeMaps

set_option maxRecDepth 100000 in
set_option maxHeartbeats 8000000 in
theorem law10 (A : Option Addr) (l : List Int) (c : Nat) (w : World) (hr : RdT w w.heap.size A l) (hl : l.length ≤ 9223372036854775807) :
    Calls Try.prog 10 #[.slice A l.length c] w (Gives (.bool true) w) := by
  have Hr := Lib.hid hr
  clear hr
  go_enter Try.func10, Try.ntmps10
  go_wp2_with fail
  have T0 : Hid (Tp (w.alloc (.cells #[.slice A l.length c, .int .i64 0] 39)) w.heap.size 0) := tape0 Hr.out hl
  have G0 : Hid (w.grownBy (w.alloc (.cells #[.slice A l.length c, .int .i64 0] 39)) (some w.heap.size)) := World.grownBy_alloc _ _ _
  have s0 : w.heap.size + 1 ≤ (w.alloc (.cells #[.slice A l.length c, .int .i64 0] 39)).heap.size := by simp
  generalize w.alloc (.cells #[.slice A l.length c, .int .i64 0] 39) = w0 at *
  refine (played_any 12 w.heap.size 0 w0 (by omega) (by omega) (by omega) T0.out).mono ?_
  rintro e w1 ⟨pd, s, rfl, hpl, hd, ht, hg⟩
  have PL1 := Lib.hid hpl
  have D1 : Hid (Devs (w.heap.size + 1) w1 [(pd, s)]) := (Devs.one hd).low s0
  have T1 := Lib.hid ht
  have G1 : Hid (w.grownBy w1 (some w.heap.size)) := g_trans G0.out hg
  have hLs : s.ops.length ≤ 12 := hpl.2.2
  clear hpl hd ht hg
  go_wp2_with fail
  refine (known_any _).mono ?_
  rintro e w2 ⟨rfl, hb⟩
  have D2 : Hid (Devs (w.heap.size + 1) w2 [(pd, s)]) := D1.out.on hb
  have T2 : Hid (Tp w2 w.heap.size (0 + 1 + 21 * 12)) := T1.out.on hb
  have G2 : Hid (w.grownBy w2 (some w.heap.size)) := g_below G1.out hb
  clear hb
  go_wp2_with fail
  refine (Copy_D D2.out (by omega)).mono ?_
  rintro e w3 ⟨pc, rfl, hd, hb⟩
  have D3 : Hid (Devs (w.heap.size + 1) w3 [(pd, s), (pc, s)]) := hd.perm (swap2 _ _)
  have T3 : Hid (Tp w3 w.heap.size (0 + 1 + 21 * 12)) := T2.out.on hb
  have G3 : Hid (w.grownBy w3 (some w.heap.size)) := g_below G2.out hb
  clear hd hb
  go_wp2_with fail
  refine (Copy_D D3.out (by omega)).mono ?_
  rintro e w4 ⟨pw, rfl, hd, hb⟩
  have D4 : Hid (Devs (w.heap.size + 1) w4 [(pc, s), (pd, s), (pw, s)]) := hd.perm ((List.Perm.swap _ _ _).trans ((List.Perm.cons _ (swap2 _ _)).trans (List.Perm.swap _ _ _)))
  have T4 : Hid (Tp w4 w.heap.size (0 + 1 + 21 * 12)) := T3.out.on hb
  have G4 : Hid (w.grownBy w4 (some w.heap.size)) := g_below G3.out hb
  clear hd hb
  obtain ⟨rc, hrc⟩ := D4.out.dv (x := (pc, s)) (by simp)
  obtain ⟨rd, hrd⟩ := D4.out.dv (x := (pd, s)) (by simp)
  have HEq := Lib.hid (equal_true pc pd rc rd s s w4 hrc hrd (fun _ => rfl) rfl)
  clear hrc hrd
  go_wp2_with fail
  refine HEq.out.mono ?_
  rintro e w5 ⟨rfl, hb⟩
  have D5 : Hid (Devs (w.heap.size + 1) w5 [(pc, s), (pd, s), (pw, s)]) := D4.out.on hb
  have T5 : Hid (Tp w5 w.heap.size (0 + 1 + 21 * 12)) := T4.out.on hb
  have G5 : Hid (w.grownBy w5 (some w.heap.size)) := g_below G4.out hb
  clear hb HEq
  go_wp2_with fail
  refine (Pending_D D5.out (p := pc) (s := s) (by simp) (by omega)).mono ?_
  rintro e wa ⟨rfl, rfl⟩
  go_wp2_with fail
  refine (Pending_D D5.out (p := pd) (s := s) (by simp) (by omega)).mono ?_
  rintro e wa ⟨rfl, rfl⟩
  go_wp2_with fail
  refine (loss_any w.heap.size (0 + 1 + 21 * 12) _ (by omega) T5.out).mono ?_
  rintro e w6 ⟨lk, lt, hlk, hlt, rfl, ht, hg⟩
  have D6 : Hid (Devs (w.heap.size + 1) w6 [(pc, s), (pd, s), (pw, s)]) := D5.out.tape T5.out hg
  have T6 := Lib.hid ht
  have G6 : Hid (w.grownBy w6 (some w.heap.size)) := g_trans G5.out hg
  have s6 := G6.out.size
  have s6' := T6.out.lt
  clear ht hg
  have D6a : Hid (Devs (w.heap.size + 1) (w6.alloc (.cells #[.int .i64 lk, .int .i64 lt] 32)) [(pc, s), (pd, s), (pw, s)]) := D6.out.on (bel1 _ _)
  have B6a : Hid (IsB (w6.alloc (.cells #[.int .i64 lk, .int .i64 lt] 32)) w6.heap.size 32 #[.int .i64 lk, .int .i64 lt]) := IsB.new _ _ _
  go_wp2_with fail
  refine (Next_any 6 w.heap.size (0 + 1 + 21 * 12 + 2) _ (by omega) (by omega) (T6.out.alloc _)).mono ?_
  rintro e w7 ⟨y, hy, rfl, ht, hg⟩
  obtain ⟨k0, rfl⟩ : ∃ k0 : Nat, y = (k0 : Int) := ⟨y.toNat, by have := hy.1; omega⟩
  have hk0 : k0 < 6 := by have := hy.2.1 (by omega); omega
  have D7 : Hid (Devs (w.heap.size + 1) w7 [(pc, s), (pd, s), (pw, s)]) := D6a.out.tape (T6.out.alloc _) hg
  have B7 : Hid (IsB w7 w6.heap.size 32 #[.int .i64 lk, .int .i64 lt]) := B6a.out.grown hg (fun e => by injection e with e; omega)
  have T7 := Lib.hid ht
  have G7 : Hid (w.grownBy w7 (some w.heap.size)) := g_trans (g_alloc G6.out _) hg
  clear ht hg hy
  go_wp2_with fail
  go_loopw [8] (fun vk wr => ∃ (k : Nat) (sc : St), k ≤ 5 ∧ vk = .int .i64 k ∧ PL (12 + (5 - k)) sc ∧ Devs (w.heap.size + 1) wr [(pc, sc), (pd, s), (pw, s)] ∧ IsB wr w6.heap.size 32 #[.int .i64 lk, .int .i64 lt] ∧ Tp wr w.heap.size (0 + 1 + 21 * 12 + 2 + 1 + 20 * (5 - k)) ∧ w.grownBy wr (some w.heap.size)) (fun vk _ => (intOf vk).toNat)
  case atStart => exact ⟨k0, s, by omega, rfl, ⟨PL1.out.1, PL1.out.2.1, by omega⟩, D7.out, B7.out, T7.out.more (by omega), G7.out⟩
  case round =>
    obtain ⟨k, sc, hk, rfl, hpl, hd, hbx, ht, hg⟩ := hrel
    have PLc := Lib.hid hpl
    have D8 := Lib.hid hd
    have B8 := Lib.hid hbx
    have T8 := Lib.hid ht
    have G8 := Lib.hid hg
    have hLc : sc.ops.length ≤ 20 := by have := hpl.2.2; omega
    clear hpl hd hbx ht hg
    by_cases hpos : 0 < k
    · go_wp2_with fail
      refine (operation_any w.heap.size (0 + 1 + 21 * 12 + 2 + 1 + 20 * (5 - k)) _ (by omega) T8.out).mono ?_
      rintro e w9 ⟨o, ho, rfl, hro, hfo, ht, hg⟩
      have D9 : Hid (Devs (w.heap.size + 1) w9 [(pc, sc), (pd, s), (pw, s)] [(o.d, o.bs)]) := D8.out.tape_add T8.out hg hro hfo
      have B9 : Hid (IsB w9 w6.heap.size 32 #[.int .i64 lk, .int .i64 lt]) := B8.out.grown hg (fun e => by injection e with e; omega)
      have T9 := Lib.hid ht
      have G9 : Hid (w.grownBy w9 (some w.heap.size)) := g_trans G8.out hg
      have HO := Lib.hid ho
      clear ht hg ho hro hfo
      go_wp2_with fail
      refine (ldo_D o D9.out HO.out (D9.out.rb (by simp)) (by omega)).mono ?_
      rintro e w10 ⟨n1, hn1, rfl, hd, hb, hkb⟩
      have D10 := Lib.hid hd.weak
      have B10 : Hid (IsB w10 w6.heap.size 32 #[.int .i64 lk, .int .i64 lt]) := hkb _ _ _ (by decide) (by decide) (by decide) B9.out
      have T10 : Hid (Tp w10 w.heap.size (0 + 1 + 21 * 12 + 2 + 1 + 20 * (5 - k) + 20)) := T9.out.low hb
      have G10 : Hid (w.grownBy w10 (some w.heap.size)) := g_low1 G9.out hb
      have P10 : Hid (PL (12 + (5 - (k - 1))) (reqS sc n1 o.op)) := by
        have := PLc.out.req (n := n1) o.op
        rwa [show 12 + (5 - k) + 1 = 12 + (5 - (k - 1)) by omega] at this
      clear hd hb hkb hn1
      go_wp2_with fail
      go_roundw
      case rel => exact ⟨k - 1, _, by omega, by go_num, P10.out, D10.out, B10.out, T10.out.more (by omega), G10.out⟩
      case measure => simp [intOf]; omega
    · obtain rfl : k = 0 := by omega
      have q0 : wr.cell? ⟨w6.heap.size, 0, none⟩ = some (.int .i64 lk) := B8.out.cell 0
      have q1 : wr.cell? ⟨w6.heap.size, 1, none⟩ = some (.int .i64 lt) := B8.out.cell 1
      go_wp2_with fail
      refine (Lose_D lk lt D8.out (by omega) (by omega)).mono ?_
      rintro e w9 ⟨rfl, hd, hb, hkb⟩
      have D9 : Hid (Devs (w.heap.size + 1) w9 [(pd, s), (pc, loseS sc lk lt), (pw, s)]) := hd.perm (List.Perm.swap _ _ _)
      have B9 : Hid (IsB w9 w6.heap.size 32 #[.int .i64 lk, .int .i64 lt]) := hkb _ _ _ (by decide) (by decide) (by decide) B8.out
      have G9 : Hid (w.grownBy w9 (some w.heap.size)) := g_low1 G8.out hb
      clear hd hb hkb q0 q1
      go_wp2_with fail
      refine (Down_D D9.out (p := pd) (s := s) (by simp)).mono ?_
      rintro e wa ⟨he, rfl⟩
      rw [PL1.out.1] at he
      subst he
      obtain ⟨rd, hrd⟩ := D9.out.dv (x := (pd, s)) (by simp)
      obtain ⟨rw_, hrw⟩ := D9.out.dv (x := (pw, s)) (by simp)
      have HEq := Lib.hid (equal_true pd pw rd rw_ s s w9 hrd hrw (fun _ => rfl) rfl)
      clear hrd hrw
      go_wp2_with fail
      refine HEq.out.mono ?_
      rintro e w10 ⟨rfl, hb⟩
      have D10 : Hid (Devs (w.heap.size + 1) w10 [(pd, s), (pc, loseS sc lk lt), (pw, s)]) := D9.out.on hb
      have B10 : Hid (IsB w10 w6.heap.size 32 #[.int .i64 lk, .int .i64 lt]) := B9.out.on hb
      have G10 : Hid (w.grownBy w10 (some w.heap.size)) := g_below G9.out hb
      clear hb HEq
      go_wp2_with fail
      refine (Pending_D D10.out (p := pd) (s := s) (by simp) (by omega)).mono ?_
      rintro e wa ⟨rfl, rfl⟩
      go_wp2_with fail
      refine (Pending_D D10.out (p := pw) (s := s) (by simp) (by omega)).mono ?_
      rintro e wa ⟨rfl, rfl⟩
      have q0 : w10.cell? ⟨w6.heap.size, 0, none⟩ = some (.int .i64 lk) := B10.out.cell 0
      have q1 : w10.cell? ⟨w6.heap.size, 1, none⟩ = some (.int .i64 lt) := B10.out.cell 1
      go_wp2_with fail
      refine (Lose_D lk lt D10.out (by omega) (by omega)).mono ?_
      rintro e w11 ⟨rfl, hd, hb, hkb⟩
      have D11 : Hid (Devs (w.heap.size + 1) w11 [(pw, s), (pd, loseS s lk lt), (pc, loseS sc lk lt)]) := hd.perm ((List.Perm.cons _ (swap2 _ _)).trans (List.Perm.swap _ _ _))
      have B11 : Hid (IsB w11 w6.heap.size 32 #[.int .i64 lk, .int .i64 lt]) := hkb _ _ _ (by decide) (by decide) (by decide) B10.out
      have G11 : Hid (w.grownBy w11 (some w.heap.size)) := g_low1 G10.out hb
      clear hd hb hkb q0 q1
      have q0 : w11.cell? ⟨w6.heap.size, 0, none⟩ = some (.int .i64 lk) := B11.out.cell 0
      have q1 : w11.cell? ⟨w6.heap.size, 1, none⟩ = some (.int .i64 lt) := B11.out.cell 1
      go_wp2_with fail
      refine (Lose_D lk lt D11.out (by omega) (by omega)).mono ?_
      rintro e w12 ⟨rfl, hd, hb, _⟩
      have D12 : Hid (Devs (w.heap.size + 1) w12 [(pd, loseS s lk lt), (pw, loseS s lk lt), (pc, loseS sc lk lt)]) := hd.perm (List.Perm.swap _ _ _)
      have G12 : Hid (w.grownBy w12 (some w.heap.size)) := g_low1 G11.out hb
      clear hd hb q0 q1
      go_wp2_with fail
      refine (Restart_D D12.out (by simp [loseS, decideS])).mono ?_
      rintro e w13 ⟨rfl, hd, hb, _⟩
      rw [restart_lose] at hd
      have D13 : Hid (Devs (w.heap.size + 1) w13 [(pw, loseS s lk lt), (pd, ⟨lossF s lk lt, [], false, 0⟩), (pc, loseS sc lk lt)]) := hd.perm (List.Perm.swap _ _ _)
      have G13 : Hid (w.grownBy w13 (some w.heap.size)) := g_low1 G12.out hb
      clear hd hb
      go_wp2_with fail
      refine (Restart_D D13.out (by simp [loseS, decideS])).mono ?_
      rintro e w14 ⟨rfl, hd, hb, _⟩
      rw [restart_lose] at hd
      have D14 := Lib.hid hd
      have G14 : Hid (w.grownBy w14 (some w.heap.size)) := g_low1 G13.out hb
      clear hd hb
      obtain ⟨rd2, hrd⟩ := D14.out.dv (x := (pd, ⟨lossF s lk lt, [], false, 0⟩)) (by simp)
      obtain ⟨rw2, hrw⟩ := D14.out.dv (x := (pw, ⟨lossF s lk lt, [], false, 0⟩)) (by simp)
      have HEq := Lib.hid (equal_true pd pw rd2 rw2 _ _ w14 hrd hrw (fun _ => rfl) rfl)
      clear hrd hrw
      go_wp2_with fail
      refine HEq.out.mono ?_
      rintro e w15 ⟨rfl, hb⟩
      have G15 : Hid (w.grownBy w15 (some w.heap.size)) := g_below G14.out hb
      clear hb
      go_wp2_with fail
      go_ret
      exact ⟨rfl, law_end G15.out⟩
theorem law10F (A : Option Addr) (len c : Nat) (l : List Int) (e : l.length = len) (w : World) (hr : RdT w w.heap.size A l) (hl : len ≤ 9223372036854775807) :
    Calls Try.prog 10 #[.slice A len c] w (Gives (.bool true) w) := by
  subst e
  exact law10 A l c w hr hl
end Go.Proofs.Ytddjkkmdcdiofaa
