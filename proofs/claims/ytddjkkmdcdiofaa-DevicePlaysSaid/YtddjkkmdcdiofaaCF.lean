/- Contracts: played. -/
import Derived.Test.YtddjkkmdcdiofaaCE
namespace Go.Proofs.Ytddjkkmdcdiofaa
open Go.RowKit Go.MapKept Go.ChangeMaps

/-- A device with power, without a fuse, with at most m pending operations. -/
def PL (m : Nat) (s : St) : Prop := s.dn = false ∧ s.f = 0 ∧ s.ops.length ≤ m
theorem PL.req {m n : Nat} {s : St} (h : PL m s) (o : POp) : PL (m + 1) (reqS s n o) := by
  obtain ⟨h1, h2, h3⟩ := h
  unfold reqS
  split
  · rw [if_neg (by omega)]
    exact ⟨by simp [St.did, burnD, h2, h1], by simp [St.did, burnF, h2], by simp [St.did]; omega⟩
  · exact ⟨h1, h2, by omega⟩
theorem PL.sync {m : Nat} {s : St} (h : PL m s) : PL (m + 1) (syncS s) ∧ syncE s = 0 ∧ syncS s = ⟨s.now, [], false, 0⟩ := by
  obtain ⟨h1, h2, h3⟩ := h
  have e : syncS s = ⟨s.now, [], false, 0⟩ := by simp [syncS, h1, h2, burnF]
  rw [e]
  exact ⟨⟨rfl, rfl, by simp⟩, by simp [syncE, h1, h2], rfl⟩
/-- A device that was played with. -/
def PlayedPost (m x N : Nat) (w : World) (e : Ending) (w' : World) : Prop := ∃ p s, e = .returned (.pointer (some ⟨p, 0, none⟩)) ∧ PL m s ∧ LDev w.heap.size w' p s ∧ Tp w' x (N + 1 + 21 * m) ∧ w.grownBy w' (some x)
set_option maxRecDepth 100000 in
set_option maxHeartbeats 4000000 in
theorem played_any (m x N : Nat) (w : World) (hm : 0 < m) (hm2 : m ≤ 100) (hN : N ≤ 500000) (ht : Tp w x N) : Calls Try.prog 36 #[.pointer (some ⟨x, 0, none⟩), .int .i64 m] w (PlayedPost m x N w) := by
  have T0 := Lib.hid ht
  have hxl := ht.lt
  clear ht
  go_enter Try.func36, Try.ntmps36
  go_wp2_with fail
  refine (New_any w).mono ?_
  rintro e w1 ⟨rfl, hd, hb⟩
  have D1 : Hid (LDev w.heap.size w1 (w.heap.size + 2) St.new) := LDev.new hd hb
  have T1 : Hid (Tp w1 x N) := T0.out.on hb
  have G1 : Hid (w.grownBy w1 (some x)) := only_of_below hb _
  clear hd hb
  go_wp2_with fail
  refine (Next_any ((m : Int) + 1) x N _ (by omega) (by omega) T1.out).mono ?_
  rintro e w2 ⟨y, hy, rfl, ht, hg⟩
  obtain ⟨k0, rfl⟩ : ∃ k0 : Nat, y = (k0 : Int) := ⟨y.toNat, by have := hy.1; omega⟩
  have hk0 : k0 ≤ m := by have := hy.2.1 (by omega); omega
  have D2 : Hid (LDev w.heap.size w2 (w.heap.size + 2) St.new []) := D1.out.tape T1.out hg
  have T2 := Lib.hid ht
  have G2 : Hid (w.grownBy w2 (some x)) := g_trans G1.out hg
  clear ht hg hy
  go_wp2_with fail
  go_loopw [6] (fun v wr => ∃ (k : Nat) (s : St), k ≤ m ∧ v = .int .i64 k ∧ PL (m - k) s ∧ LDev w.heap.size wr (w.heap.size + 2) s ∧ Tp wr x (N + 1 + 21 * (m - k)) ∧ w.grownBy wr (some x)) (fun v _ => (intOf v).toNat)
  case atStart => exact ⟨k0, _, hk0, rfl, ⟨rfl, rfl, by simp [St.new]⟩, D2.out, T2.out.more (by omega), G2.out⟩
  case round =>
    obtain ⟨k, st, hk, rfl, hpl, hd, ht, hg⟩ := hrel
    have PL1 := Lib.hid hpl
    have D_wr := Lib.hid hd
    have T_wr := Lib.hid ht
    have G_wr := Lib.hid hg
    have hLs : st.ops.length ≤ 100 := by have := hpl.2.2; omega
    clear hpl hd ht hg
    by_cases hpos : 0 < k
    · go_wp2_with fail
      refine (Next_any 4 x (N + 1 + 21 * (m - k)) _ (by omega) (by omega) T_wr.out).mono ?_
      rintro e w3 ⟨y, hy, rfl, ht, hg⟩
      obtain ⟨ch, rfl⟩ : ∃ ch : Nat, y = (ch : Int) := ⟨y.toNat, by have := hy.1; omega⟩
      have D3 : Hid (LDev w.heap.size w3 (w.heap.size + 2) st []) := D_wr.out.tape T_wr.out hg
      have T3 := Lib.hid ht
      have G3 : Hid (w.grownBy w3 (some x)) := g_trans G_wr.out hg
      clear ht hg hy
      by_cases hch : ch = 0
      · subst hch
        go_wp2_with fail
        refine (Sync_L D3.out (by omega)).mono ?_
        rintro e w4 ⟨rfl, hd, hb⟩
        have D4 := Lib.hid hd
        have T4 : Hid (Tp w4 x (N + 1 + 21 * (m - k) + 1)) := T3.out.low hb
        have G4 : Hid (w.grownBy w4 (some x)) := g_low G3.out hb
        have P4 : Hid (PL (m - (k - 1)) (syncS st)) := by
          have := PL1.out.sync.1
          rwa [show m - k + 1 = m - (k - 1) by omega] at this
        clear hd hb
        go_wp2_with fail
        go_roundw
        case rel => exact ⟨k - 1, _, by omega, by go_num, P4.out, D4.out, T4.out.more (by omega), G4.out⟩
        case measure => simp [intOf]; omega
      · have hchb : ((ch : Int) == 0) = false := by rw [beq_eq_false_iff_ne]; omega
        go_wp2_with fail
        refine (operation_any x (N + 1 + 21 * (m - k) + 1) _ (by omega) T3.out).mono ?_
        rintro e w4 ⟨o, ho, rfl, hro, _, ht, hg⟩
        have D4 : Hid (LDev w.heap.size w4 (w.heap.size + 2) st []) := D3.out.tape T3.out hg
        have T4 := Lib.hid ht
        have G4 : Hid (w.grownBy w4 (some x)) := g_trans G3.out hg
        have HO := Lib.hid ho
        have HR := Lib.hid hro
        clear ht hg ho hro
        go_wp2_with fail
        refine (ldo_L o D4.out HO.out HR.out (by omega)).mono ?_
        rintro e w5 ⟨n, hn, rfl, hd, hb⟩
        have D5 := Lib.hid hd
        have T5 : Hid (Tp w5 x (N + 1 + 21 * (m - k) + 1 + 20)) := T4.out.low hb
        have G5 : Hid (w.grownBy w5 (some x)) := g_low G4.out hb
        have P5 : Hid (PL (m - (k - 1)) (reqS st n o.op)) := by
          have := PL1.out.req (n := n) o.op
          rwa [show m - k + 1 = m - (k - 1) by omega] at this
        clear hd hb hn
        go_wp2_with fail
        go_roundw
        case rel => exact ⟨k - 1, _, by omega, by go_num, P5.out, D5.out, T5.out.more (by omega), G5.out⟩
        case measure => simp [intOf]; omega
    · obtain rfl : k = 0 := by omega
      go_wp2_with fail
      go_ret
      exact ⟨_, st, rfl, PL1.out, D_wr.out, T_wr.out, G_wr.out⟩
end Go.Proofs.Ytddjkkmdcdiofaa
