/- Walks of laws: Fuse. -/
import Derived.Test.YtddjkkmdcdiofaaLD
namespace Go.Proofs.Ytddjkkmdcdiofaa
open Go.RowKit Go.MapKept Go.ChangeMaps

/-- A device ahead of its i-th operation, with the fuse n. -/
structure FZ (n i : Nat) (s : St) : Prop where
  len : s.ops.length ≤ i
  cnt : ∃ c, Cnt s.now c ∧ c ≤ i
  on : i ≤ n → s.dn = false ∧ s.f = (n : Int) + 1 - i
  off : n < i → s.dn = true ∧ s.f = 0
theorem sync_off {s : St} (h : s.dn = true) : syncE s = 303 ∧ syncS s = s := by simp [syncE, syncS, h]
theorem sync_one {s : St} (h : s.dn = false) (hf : s.f = 1) : syncE s = 303 ∧ syncS s = s.cut := by simp [syncE, syncS, h, hf]
theorem sync_on {s : St} (h : s.dn = false) (hf : s.f ≠ 1) : syncE s = 0 ∧ syncS s = ⟨s.now, [], false, burnF s.f⟩ := by simp [syncE, syncS, h, hf]
theorem FZ.create {n i k : Nat} {s : St} (h : FZ n i s) (hi : i ≤ 20) {nm : ByteArray} {bs : List UInt8} (hn : nameB nm = true) (hl : bs.length ≤ 100) (hk : Cnt s.now k) :
    reqE s k ⟨.create, nm, ByteArray.empty, bs, true⟩ = (if i < n then 0 else 303) ∧ FZ n (i + 1) (reqS s k ⟨.create, nm, ByteArray.empty, bs, true⟩) := by
  obtain ⟨c, hc, hci⟩ := h.cnt
  have := hk.uniq hc
  subst this
  by_cases hin : i ≤ n
  · obtain ⟨h1, h2⟩ := h.on hin
    have hg : gate s k ⟨.create, nm, ByteArray.empty, bs, true⟩ = 0 := gate_create h1 hn (by omega) (.inr (by omega))
    by_cases he : i = n
    · have hf : s.f = 1 := by omega
      rw [reqE, reqS, if_pos hg, if_pos hg, if_pos hf, if_pos hf, if_neg (by omega)]
      exact ⟨rfl, ⟨by have := h.len; simp [St.cut]; omega, ⟨k, hc, by omega⟩, fun hh => by omega, fun _ => ⟨rfl, rfl⟩⟩⟩
    · have hf : s.f ≠ 1 := by omega
      have hf0 : s.f ≠ 0 := by omega
      rw [reqE, reqS, if_pos hg, if_pos hg, if_neg hf, if_neg hf, if_pos (by omega)]
      refine ⟨rfl, ⟨by have := h.len; simp [St.did]; omega, ?_, fun _ => ⟨by simp [St.did, burnD, hf0, hf], by simp only [St.did, burnF, if_neg hf0]; omega⟩, fun hh => by omega⟩⟩
      rw [St.now_did]
      refine ⟨_, hc.put nm bs, ?_⟩
      split <;> omega
  · obtain ⟨h1, h2⟩ := h.off (by omega)
    have hg : gate s k ⟨.create, nm, ByteArray.empty, bs, true⟩ = 303 := by simp [gate, h1]
    obtain ⟨e1, e2⟩ := req_no hg (by decide)
    rw [e1, e2, if_neg (by omega)]
    exact ⟨rfl, ⟨by have := h.len; omega, ⟨k, hc, by omega⟩, fun hh => by omega, fun _ => ⟨h1, h2⟩⟩⟩
theorem FZ.sync {n i : Nat} {s : St} (h : FZ n i s) : syncE s = (if i < n then 0 else 303) ∧ FZ n (i + 1) (syncS s) := by
  obtain ⟨c, hc, hci⟩ := h.cnt
  by_cases hin : i ≤ n
  · obtain ⟨h1, h2⟩ := h.on hin
    by_cases he : i = n
    · have hf : s.f = 1 := by omega
      obtain ⟨e1, e2⟩ := sync_one h1 hf
      rw [e1, e2, if_neg (by omega)]
      exact ⟨rfl, ⟨by have := h.len; simp [St.cut]; omega, ⟨c, hc, by omega⟩, fun hh => by omega, fun _ => ⟨rfl, rfl⟩⟩⟩
    · have hf : s.f ≠ 1 := by omega
      have hf0 : s.f ≠ 0 := by omega
      obtain ⟨e1, e2⟩ := sync_on h1 hf
      rw [e1, e2, if_pos (by omega)]
      exact ⟨rfl, ⟨by simp, ⟨c, hc, by omega⟩, fun _ => ⟨rfl, by simp only [burnF, if_neg hf0]; omega⟩, fun hh => by omega⟩⟩
  · obtain ⟨h1, h2⟩ := h.off (by omega)
    obtain ⟨e1, e2⟩ := sync_off h1
    rw [e1, e2, if_neg (by omega)]
    exact ⟨rfl, ⟨by have := h.len; omega, ⟨c, hc, by omega⟩, fun hh => by omega, fun _ => ⟨h1, h2⟩⟩⟩
theorem FZ.down {n i : Nat} {s : St} (h : FZ n (i + 1) s) : s.dn = decide (n ≤ i) := by
  by_cases hin : i + 1 ≤ n
  · rw [(h.on hin).1, decide_eq_false (by omega)]
  · rw [(h.off (by omega)).1, decide_eq_true (by omega)]
theorem restart_down {s : St} (h1 : s.dn = true) (h2 : s.f = 0) : restartS s = ⟨lossF s 0 (-1), [], false, 0⟩ := by
  simp [restartS, h1, decideS, h2]
set_option maxRecDepth 100000 in
set_option maxHeartbeats 8000000 in
theorem law4 (A : Option Addr) (l : List Int) (c : Nat) (n0 : Int) (w : World) (hr : RdT w w.heap.size A l) (hl : l.length ≤ 9223372036854775807) :
    Calls Try.prog 4 #[.slice A l.length c, .int .i64 n0] w (Gives (.bool true) w) := by
  have Hr := Lib.hid hr
  clear hr
  go_enter Try.func4, Try.ntmps4
  go_wp2_with fail
  have T_w0 : Hid (Tp (w.alloc (.cells #[.slice A l.length c, .int .i64 0] 39)) w.heap.size 0) := tape0 Hr.out hl
  have G_w0 : Hid (w.grownBy (w.alloc (.cells #[.slice A l.length c, .int .i64 0] 39)) (some w.heap.size)) := World.grownBy_alloc _ _ _
  have s0 : w.heap.size + 1 ≤ (w.alloc (.cells #[.slice A l.length c, .int .i64 0] 39)).heap.size := by simp
  generalize w.alloc (.cells #[.slice A l.length c, .int .i64 0] 39) = w0 at *
  go_wp2_with fail
  refine (New_any _).mono ?_
  rintro e w1 ⟨rfl, hd, hb⟩
  have D_w1 : Hid (LDev (w.heap.size + 1) w1 (w0.heap.size + 2) St.new) := (LDev.new hd hb).low (by omega)
  have T_w1 : Hid (Tp w1 w.heap.size (0)) := T_w0.out.on hb
  have G_w1 : Hid (w.grownBy w1 (some w.heap.size)) := g_below G_w0.out hb
  have S_w1 := G_w1.out.size
  clear hd hb
  go_wp2_with fail
  refine (Fold_any n0 8 _ (by omega)).mono ?_
  rintro e wf ⟨x, hx, rfl, rfl⟩
  obtain ⟨m, rfl⟩ : ∃ m : Nat, x = (m : Int) := ⟨x.toNat, by have := hx.1; omega⟩
  have hm : m < 8 := by have := hx.2.1 (by omega); omega
  clear hx
  go_wp2_with fail
  refine (known_any _).mono ?_
  rintro e w2 ⟨rfl, hb⟩
  have D_w2 : Hid (LDev (w.heap.size + 1) w2 (w0.heap.size + 2) (St.new) []) := D_w1.out.on hb
  have T_w2 : Hid (Tp w2 w.heap.size (0)) := T_w1.out.on hb
  have G_w2 : Hid (w.grownBy w2 (some w.heap.size)) := g_below G_w1.out hb
  have S_w2 := G_w2.out.size
  clear hb
  go_wp2_with fail
  refine (Fuse_L (1 + (m : Int)) D_w2.out (by omega)).mono ?_
  rintro e w3 ⟨he, hd, hb⟩
  subst he
  have D_w3 : Hid (LDev (w.heap.size + 1) w3 (w0.heap.size + 2) ({ St.new with f := max (1 + (m : Int)) 0 }) []) := hd
  have T_w3 : Hid (Tp w3 w.heap.size (0)) := T_w2.out.low hb
  have G_w3 : Hid (w.grownBy w3 (some w.heap.size)) := g_low1 G_w2.out hb
  have S_w3 := G_w3.out.size
  clear hd hb
  have FZ0 : Hid (FZ (m + 1) 1 { St.new with f := max (1 + (m : Int)) 0 }) := ⟨by simp [St.new], ⟨0, Cnt.none, by omega⟩, fun _ => ⟨rfl, by show max (1 + (m : Int)) 0 = _; omega⟩, fun h => by omega⟩
  go_wp2_with fail
  go_loopw [7] (fun v wr => ∃ (i : Nat) (s : St), 1 ≤ i ∧ i ≤ 12 ∧ v = .int .i64 i ∧ FZ (m + 1) i s ∧ LDev (w.heap.size + 1) wr (w0.heap.size + 2) s ∧ Tp wr w.heap.size (0 + 20 * i) ∧ w.grownBy wr (some w.heap.size)) (fun v _ => 12 - (intOf v).toNat)
  case atStart => exact ⟨1, _, by omega, by omega, rfl, FZ0.out, D_w3.out, T_w3.out.more (by omega), G_w3.out⟩
  case round =>
    obtain ⟨i, st, hi1, hi2, rfl, hfz, hd, ht, hg⟩ := hrel
    have FZ1 := Lib.hid hfz
    have D_wr := Lib.hid hd
    have T_wr := Lib.hid ht
    have G_wr := Lib.hid hg
    have S_wr := hg.size
    have hLs : st.ops.length ≤ 12 := by have := hfz.len; omega
    clear hfz hd ht hg FZ0
    by_cases hlt : i < 12
    · skip
      go_wp2_with fail
      refine (Next_any 3 w.heap.size (0 + 20 * i) _ (by omega) (by omega) T_wr.out).mono ?_
      rintro e w21 ⟨y, hy, rfl, ht, hg⟩
      obtain ⟨ch, rfl⟩ : ∃ ch : Nat, y = (ch : Int) := ⟨y.toNat, by have := hy.1; omega⟩
      have hch : ch < 3 := by have := hy.2.1 (by omega); omega
      have D_w21 : Hid (LDev (w.heap.size + 1) w21 (w0.heap.size + 2) (st) []) := D_wr.out.tape T_wr.out hg
      have T_w21 : Hid (Tp w21 w.heap.size (0 + 20 * i + 1)) := ht
      have G_w21 : Hid (w.grownBy w21 (some w.heap.size)) := g_trans G_wr.out hg
      have S_w21 := G_w21.out.size
      clear ht hg hy
      by_cases hin : i < m + 1
      · have hdn : decide (m + 1 ≤ i) = false := decide_eq_false (by omega)
        have g1 : decide ((i : Int) < 1 + (m : Int)) = true := decide_eq_true (by omega)
        have g2 : decide ((1 : Int) + (m : Int) ≤ i) = false := decide_eq_false (by omega)
        by_cases hch : ch = 0
        · subst hch
          go_wp2_with fail
          refine (Sync_L D_w21.out (by omega)).mono ?_
          rintro e w22 ⟨he, hd, hb⟩
          rw [FZ1.out.sync.1, if_pos (by omega)] at he
          subst he
          have D_w22 : Hid (LDev (w.heap.size + 1) w22 (w0.heap.size + 2) (syncS st) []) := hd
          have T_w22 : Hid (Tp w22 w.heap.size (0 + 20 * i + 1)) := T_w21.out.low hb
          have G_w22 : Hid (w.grownBy w22 (some w.heap.size)) := g_low1 G_w21.out hb
          have S_w22 := G_w22.out.size
          clear hd hb
          have FZ2 := Lib.hid FZ1.out.sync.2
          go_wp2_with fail
          refine (Down_L D_w22.out).mono ?_
          rintro e w0 ⟨he, hw⟩
          rw [FZ2.out.down, hdn] at he
          subst hw; subst he
          go_wp2_with fail
          go_roundw
          case rel => exact ⟨i + 1, _, by omega, by omega, by go_num, FZ2.out, D_w22.out, T_w22.out.more (by omega), G_w22.out⟩
          case measure => simp [intOf]; omega
        · have hchb : ((ch : Int) == 0) = false := by rw [beq_eq_false_iff_ne]; omega
          go_wp2_with fail
          refine (plain_any w.heap.size (0 + 20 * i + 1) _ (by omega) T_w21.out).mono ?_
          rintro e w22 ⟨nm, hnm, rfl, ht, hg⟩
          have D_w22 : Hid (LDev (w.heap.size + 1) w22 (w0.heap.size + 2) (st) []) := D_w21.out.tape T_w21.out hg
          have T_w22 : Hid (Tp w22 w.heap.size (0 + 20 * i + 1 + 1)) := ht
          have G_w22 : Hid (w.grownBy w22 (some w.heap.size)) := g_trans G_w21.out hg
          have S_w22 := G_w22.out.size
          have H_hnm := Lib.hid hnm
          clear ht hg hnm
          go_wp2_with fail
          refine (Next_any 4 w.heap.size (0 + 20 * i + 1 + 1) _ (by omega) (by omega) T_w22.out).mono ?_
          rintro e w23 ⟨y, hy, rfl, ht, hg⟩
          obtain ⟨nb, rfl⟩ : ∃ nb : Nat, y = (nb : Int) := ⟨y.toNat, by have := hy.1; omega⟩
          have hnb : nb < 4 := by have := hy.2.1 (by omega); omega
          have D_w23 : Hid (LDev (w.heap.size + 1) w23 (w0.heap.size + 2) (st) []) := D_w22.out.tape T_w22.out hg
          have T_w23 : Hid (Tp w23 w.heap.size (0 + 20 * i + 1 + 1 + 1)) := ht
          have G_w23 : Hid (w.grownBy w23 (some w.heap.size)) := g_trans G_w22.out hg
          have S_w23 := G_w23.out.size
          clear ht hg hy
          go_wp2_with fail
          refine (Bytes_any nb 3 w.heap.size (0 + 20 * i + 1 + 1 + 1) _ (by omega) (by omega) (by omega) (by omega) T_w23.out).mono ?_
          rintro e w24 ⟨⟨bA, bn, bc⟩, bs, rfl, hbl, hrb, hfb, ht, hg⟩
          have D_w24 : Hid (LDev (w.heap.size + 1) w24 (w0.heap.size + 2) (st) []) := D_w23.out.tape T_w23.out hg
          have T_w24 : Hid (Tp w24 w.heap.size (0 + 20 * i + 1 + 1 + 1 + nb)) := ht
          have G_w24 : Hid (w.grownBy w24 (some w.heap.size)) := g_trans G_w23.out hg
          have S_w24 := G_w24.out.size
          have H_hrb := Lib.hid hrb
          clear ht hg hrb
          obtain rfl : bs.length = bn := H_hrb.out.1
          have hbl2 : bs.length ≤ 3 := by omega
          clear hfb hbl
          unfold vB
          go_wp2_with fail
          refine (Create_L nm bA bc bs D_w24.out (plain_ok H_hnm.out).1 H_hrb.out.src (by omega) (by omega)).mono ?_
          rintro e w25 ⟨n, hn, he, hd, hb⟩
          obtain ⟨e1, e2⟩ := FZ1.out.create (by omega) (plain_ok H_hnm.out).2 (bs := bs) (by omega) hn
          rw [e1, if_pos (by omega)] at he; subst he
          have FZ2 := Lib.hid e2
          have D_w25 : Hid (LDev (w.heap.size + 1) w25 (w0.heap.size + 2) (reqS st n ⟨.create, nm, ByteArray.empty, bs, true⟩) []) := hd
          have T_w25 : Hid (Tp w25 w.heap.size (0 + 20 * i + 1 + 1 + 1 + nb)) := T_w24.out.low hb
          have G_w25 : Hid (w.grownBy w25 (some w.heap.size)) := g_low1 G_w24.out hb
          have S_w25 := G_w25.out.size
          clear e1 e2 hd hb hn
          go_wp2_with fail
          refine (Down_L D_w25.out).mono ?_
          rintro e w0 ⟨he, hw⟩
          rw [FZ2.out.down, hdn] at he
          subst hw; subst he
          go_wp2_with fail
          go_roundw
          case rel => exact ⟨i + 1, _, by omega, by omega, by go_num, FZ2.out, D_w25.out, T_w25.out.more (by omega), G_w25.out⟩
          case measure => simp [intOf]; omega
      · have hdn : decide (m + 1 ≤ i) = true := decide_eq_true (by omega)
        have g1 : decide ((i : Int) < 1 + (m : Int)) = false := decide_eq_false (by omega)
        have g2 : decide ((1 : Int) + (m : Int) ≤ i) = true := decide_eq_true (by omega)
        by_cases hch : ch = 0
        · subst hch
          go_wp2_with fail
          refine (Sync_L D_w21.out (by omega)).mono ?_
          rintro e w22 ⟨he, hd, hb⟩
          rw [FZ1.out.sync.1, if_neg (by omega)] at he
          subst he
          have D_w22 : Hid (LDev (w.heap.size + 1) w22 (w0.heap.size + 2) (syncS st) []) := hd
          have T_w22 : Hid (Tp w22 w.heap.size (0 + 20 * i + 1)) := T_w21.out.low hb
          have G_w22 : Hid (w.grownBy w22 (some w.heap.size)) := g_low1 G_w21.out hb
          have S_w22 := G_w22.out.size
          clear hd hb
          have FZ2 := Lib.hid FZ1.out.sync.2
          go_wp2_with fail
          refine (Down_L D_w22.out).mono ?_
          rintro e w0 ⟨he, hw⟩
          rw [FZ2.out.down, hdn] at he
          subst hw; subst he
          go_wp2_with fail
          go_roundw
          case rel => exact ⟨i + 1, _, by omega, by omega, by go_num, FZ2.out, D_w22.out, T_w22.out.more (by omega), G_w22.out⟩
          case measure => simp [intOf]; omega
        · have hchb : ((ch : Int) == 0) = false := by rw [beq_eq_false_iff_ne]; omega
          go_wp2_with fail
          refine (plain_any w.heap.size (0 + 20 * i + 1) _ (by omega) T_w21.out).mono ?_
          rintro e w22 ⟨nm, hnm, rfl, ht, hg⟩
          have D_w22 : Hid (LDev (w.heap.size + 1) w22 (w0.heap.size + 2) (st) []) := D_w21.out.tape T_w21.out hg
          have T_w22 : Hid (Tp w22 w.heap.size (0 + 20 * i + 1 + 1)) := ht
          have G_w22 : Hid (w.grownBy w22 (some w.heap.size)) := g_trans G_w21.out hg
          have S_w22 := G_w22.out.size
          have H_hnm := Lib.hid hnm
          clear ht hg hnm
          go_wp2_with fail
          refine (Next_any 4 w.heap.size (0 + 20 * i + 1 + 1) _ (by omega) (by omega) T_w22.out).mono ?_
          rintro e w23 ⟨y, hy, rfl, ht, hg⟩
          obtain ⟨nb, rfl⟩ : ∃ nb : Nat, y = (nb : Int) := ⟨y.toNat, by have := hy.1; omega⟩
          have hnb : nb < 4 := by have := hy.2.1 (by omega); omega
          have D_w23 : Hid (LDev (w.heap.size + 1) w23 (w0.heap.size + 2) (st) []) := D_w22.out.tape T_w22.out hg
          have T_w23 : Hid (Tp w23 w.heap.size (0 + 20 * i + 1 + 1 + 1)) := ht
          have G_w23 : Hid (w.grownBy w23 (some w.heap.size)) := g_trans G_w22.out hg
          have S_w23 := G_w23.out.size
          clear ht hg hy
          go_wp2_with fail
          refine (Bytes_any nb 3 w.heap.size (0 + 20 * i + 1 + 1 + 1) _ (by omega) (by omega) (by omega) (by omega) T_w23.out).mono ?_
          rintro e w24 ⟨⟨bA, bn, bc⟩, bs, rfl, hbl, hrb, hfb, ht, hg⟩
          have D_w24 : Hid (LDev (w.heap.size + 1) w24 (w0.heap.size + 2) (st) []) := D_w23.out.tape T_w23.out hg
          have T_w24 : Hid (Tp w24 w.heap.size (0 + 20 * i + 1 + 1 + 1 + nb)) := ht
          have G_w24 : Hid (w.grownBy w24 (some w.heap.size)) := g_trans G_w23.out hg
          have S_w24 := G_w24.out.size
          have H_hrb := Lib.hid hrb
          clear ht hg hrb
          obtain rfl : bs.length = bn := H_hrb.out.1
          have hbl2 : bs.length ≤ 3 := by omega
          clear hfb hbl
          unfold vB
          go_wp2_with fail
          refine (Create_L nm bA bc bs D_w24.out (plain_ok H_hnm.out).1 H_hrb.out.src (by omega) (by omega)).mono ?_
          rintro e w25 ⟨n, hn, he, hd, hb⟩
          obtain ⟨e1, e2⟩ := FZ1.out.create (by omega) (plain_ok H_hnm.out).2 (bs := bs) (by omega) hn
          rw [e1, if_neg (by omega)] at he; subst he
          have FZ2 := Lib.hid e2
          have D_w25 : Hid (LDev (w.heap.size + 1) w25 (w0.heap.size + 2) (reqS st n ⟨.create, nm, ByteArray.empty, bs, true⟩) []) := hd
          have T_w25 : Hid (Tp w25 w.heap.size (0 + 20 * i + 1 + 1 + 1 + nb)) := T_w24.out.low hb
          have G_w25 : Hid (w.grownBy w25 (some w.heap.size)) := g_low1 G_w24.out hb
          have S_w25 := G_w25.out.size
          clear e1 e2 hd hb hn
          go_wp2_with fail
          refine (Down_L D_w25.out).mono ?_
          rintro e w0 ⟨he, hw⟩
          rw [FZ2.out.down, hdn] at he
          subst hw; subst he
          go_wp2_with fail
          go_roundw
          case rel => exact ⟨i + 1, _, by omega, by omega, by go_num, FZ2.out, D_w25.out, T_w25.out.more (by omega), G_w25.out⟩
          case measure => simp [intOf]; omega
    · obtain rfl : i = 12 := by omega
      go_wp2_with fail
      refine (Restart_L D_wr.out (by omega)).mono ?_
      rintro e w61 ⟨he, hd, hb⟩
      rw [restart_down (FZ1.out.off (by omega)).1 (FZ1.out.off (by omega)).2] at hd
      subst he
      have D_w61 : Hid (LDev (w.heap.size + 1) w61 (w0.heap.size + 2) (⟨lossF st 0 (-1), [], false, 0⟩) []) := hd
      have T_w61 : Hid (Tp w61 w.heap.size (0 + 20 * 12)) := T_wr.out.low hb
      have G_w61 : Hid (w.grownBy w61 (some w.heap.size)) := g_low1 G_wr.out hb
      have S_w61 := G_w61.out.size
      clear hd hb
      go_wp2_with fail
      refine (Down_L D_w61.out).mono ?_
      rintro e w0 ⟨he, hw⟩
      subst hw; subst he
      go_wp2_with fail
      refine (Pending_L D_w61.out (by simp)).mono ?_
      rintro e w0 ⟨he, hw⟩
      subst hw; subst he
      go_wp2_with fail
      refine (Sync_L D_w61.out (by simp)).mono ?_
      rintro e w62 ⟨he, hd, hb⟩
      rw [show syncE _ = 0 from rfl] at he
      subst he
      have D_w62 : Hid (LDev (w.heap.size + 1) w62 (w0.heap.size + 2) (⟨lossF st 0 (-1), [], false, 0⟩) []) := hd
      have T_w62 : Hid (Tp w62 w.heap.size (0 + 20 * 12)) := T_w61.out.low hb
      have G_w62 : Hid (w.grownBy w62 (some w.heap.size)) := g_low1 G_w61.out hb
      have S_w62 := G_w62.out.size
      clear hd hb
      go_wp2_with fail
      go_ret
      exact ⟨rfl, (law_end G_w62.out)⟩
theorem law4F (A : Option Addr) (len c : Nat) (l : List Int) (e : l.length = len) (n0 : Int) (w : World) (hr : RdT w w.heap.size A l) (hl : len ≤ 9223372036854775807) :
    Calls Try.prog 4 #[.slice A len c, .int .i64 n0] w (Gives (.bool true) w) := by
  subst e
  exact law4 A l c n0 w hr hl
end Go.Proofs.Ytddjkkmdcdiofaa
