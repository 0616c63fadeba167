/- Walks of laws: Plays. -/
import Derived.Test.YtddjkkmdcdiofaaRU
namespace Go.Proofs.Ytddjkkmdcdiofaa
open Go.RowKit Go.MapKept Go.ChangeMaps

set_option maxRecDepth 100000 in
set_option maxHeartbeats 16000000 in
theorem law11 (A : Option Addr) (l : List Int) (c : Nat) (w : World) (hr : RdT w w.heap.size A l) (hl : l.length ≤ 9223372036854775807) :
    Calls Try.prog 11 #[.slice A l.length c] w (Gives (.bool true) w) := by
  have Hr := Lib.hid hr
  clear hr
  go_enter Try.func11, Try.ntmps11
  go_wp2_with fail
  obtain ⟨w0, hw0⟩ : ∃ w0, w0 = w.alloc (.cells #[.slice A l.length c, .int .i64 0] 39) := ⟨_, rfl⟩
  have T0 : Hid (Tp w0 w.heap.size 0) := by rw [Hid, hw0]; exact tape0R Hr.out hl
  have HW0 := Lib.hid hw0
  rw [← hw0]
  clear hw0
  refine (New_any w0).mono ?_
  rintro e w1 ⟨rfl, hd, hb⟩
  have P1 := Lib.hid (PM.new HW0.out T0.out hd hb)
  clear hd hb
  obtain ⟨pd, hpd⟩ : ∃ pd, pd = w0.heap.size + 2 := ⟨_, rfl⟩
  rw [← hpd] at P1 ⊢
  clear hpd T0
  go_upto_region 3 with fail
  obtain ⟨g, hg⟩ : ∃ g, g = w1.heap.size := ⟨_, rfl⟩
  rw [← hg] at P1 ⊢
  clear hg
  generalize w1.alloc (.cells vR0 68) = W1 at *
  go_wp2_with fail
  refine (known_any _).mono ?_
  rintro e w2 ⟨rfl, hb⟩
  have P2 := Lib.hid (P1.out.on hb)
  clear hb P1
  go_wp2_with fail
  refine (Next_any 40 w.heap.size 0 _ (by omega) (by omega) P2.out.tp).mono ?_
  rintro e w3 ⟨y, hy, rfl, ht, hg⟩
  obtain ⟨k0, rfl⟩ : ∃ k0 : Nat, y = (k0 : Int) := ⟨y.toNat, by have := hy.1; omega⟩
  have hk0 : k0 < 40 := by have := hy.2.1 (by omega); omega
  have P3 := Lib.hid (P2.out.tape ht hg)
  clear ht hg hy P2
  go_wp2_with fail
  go_loopw [6] (fun v wr => ∃ (k : Nat) (s : St) (r : RS), k ≤ 39 ∧ v = .int .i64 k ∧ PM w wr g pd (1 + 21 * (40 - k)) s r ∧ RP r s ∧ s.ops.length ≤ 40 - k) (fun v _ => (intOf v).toNat)
  case atStart => exact ⟨k0, _, _, by omega, rfl, P3.out.more (by omega), rp_new, by simp [St.new]⟩
  case round =>
    obtain ⟨k, s, r, hk, rfl, hpm, hrp, hLs⟩ := hrel
    have PA := Lib.hid hpm
    have RA := Lib.hid hrp
    have hro : r.os.length < 1000 := by have h := hrp.ops; rw [h] at hLs; simp at hLs; omega
    clear hpm hrp P3
    by_cases hpos : 0 < k
    · go_wp2_with fail
      refine (Next_any 14 w.heap.size (1 + 21 * (40 - k)) _ (by omega) (by omega) PA.out.tp).mono ?_
      rintro e w4 ⟨y, hy, rfl, ht, hg⟩
      obtain ⟨ch, rfl⟩ : ∃ ch : Nat, y = (ch : Int) := ⟨y.toNat, by have := hy.1; omega⟩
      have hch : ch < 14 := by have := hy.2.1 (by omega); omega
      have P4 := Lib.hid (PA.out.tape ht hg)
      clear ht hg hy PA
      obtain ⟨FA, FC, fs, OA, OC, os, dn, f⟩ := r
      by_cases c0 : ch = 0
      · subst c0
        go_wp2_with fail
        refine (Sync_D P4.out.dv (by omega)).mono ?_
        rintro e w5 ⟨rfl, hd, hb, hkb⟩
        have P5 := Lib.hid (P4.out.dev hd hb hkb)
        clear hd hb hkb
        obtain ⟨⟨q0, q1, q2, q3⟩, u0, u1, u2, u3⟩ := P5.out.cell.res
        go_wp2_with fail
        refine (RSync_any ⟨FA, FC, fs, OA, OC, os, dn, f⟩ s _ P5.out.rm RA.out).mono ?_
        rintro e w8 ⟨r', rfl, hm8, hp8, hn8, hb8⟩
        obtain ⟨FA', FC', fs', OA', OC', os', dn', f'⟩ := r'
        have RZ := Lib.hid hp8
        have PY := Lib.hid (P5.out.ref hb8 hm8 hn8)
        have Q8 : Hid _ := (P5.out.cell.on hb8).res
        clear hp8 hm8 hn8 hb8 q0 q1 q2 q3 u0 u1 u2 u3
        obtain ⟨⟨q0, q1, q2, q3⟩, u0, u1, u2, u3⟩ := Q8.out
        go_upto_region 40 with fail
        clear q0 q1 q2 q3 u0 u1 u2 u3 Q8
        unfold setR at PY
        generalize (((w8.setCell ⟨g, 0, none⟩ (.slice FA' fs'.length FC')).setCell ⟨g, 1, none⟩ (.slice OA' os'.length OC')).setCell ⟨g, 2, none⟩ (.bool dn')).setCell ⟨g, 3, none⟩ (.int .i64 f') = W9 at *
        have HLn := Lib.hid (sync_len s)
        generalize syncE s = E at *
        obtain ⟨⟨q0, q1, q2, q3⟩, u0, u1, u2, u3⟩ := PY.out.cell.res
        have HSm := Lib.hid (PY.out.same RZ.out)
        go_wp2_with fail
        refine HSm.out.mono ?_
        rintro e w10 ⟨rfl, hb⟩
        have PZ := Lib.hid (PY.out.on hb)
        clear hb q0 q1 q2 q3 u0 u1 u2 u3
        go_wp2_with fail
        go_roundw
        case rel => exact ⟨k - 1, _, _, by omega, by go_num, PZ.out.more (by omega), RZ.out, by have := HLn.out; omega⟩
        case measure => simp [intOf]; omega
      by_cases c1 : ch = 1
      · subst c1
        go_wp2_with fail
        refine (Sync_D P4.out.dv (by omega)).mono ?_
        rintro e w5 ⟨rfl, hd, hb, hkb⟩
        have P5 := Lib.hid (P4.out.dev hd hb hkb)
        clear hd hb hkb
        obtain ⟨⟨q0, q1, q2, q3⟩, u0, u1, u2, u3⟩ := P5.out.cell.res
        go_wp2_with fail
        refine (RSync_any ⟨FA, FC, fs, OA, OC, os, dn, f⟩ s _ P5.out.rm RA.out).mono ?_
        rintro e w8 ⟨r', rfl, hm8, hp8, hn8, hb8⟩
        obtain ⟨FA', FC', fs', OA', OC', os', dn', f'⟩ := r'
        have RZ := Lib.hid hp8
        have PY := Lib.hid (P5.out.ref hb8 hm8 hn8)
        have Q8 : Hid _ := (P5.out.cell.on hb8).res
        clear hp8 hm8 hn8 hb8 q0 q1 q2 q3 u0 u1 u2 u3
        obtain ⟨⟨q0, q1, q2, q3⟩, u0, u1, u2, u3⟩ := Q8.out
        go_upto_region 40 with fail
        clear q0 q1 q2 q3 u0 u1 u2 u3 Q8
        unfold setR at PY
        generalize (((w8.setCell ⟨g, 0, none⟩ (.slice FA' fs'.length FC')).setCell ⟨g, 1, none⟩ (.slice OA' os'.length OC')).setCell ⟨g, 2, none⟩ (.bool dn')).setCell ⟨g, 3, none⟩ (.int .i64 f') = W9 at *
        have HLn := Lib.hid (sync_len s)
        generalize syncE s = E at *
        obtain ⟨⟨q0, q1, q2, q3⟩, u0, u1, u2, u3⟩ := PY.out.cell.res
        have HSm := Lib.hid (PY.out.same RZ.out)
        go_wp2_with fail
        refine HSm.out.mono ?_
        rintro e w10 ⟨rfl, hb⟩
        have PZ := Lib.hid (PY.out.on hb)
        clear hb q0 q1 q2 q3 u0 u1 u2 u3
        go_wp2_with fail
        go_roundw
        case rel => exact ⟨k - 1, _, _, by omega, by go_num, PZ.out.more (by omega), RZ.out, by have := HLn.out; omega⟩
        case measure => simp [intOf]; omega
      by_cases c2 : ch = 2
      · subst c2
        go_wp2_with fail
        refine (loss_any w.heap.size (1 + 21 * (40 - k) + 1) _ (by omega) P4.out.tp).mono ?_
        rintro e w5 ⟨kp, tr, hkp, htr, rfl, ht, hg⟩
        have P5 := Lib.hid (P4.out.tape ht hg)
        clear ht hg
        have P5a := Lib.hid (P5.out.on (bel1 w5 (.cells #[.int .i64 kp, .int .i64 tr] 32)))
        have B5a : Hid (IsB (w5.alloc (.cells #[.int .i64 kp, .int .i64 tr] 32)) w5.heap.size 32 #[.int .i64 kp, .int .i64 tr]) := IsB.new _ _ _
        go_wp2_with fail
        refine (Lose_D kp tr P5a.out.dv (by omega) (by omega)).mono ?_
        rintro e w6 ⟨rfl, hd, hb, hkb⟩
        have P6 := Lib.hid (P5a.out.dev hd hb hkb)
        have B6 := hkb _ _ _ (by decide) (by decide) (by decide) B5a.out
        have z0 : w6.cell? ⟨w5.heap.size, 0, none⟩ = some (.int .i64 kp) := B6.cell 0
        have z1 : w6.cell? ⟨w5.heap.size, 1, none⟩ = some (.int .i64 tr) := B6.cell 1
        clear hd hb hkb B6
        obtain ⟨⟨q0, q1, q2, q3⟩, u0, u1, u2, u3⟩ := P6.out.cell.res
        go_wp2_with fail
        refine (RLose_any ⟨FA, FC, fs, OA, OC, os, dn, f⟩ s kp tr _ P6.out.rm RA.out (by omega)).mono ?_
        rintro e w8 ⟨r', rfl, hm8, hp8, hn8, hb8⟩
        obtain ⟨FA', FC', fs', OA', OC', os', dn', f'⟩ := r'
        have RZ := Lib.hid hp8
        have PY := Lib.hid (P6.out.ref hb8 hm8 hn8)
        have Q8 : Hid _ := (P6.out.cell.on hb8).res
        clear hp8 hm8 hn8 hb8 q0 q1 q2 q3 u0 u1 u2 u3
        obtain ⟨⟨q0, q1, q2, q3⟩, u0, u1, u2, u3⟩ := Q8.out
        go_upto_region 40 with fail
        clear q0 q1 q2 q3 u0 u1 u2 u3 Q8
        unfold setR at PY
        generalize (((w8.setCell ⟨g, 0, none⟩ (.slice FA' fs'.length FC')).setCell ⟨g, 1, none⟩ (.slice OA' os'.length OC')).setCell ⟨g, 2, none⟩ (.bool dn')).setCell ⟨g, 3, none⟩ (.int .i64 f') = W9 at *
        clear z0 z1
        obtain ⟨⟨q0, q1, q2, q3⟩, u0, u1, u2, u3⟩ := PY.out.cell.res
        have HSm := Lib.hid (PY.out.same RZ.out)
        go_wp2_with fail
        refine HSm.out.mono ?_
        rintro e w10 ⟨rfl, hb⟩
        have PZ := Lib.hid (PY.out.on hb)
        clear hb q0 q1 q2 q3 u0 u1 u2 u3
        go_wp2_with fail
        go_roundw
        case rel => exact ⟨k - 1, _, _, by omega, by go_num, PZ.out.more (by omega), RZ.out, by simp [loseS, decideS]⟩
        case measure => simp [intOf]; omega
      by_cases c3 : ch = 3
      · subst c3
        go_wp2_with fail
        refine (Next_any 6 w.heap.size (1 + 21 * (40 - k) + 1) _ (by omega) (by omega) P4.out.tp).mono ?_
        rintro e w5 ⟨y, hy, rfl, ht, hg⟩
        obtain ⟨n, rfl⟩ : ∃ n : Nat, y = (n : Int) := ⟨y.toNat, by have := hy.1; omega⟩
        have hn : n < 6 := by have := hy.2.1 (by omega); omega
        have P5 := Lib.hid (P4.out.tape ht hg)
        clear ht hg hy
        go_wp2_with fail
        refine (Fuse_D ((n : Int) - 1) P5.out.dv (by omega)).mono ?_
        rintro e w6 ⟨rfl, hd, hb, hkb⟩
        have P6 := Lib.hid (P5.out.dev hd hb hkb)
        clear hd hb hkb
        obtain ⟨⟨q0, q1, q2, q3⟩, u0, u1, u2, u3⟩ := P6.out.cell.res
        have PY := Lib.hid (P6.out.fuse (max ((n : Int) - 1) 0))
        have RZ := Lib.hid (RA.out.fuse (max ((n : Int) - 1) 0) (by omega) (by omega))
        go_upto_region 40 with fail
        clear q0 q1 q2 q3 u0 u1 u2 u3
        generalize max ((n : Int) - 1) 0 = f' at *
        generalize w6.setCell ⟨g, 3, none⟩ (.int .i64 f') = W9 at *
        obtain ⟨⟨q0, q1, q2, q3⟩, u0, u1, u2, u3⟩ := PY.out.cell.res
        have HSm := Lib.hid (PY.out.same RZ.out)
        go_wp2_with fail
        refine HSm.out.mono ?_
        rintro e w10 ⟨rfl, hb⟩
        have PZ := Lib.hid (PY.out.on hb)
        clear hb q0 q1 q2 q3 u0 u1 u2 u3
        go_wp2_with fail
        go_roundw
        case rel => exact ⟨k - 1, _, _, by omega, by go_num, PZ.out.more (by omega), RZ.out, by (show s.ops.length ≤ _; omega)⟩
        case measure => simp [intOf]; omega
      by_cases c4 : ch = 4
      · subst c4
        go_wp2_with fail
        refine (Restart_D P4.out.dv (by omega)).mono ?_
        rintro e w5 ⟨rfl, hd, hb, hkb⟩
        have P5 := Lib.hid (P4.out.dev hd hb hkb)
        clear hd hb hkb
        obtain ⟨⟨q0, q1, q2, q3⟩, u0, u1, u2, u3⟩ := P5.out.cell.res
        go_wp2_with fail
        refine (RRestart_any ⟨FA, FC, fs, OA, OC, os, dn, f⟩ s _ P5.out.rm RA.out).mono ?_
        rintro e w8 ⟨r', rfl, hm8, hp8, hn8, hb8⟩
        obtain ⟨FA', FC', fs', OA', OC', os', dn', f'⟩ := r'
        have RZ := Lib.hid hp8
        have PY := Lib.hid (P5.out.ref hb8 hm8 hn8)
        have Q8 : Hid _ := (P5.out.cell.on hb8).res
        clear hp8 hm8 hn8 hb8 q0 q1 q2 q3 u0 u1 u2 u3
        obtain ⟨⟨q0, q1, q2, q3⟩, u0, u1, u2, u3⟩ := Q8.out
        go_upto_region 40 with fail
        clear q0 q1 q2 q3 u0 u1 u2 u3 Q8
        unfold setR at PY
        generalize (((w8.setCell ⟨g, 0, none⟩ (.slice FA' fs'.length FC')).setCell ⟨g, 1, none⟩ (.slice OA' os'.length OC')).setCell ⟨g, 2, none⟩ (.bool dn')).setCell ⟨g, 3, none⟩ (.int .i64 f') = W9 at *
        have HLn := Lib.hid (restart_len s)
        obtain ⟨⟨q0, q1, q2, q3⟩, u0, u1, u2, u3⟩ := PY.out.cell.res
        have HSm := Lib.hid (PY.out.same RZ.out)
        go_wp2_with fail
        refine HSm.out.mono ?_
        rintro e w10 ⟨rfl, hb⟩
        have PZ := Lib.hid (PY.out.on hb)
        clear hb q0 q1 q2 q3 u0 u1 u2 u3
        go_wp2_with fail
        go_roundw
        case rel => exact ⟨k - 1, _, _, by omega, by go_num, PZ.out.more (by omega), RZ.out, by have := HLn.out; omega⟩
        case measure => simp [intOf]; omega
      by_cases c5 : ch = 5
      · subst c5
        go_wp2_with fail
        refine (Restart_D P4.out.dv (by omega)).mono ?_
        rintro e w5 ⟨rfl, hd, hb, hkb⟩
        have P5 := Lib.hid (P4.out.dev hd hb hkb)
        clear hd hb hkb
        obtain ⟨⟨q0, q1, q2, q3⟩, u0, u1, u2, u3⟩ := P5.out.cell.res
        go_wp2_with fail
        refine (RRestart_any ⟨FA, FC, fs, OA, OC, os, dn, f⟩ s _ P5.out.rm RA.out).mono ?_
        rintro e w8 ⟨r', rfl, hm8, hp8, hn8, hb8⟩
        obtain ⟨FA', FC', fs', OA', OC', os', dn', f'⟩ := r'
        have RZ := Lib.hid hp8
        have PY := Lib.hid (P5.out.ref hb8 hm8 hn8)
        have Q8 : Hid _ := (P5.out.cell.on hb8).res
        clear hp8 hm8 hn8 hb8 q0 q1 q2 q3 u0 u1 u2 u3
        obtain ⟨⟨q0, q1, q2, q3⟩, u0, u1, u2, u3⟩ := Q8.out
        go_upto_region 40 with fail
        clear q0 q1 q2 q3 u0 u1 u2 u3 Q8
        unfold setR at PY
        generalize (((w8.setCell ⟨g, 0, none⟩ (.slice FA' fs'.length FC')).setCell ⟨g, 1, none⟩ (.slice OA' os'.length OC')).setCell ⟨g, 2, none⟩ (.bool dn')).setCell ⟨g, 3, none⟩ (.int .i64 f') = W9 at *
        have HLn := Lib.hid (restart_len s)
        obtain ⟨⟨q0, q1, q2, q3⟩, u0, u1, u2, u3⟩ := PY.out.cell.res
        have HSm := Lib.hid (PY.out.same RZ.out)
        go_wp2_with fail
        refine HSm.out.mono ?_
        rintro e w10 ⟨rfl, hb⟩
        have PZ := Lib.hid (PY.out.on hb)
        clear hb q0 q1 q2 q3 u0 u1 u2 u3
        go_wp2_with fail
        go_roundw
        case rel => exact ⟨k - 1, _, _, by omega, by go_num, PZ.out.more (by omega), RZ.out, by have := HLn.out; omega⟩
        case measure => simp [intOf]; omega
      by_cases c6 : ch = 6
      · subst c6
        go_wp2_with fail
        refine (name_any w.heap.size (1 + 21 * (40 - k) + 1) _ (by omega) P4.out.tp).mono ?_
        rintro e w5 ⟨nm, hnm, rfl, ht, hg⟩
        have P5 := Lib.hid (P4.out.tape ht hg)
        have HNm : Hid (okS nm) := names_ok _ hnm
        clear ht hg hnm
        go_wp2_with fail
        refine (Next_any 8 w.heap.size ((1 + 21 * (40 - k) + 1) + 2) _ (by omega) (by omega) P5.out.tp).mono ?_
        rintro e w6 ⟨y, hy, rfl, ht, hg⟩
        obtain ⟨a, rfl⟩ : ∃ a : Nat, y = (a : Int) := ⟨y.toNat, by have := hy.1; omega⟩
        have ha : a < 8 := by have := hy.2.1 (by omega); omega
        have P6 := Lib.hid (P5.out.tape ht hg)
        clear ht hg hy
        go_wp2_with fail
        refine (Next_any 10 w.heap.size ((1 + 21 * (40 - k) + 1) + 2 + 1) _ (by omega) (by omega) P6.out.tp).mono ?_
        rintro e w7 ⟨y, hy, rfl, ht, hg⟩
        obtain ⟨b, rfl⟩ : ∃ b : Nat, y = (b : Int) := ⟨y.toNat, by have := hy.1; omega⟩
        have hb10 : b < 10 := by have := hy.2.1 (by omega); omega
        have P7 := Lib.hid (P6.out.tape ht hg)
        clear ht hg hy
        go_wp2_with fail
        refine (Flip_D nm ((a : Int) - 1) ((b : Int) - 1) P7.out.dv HNm.out (by omega)).mono ?_
        rintro e w7b ⟨rfl, hd, hb, hkb⟩
        have P8 := Lib.hid (P7.out.dev hd hb hkb)
        clear hd hb hkb
        obtain ⟨⟨q0, q1, q2, q3⟩, u0, u1, u2, u3⟩ := P8.out.cell.res
        go_wp2_with fail
        refine (RFlip_any ⟨FA, FC, fs, OA, OC, os, dn, f⟩ s nm ((a : Int) - 1) ((b : Int) - 1) _ P8.out.rm RA.out HNm.out P8.out.ok).mono ?_
        rintro e w8 ⟨r', rfl, hm8, hp8, hn8, hb8⟩
        obtain ⟨FA', FC', fs', OA', OC', os', dn', f'⟩ := r'
        have RZ := Lib.hid hp8
        have PY := Lib.hid (P8.out.ref hb8 hm8 hn8)
        have Q8 : Hid _ := (P8.out.cell.on hb8).res
        clear hp8 hm8 hn8 hb8 q0 q1 q2 q3 u0 u1 u2 u3
        obtain ⟨⟨q0, q1, q2, q3⟩, u0, u1, u2, u3⟩ := Q8.out
        go_upto_region 40 with fail
        clear q0 q1 q2 q3 u0 u1 u2 u3 Q8
        unfold setR at PY
        generalize (((w8.setCell ⟨g, 0, none⟩ (.slice FA' fs'.length FC')).setCell ⟨g, 1, none⟩ (.slice OA' os'.length OC')).setCell ⟨g, 2, none⟩ (.bool dn')).setCell ⟨g, 3, none⟩ (.int .i64 f') = W9 at *
        have HLn := Lib.hid (flip_olen s nm ((a : Int) - 1) ((b : Int) - 1))
        generalize flipE s nm ((a : Int) - 1) ((b : Int) - 1) = E at *
        obtain ⟨⟨q0, q1, q2, q3⟩, u0, u1, u2, u3⟩ := PY.out.cell.res
        have HSm := Lib.hid (PY.out.same RZ.out)
        go_wp2_with fail
        refine HSm.out.mono ?_
        rintro e w10 ⟨rfl, hb⟩
        have PZ := Lib.hid (PY.out.on hb)
        clear hb q0 q1 q2 q3 u0 u1 u2 u3
        go_wp2_with fail
        go_roundw
        case rel => exact ⟨k - 1, _, _, by omega, by go_num, PZ.out.more (by omega), RZ.out, by have := HLn.out; omega⟩
        case measure => simp [intOf]; omega
      by_cases c7 : ch = 7
      · subst c7
        go_wp2_with fail
        refine (name_any w.heap.size (1 + 21 * (40 - k) + 1) _ (by omega) P4.out.tp).mono ?_
        rintro e w5 ⟨nm, hnm, rfl, ht, hg⟩
        have P5 := Lib.hid (P4.out.tape ht hg)
        have HNm : Hid (okS nm) := names_ok _ hnm
        clear ht hg hnm
        go_wp2_with fail
        refine (Read_D nm P5.out.dv HNm.out).mono ?_
        rintro e w6 ⟨d, rfl, hrd, _, hb⟩
        have P6 := Lib.hid (P5.out.on hb)
        have R6 := Lib.hid hrd
        clear hrd hb
        unfold vB
        obtain ⟨⟨q0, q1, q2, q3⟩, u0, u1, u2, u3⟩ := P6.out.cell.res
        go_wp2_with fail
        refine (RRead_any ⟨FA, FC, fs, OA, OC, os, dn, f⟩ s nm _ P6.out.rm RA.out HNm.out).mono ?_
        rintro e w7 ⟨d2, rfl, hrd2, hb⟩
        have P7 := Lib.hid (P6.out.on hb)
        have v1 : (convert 22 9 (.slice d.A d.len d.cap)).run Try.prog w7 = .ok (.string ⟨(readB s nm).toArray⟩) w7 := conv_rb (R6.out.on hb)
        have v2 : (convert 22 9 (.slice d2.A d2.len d2.cap)).run Try.prog w7 = .ok (.string ⟨(readB s nm).toArray⟩) w7 := conv_rb hrd2
        clear hrd2 hb q0 q1 q2 q3 u0 u1 u2 u3
        generalize readB s nm = bb at *
        go_upto_region 40 with fail
        clear v1 v2
        generalize readE s nm = E at *
        obtain ⟨⟨q0, q1, q2, q3⟩, u0, u1, u2, u3⟩ := P7.out.cell.res
        have HSm := Lib.hid (P7.out.same RA.out)
        go_wp2_with fail
        refine HSm.out.mono ?_
        rintro e w10 ⟨rfl, hb⟩
        have PZ := Lib.hid (P7.out.on hb)
        clear hb q0 q1 q2 q3 u0 u1 u2 u3
        go_wp2_with fail
        go_roundw
        case rel => exact ⟨k - 1, _, _, by omega, by go_num, PZ.out.more (by omega), RA.out, by omega⟩
        case measure => simp [intOf]; omega
      have n0 : ((ch : Int) == 0) = false := by rw [beq_eq_false_iff_ne]; omega
      have n1 : ((ch : Int) == 1) = false := by rw [beq_eq_false_iff_ne]; omega
      have n2 : ((ch : Int) == 2) = false := by rw [beq_eq_false_iff_ne]; omega
      have n3 : ((ch : Int) == 3) = false := by rw [beq_eq_false_iff_ne]; omega
      have n4 : ((ch : Int) == 4) = false := by rw [beq_eq_false_iff_ne]; omega
      have n5 : ((ch : Int) == 5) = false := by rw [beq_eq_false_iff_ne]; omega
      have n6 : ((ch : Int) == 6) = false := by rw [beq_eq_false_iff_ne]; omega
      have n7 : ((ch : Int) == 7) = false := by rw [beq_eq_false_iff_ne]; omega
      go_wp2_with fail
      refine (operation_any w.heap.size (1 + 21 * (40 - k) + 1) _ (by omega) P4.out.tp).mono ?_
      rintro e w5 ⟨o, ho, rfl, hro5, hfo, ht, hg⟩
      have P5 := Lib.hid (P4.out.tape ht hg)
      have D5 := Lib.hid (P4.out.dv.tape_add P4.out.tp hg hro5 hfo)
      have HO := Lib.hid ho
      clear ht hg ho hro5 hfo n0 n1 n2 n3 n4 n5 n6 n7
      have P5a := Lib.hid (P5.out.on (bel1 w5 (.cells #[.int .i64 o.k, .string o.nm, .string o.to, .slice o.d.A o.d.len o.d.cap] 51)))
      have D5a := Lib.hid (D5.out.on (bel1 w5 (.cells #[.int .i64 o.k, .string o.nm, .string o.to, .slice o.d.A o.d.len o.d.cap] 51)))
      have B5a : Hid (IsB (w5.alloc (.cells #[.int .i64 o.k, .string o.nm, .string o.to, .slice o.d.A o.d.len o.d.cap] 51)) w5.heap.size 51 #[.int .i64 o.k, .string o.nm, .string o.to, .slice o.d.A o.d.len o.d.cap]) := IsB.new _ _ _
      unfold LOp.val
      go_wp2_with fail
      refine (ldo_D o D5a.out HO.out (D5a.out.rb (by simp)) (by omega)).mono ?_
      rintro e w6 ⟨n, hn, rfl, hd, hb, hkb⟩
      have HN := Lib.hid hn
      have P6 := Lib.hid (P5a.out.dev (hd.sub (fun y hy => List.mem_cons_of_mem _ hy)) hb hkb)
      have R6 : Hid (RB w6 o.d o.bs) := hd.rb (by simp)
      have B6 := hkb _ _ _ (by decide) (by decide) (by decide) B5a.out
      obtain ⟨⟨z0, z1, z2, z3⟩, _⟩ := B6.res
      clear hd hb hkb B6 hn
      obtain ⟨⟨q0, q1, q2, q3⟩, u0, u1, u2, u3⟩ := P6.out.cell.res
      go_wp2_with fail
      refine (RDo_any ⟨FA, FC, fs, OA, OC, os, dn, f⟩ s o n _ P6.out.rm RA.out HO.out R6.out HN.out P6.out.ok hro).mono ?_
      rintro e w8 ⟨r', rfl, hm8, hp8, hn8, hb8⟩
      obtain ⟨FA', FC', fs', OA', OC', os', dn', f'⟩ := r'
      have RZ := Lib.hid hp8
      have PY := Lib.hid (P6.out.ref hb8 hm8 hn8)
      have Q8 : Hid _ := (P6.out.cell.on hb8).res
      clear hp8 hm8 hn8 hb8 q0 q1 q2 q3 u0 u1 u2 u3
      obtain ⟨⟨q0, q1, q2, q3⟩, u0, u1, u2, u3⟩ := Q8.out
      go_upto_region 40 with fail
      clear q0 q1 q2 q3 u0 u1 u2 u3 Q8
      unfold setR at PY
      generalize (((w8.setCell ⟨g, 0, none⟩ (.slice FA' fs'.length FC')).setCell ⟨g, 1, none⟩ (.slice OA' os'.length OC')).setCell ⟨g, 2, none⟩ (.bool dn')).setCell ⟨g, 3, none⟩ (.int .i64 f') = W9 at *
      clear z0 z1 z2 z3
      have HLn := Lib.hid (req_len s n o.op)
      generalize reqE s n o.op = E at *
      obtain ⟨⟨q0, q1, q2, q3⟩, u0, u1, u2, u3⟩ := PY.out.cell.res
      have HSm := Lib.hid (PY.out.same RZ.out)
      go_wp2_with fail
      refine HSm.out.mono ?_
      rintro e w10 ⟨rfl, hb⟩
      have PZ := Lib.hid (PY.out.on hb)
      clear hb q0 q1 q2 q3 u0 u1 u2 u3
      go_wp2_with fail
      go_roundw
      case rel => exact ⟨k - 1, _, _, by omega, by go_num, PZ.out.more (by omega), RZ.out, by have := HLn.out; omega⟩
      case measure => simp [intOf]; omega
    · obtain rfl : k = 0 := by omega
      go_wp2_with fail
      go_ret
      exact ⟨rfl, law_endR PA.out.gr⟩
theorem law11F (A : Option Addr) (len c : Nat) (l : List Int) (e : l.length = len) (w : World) (hr : RdT w w.heap.size A l) (hl : len ≤ 9223372036854775807) :
    Calls Try.prog 11 #[.slice A len c] w (Gives (.bool true) w) := by
  subst e
  exact law11 A l c w hr hl
end Go.Proofs.Ytddjkkmdcdiofaa
