/- Contracts: same. -/
import Derived.Test.YtddjkkmdcdiofaaRL
import Derived.Deep.QuietTactic
import Derived.BigQuiet
namespace Go.Proofs.Ytddjkkmdcdiofaa
open Go.RowKit Go.MapKept Go.ChangeMaps

theorem DV.drewN {w : World} {p : Nat} {r : Rp} {s : St} (h : DV w p r s) (n : Nat) : DV (w.drewN n) p r s := h.on ⟨rfl, rfl, rfl, Nat.le_refl _, fun _ _ => rfl⟩
set_option maxRecDepth 100000 in
set_option maxHeartbeats 4000000 in
theorem same_true (p : Nat) (rp : Rp) (r : RS) (s : St) (w : World) (h1 : DV w p rp s) (hm : RM w r) (hp : RP r s) : Calls Try.prog 46 #[.pointer (some ⟨p, 0, none⟩), .agg r.cells] w (Gives (.bool true) w) := by
  obtain ⟨FA, FC, fs, OA, OC, os, dn, f⟩ := r
  have H0 : Hid (DV (w.alloc (.cells (RS.cells ⟨FA, FC, fs, OA, OC, os, dn, f⟩) 68)) p rp s) := h1.on (bel1 _ _)
  have M0 : Hid (RM (w.alloc (.cells (RS.cells ⟨FA, FC, fs, OA, OC, os, dn, f⟩) 68)) ⟨FA, FC, fs, OA, OC, os, dn, f⟩) := hm.on (bel1 _ _)
  have P0 := Lib.hid hp
  have I0 : Hid (IsB (w.alloc (.cells (RS.cells ⟨FA, FC, fs, OA, OC, os, dn, f⟩) 68)) w.heap.size 68 (RS.cells ⟨FA, FC, fs, OA, OC, os, dn, f⟩)) := IsB.new _ _ _
  have B0 : Hid (Below w.heap.size w (w.alloc (.cells (RS.cells ⟨FA, FC, fs, OA, OC, os, dn, f⟩) 68))) := bel1 _ _
  have HLn : Hid (s.ops.length = os.length) := by rw [Hid, hp.ops]; simp
  have HDn : Hid (s.dn = dn) := hp.dn.symm
  have hos : os.length ≤ 1000 := hp.len
  have s0 : w.heap.size + 1 = (w.alloc (.cells (RS.cells ⟨FA, FC, fs, OA, OC, os, dn, f⟩) 68)).heap.size := by simp
  clear h1 hm hp
  go_enter Try.func46, Try.ntmps46
  go_wp2_with fail
  generalize w.alloc (.cells (RS.cells ⟨FA, FC, fs, OA, OC, os, dn, f⟩) 68) = W at *
  have hw : w.heap.size < W.heap.size := by omega
  have k0 : (W.cell? ⟨w.heap.size, 0, none⟩ = some (.slice FA fs.length FC) ∧ W.cell? ⟨w.heap.size, 1, none⟩ = some (.slice OA os.length OC) ∧ W.cell? ⟨w.heap.size, 2, none⟩ = some (.bool dn) ∧ W.cell? ⟨w.heap.size, 3, none⟩ = some (.int .i64 f)) := I0.out.res.1
  obtain ⟨q0, q1, q2, q3⟩ := k0
  have HDd : Hid (DV W.drew p rp s) := H0.out.on (bel_drew (Below.refl _ _))
  go_region_held3 (fun w' => (w'.cell? ⟨w.heap.size, 0, none⟩ = some (.slice FA fs.length FC) ∧ w'.cell? ⟨w.heap.size, 1, none⟩ = some (.slice OA os.length OC) ∧ w'.cell? ⟨w.heap.size, 2, none⟩ = some (.bool dn) ∧ w'.cell? ⟨w.heap.size, 3, none⟩ = some (.int .i64 f)))
    (first | exact K1.out | exact K2.out | go_keep)
    (first
      | (go_at_call 35; (with_reducible refine (Names_any p rp s W.drew HDd.out).mono ?_); rintro e w1 ⟨A1, c1, ns, rfl, hl1, hr1, hb1'⟩; have hb1 := of_drew hb1'; have L1 := Lib.hid hl1; have R1 := Lib.hid hr1; have B1 : Hid (Below W.heap.size W w1) := hb1; have I1 : Hid (IsB w1 w.heap.size 68 (RS.cells ⟨FA, FC, fs, OA, OC, os, dn, f⟩)) := I0.out.on hb1; have K1 : Hid (w1.cell? ⟨w.heap.size, 0, none⟩ = some (.slice FA fs.length FC) ∧ w1.cell? ⟨w.heap.size, 1, none⟩ = some (.slice OA os.length OC) ∧ w1.cell? ⟨w.heap.size, 2, none⟩ = some (.bool dn) ∧ w1.cell? ⟨w.heap.size, 3, none⟩ = some (.int .i64 f)) := I1.out.res.1; have M1 : Hid (RM w1 ⟨FA, FC, fs, OA, OC, os, dn, f⟩) := M0.out.on hb1; clear hl1 hr1 hb1 hb1')
      | (go_at_call 66; (with_reducible refine (RNames_any ⟨FA, FC, fs, OA, OC, os, dn, f⟩ s w1 M1.out P0.out).mono ?_); rintro e w2 ⟨A2, c2, ns2, rfl, hl2, hr2, hb2⟩; obtain rfl : ns = ns2 := L1.out.uniq hl2; have R2 := Lib.hid hr2; have R1' : Hid (RdS w2 A1 ns) := R1.out.on hb2; have B2 : Hid (Below W.heap.size W w2) := B1.out.trans (hb2.mono B1.out.size); have I2 : Hid (IsB w2 w.heap.size 68 (RS.cells ⟨FA, FC, fs, OA, OC, os, dn, f⟩)) := I1.out.on hb2; have K2 : Hid (w2.cell? ⟨w.heap.size, 0, none⟩ = some (.slice FA fs.length FC) ∧ w2.cell? ⟨w.heap.size, 1, none⟩ = some (.slice OA os.length OC) ∧ w2.cell? ⟨w.heap.size, 2, none⟩ = some (.bool dn) ∧ w2.cell? ⟨w.heap.size, 3, none⟩ = some (.int .i64 f)) := I2.out.res.1; clear hl2 hr2 hb2))
  all_goals (
    have hnl : ns.length ≤ 256 := by
      obtain ⟨_, c, hc, hc2⟩ := H0.out.ok.now
      have := hc2.uniq (f := s.now) ⟨ns, L1.out.nodup, L1.out.mem, rfl⟩
      omega
    have HO : Hid (∀ n ∈ ns, okS n) := fun n hn => by
      have := (L1.out.mem n).1 hn
      rw [← H0.out.dev.has n] at this
      obtain ⟨v, hv⟩ := Option.isSome_iff_exists.1 this
      exact H0.out.dev.now.1.oks _ (mem_of_asc hv)
    have H2 : Hid (DV w2 p rp s) := H0.out.on B2.out
    have M2 : Hid (RM w2 ⟨FA, FC, fs, OA, OC, os, dn, f⟩) := M0.out.on B2.out
    have HPe : Hid (∀ n, Calls Try.prog 27 #[.pointer (some ⟨p, 0, none⟩)] (w2.drewN n) (fun e w' => e = .returned (.int .i64 os.length) ∧ w' = w2.drewN n)) := fun n => by
      have := Pending_any p rp s (w2.drewN n) (H2.out.drewN n) (by rw [HLn.out]; omega)
      rw [HLn.out] at this
      exact this.mono (fun e w' h => ⟨h.1, h.2.symm⟩)
    have HDo : Hid (∀ n, Calls Try.prog 26 #[.pointer (some ⟨p, 0, none⟩)] (w2.drewN n) (fun e w' => e = .returned (.bool dn) ∧ w' = w2.drewN n)) := fun n => by
      have := Down_any p rp s (w2.drewN n) (H2.out.drewN n)
      rw [HDn.out] at this
      exact this.mono (fun e w' h => ⟨h.1, h.2.symm⟩)
    have y1 : w2.cell? ⟨w.heap.size, 1, none⟩ = some (.slice OA os.length OC) := I2.out.cell 1
    have y2 : w2.cell? ⟨w.heap.size, 2, none⟩ = some (.bool dn) := I2.out.cell 2
    go_wp2_with fail
    go_quiet (first | (go_at_call 27; exact Calls.quiet_of_same (HPe.out _)) | (go_at_call 26; exact Calls.quiet_of_same (HDo.out _)))
    clear y1 y2 HPe HDo
    go_wp2_with fail
    go_loopw [7] (fun v wr => ∃ k : Nat, k ≤ ns.length ∧ v = .int .i64 k ∧ Below w2.heap.size w2 wr) (fun v _ => ns.length - (intOf v).toNat)
    case atStart => exact ⟨0, by omega, rfl, bdrewN (Below.refl _ _) _⟩
    case round =>
      obtain ⟨k, hk, rfl, hb⟩ := hrel
      have HB := Lib.hid hb
      clear hb
      by_cases hlt : k < ns.length
      · obtain ⟨b1, rfl, hb1l, hc1⟩ := R1'.out (by omega)
        obtain ⟨b2, rfl, hb2l, hc2⟩ := R2.out (by omega)
        obtain ⟨nm, Hnm⟩ : ∃ nm, Hid (ns.getD k ByteArray.empty = nm) := ⟨_, rfl⟩
        have HMem : Hid (nm ∈ ns) := by rw [Hid, ← Hnm.out, List.getD_eq_getElem?_getD, List.getElem?_eq_getElem hlt]; exact List.getElem_mem hlt
        have q1' : wr.cell? ⟨b2, k, none⟩ = some (.string nm) := by rw [HB.out.cell (p := ⟨b2, k, none⟩) hb2l, hc2 k hlt, Hnm.out]
        have HC1 : Hid (w2.cell? ⟨b1, k, none⟩ = some (.string nm)) := by rw [Hid, hc1 k hlt, Hnm.out]
        have HC2 : Hid (w2.cell? ⟨b2, k, none⟩ = some (.string nm)) := by rw [Hid, hc2 k hlt, Hnm.out]
        clear hc1 hc2
        go_wp2_with fail
        refine (Read_any p rp s nm wr (H2.out.on HB.out) (HO.out _ HMem.out)).mono ?_
        rintro e w3 ⟨d3, rfl, hr3, _, hb3⟩
        have R3 := Lib.hid hr3
        have B3 : Hid (Below w2.heap.size w2 w3) := HB.out.trans (hb3.mono HB.out.size)
        have z2 : w3.cell? ⟨b2, k, none⟩ = some (.string nm) := by rw [B3.out.cell (p := ⟨b2, k, none⟩) hb2l]; exact HC2.out
        have I3 : Hid (IsB w3 w.heap.size 68 (RS.cells ⟨FA, FC, fs, OA, OC, os, dn, f⟩)) := I2.out.on B3.out
        have M3 : Hid (RM w3.drew ⟨FA, FC, fs, OA, OC, os, dn, f⟩) := M2.out.on (bel_drew B3.out)
        have k3 : (w3.cell? ⟨w.heap.size, 0, none⟩ = some (.slice FA fs.length FC) ∧ w3.cell? ⟨w.heap.size, 1, none⟩ = some (.slice OA os.length OC) ∧ w3.cell? ⟨w.heap.size, 2, none⟩ = some (.bool dn) ∧ w3.cell? ⟨w.heap.size, 3, none⟩ = some (.int .i64 f)) := I3.out.res.1
        obtain ⟨x0, x1, x2, x3⟩ := k3
        have HNs : Hid (nm.size ≤ maxLen) := HO.out _ HMem.out
        have hkz : (0 : Int) ≤ k := by omega
        have hki : (k : Int) < ns.length := by omega
        clear hr3 hb3 q1'
        go_wp2_with fail
        go_region_held3 (fun w' => (w'.cell? ⟨w.heap.size, 0, none⟩ = some (.slice FA fs.length FC) ∧ w'.cell? ⟨w.heap.size, 1, none⟩ = some (.slice OA os.length OC) ∧ w'.cell? ⟨w.heap.size, 2, none⟩ = some (.bool dn) ∧ w'.cell? ⟨w.heap.size, 3, none⟩ = some (.int .i64 f)) ∧ w'.cell? ⟨b2, k, none⟩ = some (.string nm))
          (first | exact K4.out | go_keep)
          (first
            | (go_at_call 44; (with_reducible refine (RRead_any ⟨FA, FC, fs, OA, OC, os, dn, f⟩ s nm w3.drew M3.out P0.out HNs.out).mono ?_); rintro e w4 ⟨d4, rfl, hr4, hb4'⟩; have hb4 := of_drew hb4'; have R4 := Lib.hid hr4; have R34 : Hid (RB w4 d3 (readB s nm)) := R3.out.on hb4; have B4 : Hid (Below w2.heap.size w2 w4) := B3.out.trans (hb4.mono B3.out.size); have I4 : Hid (IsB w4 w.heap.size 68 (RS.cells ⟨FA, FC, fs, OA, OC, os, dn, f⟩)) := I2.out.on B4.out; have K4 : Hid ((w4.cell? ⟨w.heap.size, 0, none⟩ = some (.slice FA fs.length FC) ∧ w4.cell? ⟨w.heap.size, 1, none⟩ = some (.slice OA os.length OC) ∧ w4.cell? ⟨w.heap.size, 2, none⟩ = some (.bool dn) ∧ w4.cell? ⟨w.heap.size, 3, none⟩ = some (.int .i64 f)) ∧ w4.cell? ⟨b2, k, none⟩ = some (.string nm)) := ⟨I4.out.res.1, by rw [B4.out.cell (p := ⟨b2, k, none⟩) hb2l]; exact HC2.out⟩; clear hr4 hb4 hb4'))
        all_goals (
          have q3 : w4.cell? ⟨b1, k, none⟩ = some (.string nm) := by rw [B4.out.cell (p := ⟨b1, k, none⟩) hb1l]; exact HC1.out
          have q4 : w4.cell? ⟨b2, k, none⟩ = some (.string nm) := by rw [B4.out.cell (p := ⟨b2, k, none⟩) hb2l]; exact HC2.out
          have v1 : ∀ n, (convert 22 9 (.slice d3.A d3.len d3.cap)).run Try.prog (w4.drewN n) = .ok (.string ⟨(readB s nm).toArray⟩) (w4.drewN n) := fun n => conv_rb (R34.out.on ⟨rfl, rfl, rfl, Nat.le_refl _, fun _ _ => rfl⟩)
          have v2 : ∀ n, (convert 22 9 (.slice d4.A d4.len d4.cap)).run Try.prog (w4.drewN n) = .ok (.string ⟨(readB s nm).toArray⟩) (w4.drewN n) := fun n => conv_rb (R4.out.on ⟨rfl, rfl, rfl, Nat.le_refl _, fun _ _ => rfl⟩)
          unfold vB
          go_wp2_with fail
          go_quiet (fail)
          clear v1 v2 q3 q4
          go_wp2_with fail
          go_roundw
          case rel => exact ⟨k + 1, by omega, by go_num, bdrewN B4.out _⟩
          case measure => simp [intOf]; omega)
      · go_wp2_with fail
        go_ret
        exact ⟨rfl, (B0.out.trans (B2.out.mono B0.out.size)).trans (HB.out.mono (Nat.le_trans B0.out.size B2.out.size))⟩)
end Go.Proofs.Ytddjkkmdcdiofaa
