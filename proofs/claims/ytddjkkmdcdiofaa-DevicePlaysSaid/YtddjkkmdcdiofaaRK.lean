/- Contracts: Lose, Restart of the reference. -/
import Derived.Test.YtddjkkmdcdiofaaRGJ
import Derived.Deep.Cut
namespace Go.Proofs.Ytddjkkmdcdiofaa
open Go.RowKit Go.MapKept Go.ChangeMaps

theorem RM.grown_ {w w' : World} {g : Nat} {r : RS} {cs : Array Value} (h : RM w r) (hg : w.grownBy w' (some g)) (hi : IsB w g 68 cs) : RM w' r :=
  ⟨h.fl.grown_ hg hi, own_grown h.row hg hi (by decide), fun o ho => (h.rb o ho).grown hg (RB.ne_cell hi (by decide) (h.rb o ho)), h.ok⟩
set_option maxRecDepth 100000 in
set_option maxHeartbeats 4000000 in
theorem RLose_any (r : RS) (s : St) (keep torn : Int) (w : World) (hm : RM w r) (hp : RP r s) (ht : torn ≤ 9223372036854775807) : Calls Try.prog 40 #[.agg r.cells, .agg #[.int .i64 keep, .int .i64 torn]] w (Dev1 r (loseS s keep torn) w) := by
  have P1 : Hid (RP { r with dn := true, f := 0 } s.cut) := hp.cut
  obtain ⟨_, _, Z0, B0, s0⟩ := three_is w (vR r.F r.O true 0) #[.int .i64 keep, .int .i64 torn]
  have M1 : Hid (RM (three w (vR r.F r.O true 0) #[.int .i64 keep, .int .i64 torn]) { r with dn := true, f := 0 }) := (hm.fields true 0).on B0
  have HZ0 := Lib.hid Z0
  have HB0 := Lib.hid B0
  have Hs0 := Lib.hid s0
  clear hm hp Z0 B0 s0
  go_enter Try.func40, Try.ntmps40
  go_wp2_with fail
  refine (Decide_any { r with dn := true, f := 0 } s.cut keep torn _ M1.out P1.out ht).mono ?_
  rintro e w1 ⟨r', rfl, hm1, hp1, hn1, hb1'⟩
  have hb1 : Below (three w (vR r.F r.O true 0) #[.int .i64 keep, .int .i64 torn]).heap.size (three w (vR r.F r.O true 0) #[.int .i64 keep, .int .i64 torn]) w1 := hb1'
  have M2 := Lib.hid hm1
  have P2 := Lib.hid hp1
  have N2 : Hid (NewR w.heap.size r r') := fun y hy => (hn1 y hy).imp id (fun h g hg => by have := h g hg; have := HB0.out.size; omega)
  have Z2 : Hid (IsB w1 (w.heap.size + 1 + 1) 68 vR0) := HZ0.out.on hb1
  have B2 : Hid (Below w.heap.size w w1) := HB0.out.trans (hb1.mono HB0.out.size)
  clear hm1 hp1 hn1 hb1 hb1' HZ0 HB0 Hs0
  obtain ⟨⟨d0, d1, d2, d3⟩, e0, e1, e2, e3⟩ := Z2.out.res
  obtain ⟨FA', FC', fs', OA', OC', os', dn', f'⟩ := r'
  go_wp2_with fail
  have hg := setR_grow w1 (w.heap.size + 1 + 1) (.slice FA' fs'.length FC') (.slice OA' os'.length OC') dn' f'
  have hQ : Dev1 r (loseS s keep torn) w (.returned (.agg (RS.cells ⟨FA', FC', fs', OA', OC', os', dn', f'⟩))) (setR w1 (w.heap.size + 1 + 1) (.slice FA' fs'.length FC') (.slice OA' os'.length OC') dn' f') := ⟨⟨FA', FC', fs', OA', OC', os', dn', f'⟩, rfl, M2.out.grown_ hg Z2.out, P2.out, N2.out, bel_grow B2.out hg (by omega) B2.out.size⟩
  exact ret40 (r' := ⟨FA', FC', fs', OA', OC', os', dn', f'⟩) (setR_is Z2.out (.slice FA' fs'.length FC') (.slice OA' os'.length OC') dn' f') rfl rfl hQ
set_option maxRecDepth 100000 in
set_option maxHeartbeats 4000000 in
theorem RRestart_any (r : RS) (s : St) (w : World) (hm : RM w r) (hp : RP r s) : Calls Try.prog 41 #[.agg r.cells] w (Dev1 r (restartS s) w) := by
  have M0 := Lib.hid hm
  have P0 := Lib.hid hp
  clear hm hp
  obtain ⟨FA, FC, fs, OA, OC, os, dn, f⟩ := r
  have HD : Hid (s.dn = dn) := P0.out.dn.symm
  cases dn
  case false =>
    have HS : Hid (restartS s = s) := by rw [Hid, restartS, HD.out]; rfl
    go_enter Try.func41, Try.ntmps41
    go_wp2_with fail
    refine bodyPost_ret (v := .agg (RS.cells ⟨FA, FC, fs, OA, OC, os, false, f⟩)) ?_ rfl ⟨⟨FA, FC, fs, OA, OC, os, false, f⟩, rfl, M0.out.on ((bel1 _ _).alloc (by simp) _), by rw [HS.out]; exact P0.out, NewR.mk_ (NewF.refl _ _) (fun _ h => h), (bel1 _ _).alloc (by simp) _⟩
    simp [results, Try.results41, go_sem]
  case true =>
    have HS : Hid (restartS s = { decideS s 0 (-1) with dn := false }) := by rw [Hid, restartS, HD.out]; rfl
    obtain ⟨I0, Z0, B0, s0⟩ := two_is w (RS.cells ⟨FA, FC, fs, OA, OC, os, true, f⟩)
    have HI0 := Lib.hid I0
    have HZ0 := Lib.hid Z0
    have HB0 := Lib.hid B0
    have M1 : Hid (RM (two w (RS.cells ⟨FA, FC, fs, OA, OC, os, true, f⟩)) ⟨FA, FC, fs, OA, OC, os, true, f⟩) := M0.out.on B0
    clear I0 Z0 B0 s0
    go_enter Try.func41, Try.ntmps41
    go_wp2_with fail
    refine (Decide_any ⟨FA, FC, fs, OA, OC, os, true, f⟩ s 0 (-1) _ M1.out P0.out (by omega)).mono ?_
    rintro e w1 ⟨r', rfl, hm1, hp1, hn1, hb1'⟩
    have hb1 : Below (two w (RS.cells ⟨FA, FC, fs, OA, OC, os, true, f⟩)).heap.size (two w (RS.cells ⟨FA, FC, fs, OA, OC, os, true, f⟩)) w1 := hb1'
    have M2 := Lib.hid hm1
    have P2 := Lib.hid hp1
    have N2 : Hid (NewR w.heap.size ⟨FA, FC, fs, OA, OC, os, true, f⟩ { r' with dn := false }) := fun y hy => (hn1 y hy).imp id (fun h g hg => by have := h g hg; have := HB0.out.size; omega)
    have I2 : Hid (IsB w1 w.heap.size 68 (RS.cells ⟨FA, FC, fs, OA, OC, os, true, f⟩)) := HI0.out.on hb1
    have Z2 : Hid (IsB w1 (w.heap.size + 1) 68 vR0) := HZ0.out.on hb1
    have B2 : Hid (Below w.heap.size w w1) := HB0.out.trans (hb1.mono HB0.out.size)
    clear hm1 hp1 hn1 hb1 hb1' HZ0 HB0 HI0
    obtain ⟨⟨a0, a1, a2, a3⟩, b0, b1, b2, b3⟩ := I2.out.res
    obtain ⟨⟨d0, d1, d2, d3⟩, e0, e1, e2, e3⟩ := Z2.out.res
    obtain ⟨FA', FC', fs', OA', OC', os', dn', f'⟩ := r'
    have P3 : Hid (RP ⟨FA', FC', fs', OA', OC', os', false, f'⟩ (restartS s)) := by rw [Hid, HS.out]; exact P2.out.power false
    go_upto_region 3 with fail
    have hW := setR_grow w1 w.heap.size (.slice FA' fs'.length FC') (.slice OA' os'.length OC') dn' f'
    have IW : Hid (IsB (setR w1 w.heap.size (.slice FA' fs'.length FC') (.slice OA' os'.length OC') dn' f') w.heap.size 68 (vR (.slice FA' fs'.length FC') (.slice OA' os'.length OC') dn' f')) := setR_is I2.out _ _ _ _
    have ZW : Hid (IsB (setR w1 w.heap.size (.slice FA' fs'.length FC') (.slice OA' os'.length OC') dn' f') (w.heap.size + 1) 68 vR0) := Z2.out.grown hW (by simp)
    have MW : Hid (RM (setR w1 w.heap.size (.slice FA' fs'.length FC') (.slice OA' os'.length OC') dn' f') ⟨FA', FC', fs', OA', OC', os', false, f'⟩) := (M2.out.grown_ hW I2.out).fields false f'
    have BW : Hid (Below w.heap.size w (setR w1 w.heap.size (.slice FA' fs'.length FC') (.slice OA' os'.length OC') dn' f')) := bel_grow B2.out hW (Nat.le_refl _) B2.out.size
    clear hW
    unfold setR at IW ZW BW MW
    generalize (((w1.setCell ⟨w.heap.size, 0, none⟩ (.slice FA' fs'.length FC')).setCell ⟨w.heap.size, 1, none⟩ (.slice OA' os'.length OC')).setCell ⟨w.heap.size, 2, none⟩ (.bool dn')).setCell ⟨w.heap.size, 3, none⟩ (.int .i64 f') = W at *
    clear a0 a1 a2 a3 b0 b1 b2 b3 d0 d1 d2 d3 e0 e1 e2 e3
    obtain ⟨⟨a0, a1, a2, a3⟩, b0, b1, b2, b3⟩ := IW.out.res
    obtain ⟨⟨d0, d1, d2, d3⟩, e0, e1, e2, e3⟩ := ZW.out.res
    go_wp2_with fail
    have hg1 : W.grownBy (W.setCell ⟨w.heap.size, 2, none⟩ (.bool false)) (some w.heap.size) := g_set (p := ⟨w.heap.size, 2, none⟩) (g_refl _ _) (.inl rfl) _
    have Z3 := ZW.out.grown hg1 (by simp)
    have B3 := bel_grow BW.out hg1 (Nat.le_refl _) BW.out.size
    have hg2 := setR_grow (W.setCell ⟨w.heap.size, 2, none⟩ (.bool false)) (w.heap.size + 1) (.slice FA' fs'.length FC') (.slice OA' os'.length OC') false f'
    have hQ : Dev1 ⟨FA, FC, fs, OA, OC, os, true, f⟩ (restartS s) w (.returned (.agg (RS.cells ⟨FA', FC', fs', OA', OC', os', false, f'⟩))) (setR (W.setCell ⟨w.heap.size, 2, none⟩ (.bool false)) (w.heap.size + 1) (.slice FA' fs'.length FC') (.slice OA' os'.length OC') false f') := ⟨⟨FA', FC', fs', OA', OC', os', false, f'⟩, rfl, (MW.out.grown_ hg1 IW.out).grown_ hg2 Z3, P3.out, N2.out, bel_grow B3 hg2 (by omega) B3.size⟩
    exact ret41 (r' := ⟨FA', FC', fs', OA', OC', os', false, f'⟩) (setR_is Z3 (.slice FA' fs'.length FC') (.slice OA' os'.length OC') false f') rfl rfl hQ
end Go.Proofs.Ytddjkkmdcdiofaa
