/- Contracts: Lose, Restart. -/
import Derived.Test.YtddjkkmdcdiofaaDB
namespace Go.Proofs.Ytddjkkmdcdiofaa
open Go.RowKit Go.MapKept Go.ChangeMaps

def loseS (s : St) (keep torn : Int) : St := decideS s.cut keep torn
def restartS (s : St) : St := if s.dn then { decideS s 0 (-1) with dn := false } else s
theorem Step.cell_after {w w1 w' : World} {p : Nat} {r r1 : Rp} (h : Step w w1 p r r1) (hg : w1.grownBy w' (some p)) : Step w w' p r r1 :=
  ⟨Ch.then h.ch (Ch.ones (Below.refl _ _) hg (.inl rfl)), h.own, h.rooms, h.reads⟩
theorem Step.cell_ahead {w w1 w' : World} {p : Nat} {r r1 : Rp} (hg : w.grownBy w1 (some p)) (h : Step w1 w' p r r1) : Step w w' p r r1 :=
  ⟨Ch.then (Ch.ones (Below.refl _ _) hg (.inl rfl)) h.ch, fun i hi => (h.own i hi).imp id (fun hh => Nat.le_trans hg.size hh), h.rooms.low hg.size, fun d hd => (h.reads d hd).imp id (fun hf => hf.low hg.size)⟩
theorem DV.cut34 {w : World} {p : Nat} {r : Rp} {s : St} (h : DV w p r s) : DV ((w.setCell ⟨p, 3, none⟩ (.bool true)).setCell ⟨p, 4, none⟩ (.int .i64 0)) p r s.cut ∧ w.grownBy ((w.setCell ⟨p, 3, none⟩ (.bool true)).setCell ⟨p, 4, none⟩ (.int .i64 0)) (some p) := by
  have hg : w.grownBy ((w.setCell ⟨p, 3, none⟩ (.bool true)).setCell ⟨p, 4, none⟩ (.int .i64 0)) (some p) := g_trans (g_set (p := ⟨p, 3, none⟩) (g_refl _ _) (.inl rfl) _) (g_set (p := ⟨p, 4, none⟩) (g_refl _ _) (.inl rfl) _)
  exact ⟨⟨h.dev.cell hg ((h.dev.cells.set_ 3 (.bool true)).set_ 4 (.int .i64 0)), h.ok.cut⟩, hg⟩
set_option maxRecDepth 100000 in
set_option maxHeartbeats 4000000 in
theorem Lose_any (p : Nat) (r : Rp) (s : St) (keep torn : Int) (w : World) (h : DV w p r s) (hL : s.ops.length ≤ 1000000) (ht : torn ≤ 9223372036854775807) : Calls Try.prog 18 #[.pointer (some ⟨p, 0, none⟩), .agg #[.int .i64 keep, .int .i64 torn]] w (Goes p r (loseS s keep torn) (.tuple #[]) w) := by
  have H := Lib.hid h
  have hplt := h.dev.cells.lt
  have k3 : w.cell? ⟨p, 3, none⟩ = some (.bool s.dn) := (h.dev.cells.cell 3).trans rfl
  have k4 : w.cell? ⟨p, 4, none⟩ = some (.int .i64 s.f) := (h.dev.cells.cell 4).trans rfl
  have f3 : w.frozen? ⟨p, 3, none⟩ = false := h.dev.cells.frozen 3
  have f4 : w.frozen? ⟨p, 4, none⟩ = false := h.dev.cells.frozen 4
  have hne : p ≠ w.heap.size := by omega
  have hne2 : w.heap.size ≠ p := by omega
  clear h
  go_enter Try.func18, Try.ntmps18
  go_wp2_with fail
  refine (decide_any p r s.cut keep torn _ (H.out.cut34.1.on (bel1 _ _)) hL ht).mono ?_
  rintro e w1 ⟨rfl, r', hd, hs⟩
  have D1 := Lib.hid hd
  have S1 := Lib.hid hs
  clear hd hs
  go_wp2_with fail
  go_end0
  exact ⟨rfl, r', D1.out, Step.cell_ahead H.out.cut34.2 (Step.after (bel1 _ _) S1.out)⟩
theorem Ok.dn {s : St} (h : Ok s) (b : Bool) : Ok { s with dn := b } := ⟨h.f0, h.f1, h.pre, h.ops⟩
set_option maxRecDepth 100000 in
set_option maxHeartbeats 4000000 in
theorem Restart_any (p : Nat) (r : Rp) (s : St) (w : World) (h : DV w p r s) (hL : s.ops.length ≤ 1000000) : Calls Try.prog 19 #[.pointer (some ⟨p, 0, none⟩)] w (Goes p r (restartS s) (.tuple #[]) w) := by
  have H := Lib.hid h
  have k3 : w.cell? ⟨p, 3, none⟩ = some (.bool s.dn) := (h.dev.cells.cell 3).trans rfl
  clear h
  cases hd : s.dn with
  | false =>
    rw [hd] at k3
    have E : Hid (restartS s = s) := by simp [Hid, restartS, hd]
    clear hd
    go_enter Try.func19, Try.ntmps19
    go_wp2_with fail
    go_end0
    rw [E.out]
    exact ⟨rfl, r, H.out, Step.same (Below.refl _ _)⟩
  | true =>
    rw [hd] at k3
    have E : Hid (restartS s = { decideS s 0 (-1) with dn := false }) := by simp [Hid, restartS, hd]
    clear hd
    go_enter Try.func19, Try.ntmps19
    go_wp2_with fail
    refine (decide_any p r s 0 (-1) _ H.out hL (by omega)).mono ?_
    rintro e w1 ⟨rfl, r', hd, hs⟩
    have D1 := Lib.hid hd
    have S1 := Lib.hid hs
    have i3 : w1.cell? ⟨p, 3, none⟩ = some (.bool (decideS s 0 (-1)).dn) := (hd.dev.cells.cell 3).trans rfl
    have j3 : w1.frozen? ⟨p, 3, none⟩ = false := hd.dev.cells.frozen 3
    clear hd hs
    go_wp2_with fail
    go_end0
    rw [E.out]
    have hg : w1.grownBy (w1.setCell ⟨p, 3, none⟩ (.bool false)) (some p) := g_set (p := ⟨p, 3, none⟩) (g_refl _ _) (.inl rfl) _
    exact ⟨rfl, r', ⟨D1.out.dev.cell hg (D1.out.dev.cells.set_ 3 (.bool false)), D1.out.ok.dn false⟩, Step.cell_after S1.out hg⟩
end Go.Proofs.Ytddjkkmdcdiofaa
