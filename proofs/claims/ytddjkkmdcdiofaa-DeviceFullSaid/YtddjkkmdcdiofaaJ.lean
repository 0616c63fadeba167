/- Contracts: Clip, burn. -/
import Derived.Test.YtddjkkmdcdiofaaI
namespace Go.Proofs.Ytddjkkmdcdiofaa
open Go.RowKit Go.MapKept Go.ChangeMaps

def clip (d : BD) : BD := ⟨d.A, d.len, d.len⟩
theorem RB.clip {w : World} {d : BD} {bs : List UInt8} (h : RB w d bs) : RB w (clip d) bs :=
  ⟨h.1, Nat.le_refl _, fun e => by have := h.2.2.1 e; have := h.2.1; show d.len = 0; omega, fun ad e => by
    obtain ⟨g, cur, h1, h2, h3, h4⟩ := h.2.2.2 ad e
    exact ⟨g, cur, h1, h2, Nat.le_trans h.2.1 h3, h4⟩⟩
theorem room_clip (d : BD) : room (clip d) = [] := by
  unfold room clip
  cases d.A <;> simp
set_option maxRecDepth 100000 in
set_option maxHeartbeats 1000000 in
theorem Clip_any (d : BD) (bs : List UInt8) (w : World) (h : RB w d bs) (_hl : bs.length ≤ 1099511627776) :
    Calls Try.prog 70 #[vB d] w (fun e w' => e = .returned (vB (clip d)) ∧ w' = w) := by
  have h1 := h.1
  have h2 := h.2.1
  have h3 := h.2.2.1
  obtain ⟨A, n, c⟩ := d
  simp only at h1 h2 h3
  clear h
  unfold vB clip
  go_enter Try.func70, Try.ntmps70
  go_wp2_with fail
  go_ret
  exact ⟨rfl, rfl⟩

/-- The five cells of a device. -/
abbrev vD (K N P : Value) (dn : Bool) (f : Int) : Array Value := #[K, N, P, .bool dn, .int .i64 f]
def burnF (f : Int) : Int := if f = 0 then 0 else f - 1
def burnD (dn : Bool) (f : Int) : Bool := if f = 0 then dn else decide (f = 1)
/-- What burn leaves. -/
def BurnPost (p : Nat) (K N P : Value) (dn : Bool) (f : Int) (w : World) (e : Ending) (w' : World) : Prop :=
  e = .returned (.bool (decide (f = 1))) ∧ IsB w' p 81 (vD K N P (burnD dn f) (burnF f)) ∧ w.grownBy w' (some p) ∧ w'.heap.size = w.heap.size
theorem set43 {w : World} {p : Nat} {K N P : Value} {dn : Bool} {f : Int} (h : IsB w p 81 (vD K N P dn f)) (x : Int) (d : Bool) :
    IsB ((w.setCell ⟨p, 4, none⟩ (.int .i64 x)).setCell ⟨p, 3, none⟩ (.bool d)) p 81 (vD K N P d x) ∧ w.grownBy ((w.setCell ⟨p, 4, none⟩ (.int .i64 x)).setCell ⟨p, 3, none⟩ (.bool d)) (some p) ∧ ((w.setCell ⟨p, 4, none⟩ (.int .i64 x)).setCell ⟨p, 3, none⟩ (.bool d)).heap.size = w.heap.size := by
  refine ⟨(h.set_ 4 (.int .i64 x)).set_ 3 (.bool d), g_trans (g_set (p := ⟨p, 4, none⟩) (g_refl w _) (.inl rfl) _) (g_set (p := ⟨p, 3, none⟩) (g_refl _ _) (.inl rfl) _), by simp [World.setCell]⟩
theorem burn_post {p : Nat} {K N P : Value} {dn d d' : Bool} {f f' : Int} {w w' : World} (e1 : Hid (burnD dn f = d)) (e2 : Hid (burnF f = f')) (e3 : Hid (decide (f = 1) = d')) (h : IsB w' p 81 (vD K N P d f') ∧ w.grownBy w' (some p) ∧ w'.heap.size = w.heap.size) : BurnPost p K N P dn f w (.returned (.bool d')) w' := by
  rw [BurnPost, e1.out, e2.out, e3.out]
  exact ⟨rfl, h⟩
set_option maxRecDepth 100000 in
set_option maxHeartbeats 1000000 in
theorem burn_any (p : Nat) (K N P : Value) (dn : Bool) (f : Int) (w : World) (h : IsB w p 81 (vD K N P dn f)) (h0 : 0 ≤ f) (h1 : f ≤ 9223372036854775807) :
    Calls Try.prog 51 #[.pointer (some ⟨p, 0, none⟩)] w (BurnPost p K N P dn f w) := by
  have H := Lib.hid h
  have c3 : w.cell? ⟨p, 3, none⟩ = some (.bool dn) := by rw [h.cell]; rfl
  have c4 : w.cell? ⟨p, 4, none⟩ = some (.int .i64 f) := by rw [h.cell]; rfl
  have f3 : w.frozen? ⟨p, 3, none⟩ = false := h.frozen 3
  have f4 : w.frozen? ⟨p, 4, none⟩ = false := h.frozen 4
  clear h
  by_cases hz : f = 0
  · subst hz
    go_enter Try.func51, Try.ntmps51
    go_wp2_with fail
    go_ret
    exact ⟨rfl, H.out, g_refl _ _, rfl⟩
  · have hb : (f == 0) = false := by simpa using hz
    by_cases ho : f = 1
    · subst ho
      go_enter Try.func51, Try.ntmps51
      go_wp2_with fail
      go_ret
      exact ⟨rfl, set43 H.out _ _⟩
    · have hb1 : (f - 1 == 0) = false := by
        rw [beq_eq_false_iff_ne]; omega
      have e1 : Hid (burnD dn f = false) := by simp [Hid, burnD, hz, ho]
      have e2 : Hid (burnF f = f - 1) := by simp [Hid, burnF, hz]
      have e3 : Hid (decide (f = 1) = false) := by simp [Hid, ho]
      go_enter Try.func51, Try.ntmps51
      go_wp2_with fail
      go_ret
      exact burn_post e1 e2 e3 (set43 H.out _ _)
end Go.Proofs.Ytddjkkmdcdiofaa
