/- Contracts: Sync. -/
import Derived.Test.YtddjkkmdcdiofaaX
namespace Go.Proofs.Ytddjkkmdcdiofaa
open Go.RowKit Go.MapKept Go.ChangeMaps

def syncE (s : St) : Int := if s.dn then 303 else if s.f = 1 then 303 else 0
def syncS (s : St) : St := if s.dn then s else if s.f = 1 then s.cut else ⟨s.now, [], false, burnF s.f⟩
theorem rooms_uniq {w : World} {b : Nat} {E : Files} (h : FM w b E) {q q' : Nat × Nat} (hq : q ∈ rooms E) (hq' : q' ∈ rooms E) (e : q.1 = q'.1) : q = q' := by
  obtain ⟨c, hc, c1, c2, _⟩ := mem_rooms.1 hq
  obtain ⟨d, hd, d1, d2, _⟩ := mem_rooms.1 hq'
  rw [← e] at d1
  have := FM.own h.2.2 hc hd c1 d1
  subst this
  exact Prod.ext e (by omega)
theorem Ok.sync {s : St} (h : Ok s) : Ok ⟨s.now, [], false, burnF s.f⟩ := Ok.none h.now (by have := h.f0; simp only [burnF]; split <;> omega) (by have := h.f1; simp only [burnF]; split <;> omega)
set_option maxRecDepth 100000 in
set_option maxHeartbeats 4000000 in
theorem Sync_any (p : Nat) (r : Rp) (s : St) (w : World) (h : DV w p r s) (hL : s.ops.length ≤ 1000000) : Calls Try.prog 15 #[.pointer (some ⟨p, 0, none⟩)] w (Goes p r (syncS s) (.int .i64 (syncE s)) w) := by
  have H := Lib.hid h
  have k3 : w.cell? ⟨p, 3, none⟩ = some (.bool s.dn) := (h.dev.cells.cell 3).trans rfl
  have hL2 : r.L.length ≤ 1000000 := by rw [← h.dev.sO] at hL; simpa using hL
  have h0 := h.ok.f0
  have h1 := h.ok.f1
  clear h hL
  cases hd : s.dn with
  | true =>
    rw [hd] at k3
    have e1 : Hid (syncE s = 303 ∧ syncS s = s) := by simp [Hid, syncE, syncS, hd]
    clear hd
    go_enter Try.func15, Try.ntmps15
    go_wp2_with fail
    go_ret
    rw [e1.out.1, e1.out.2]
    exact ⟨rfl, r, H.out, Step.same (Below.refl _ _)⟩
  | false =>
    rw [hd] at k3
    have Hd := Lib.hid hd
    clear hd
    by_cases hf : s.f = 1
    · have Hf := Lib.hid hf
      have hb : decide (s.f = 1) = true := by simpa using hf
      have e1 : Hid (syncE s = 303 ∧ syncS s = s.cut) := by simp [Hid, syncE, syncS, Hd.out, hf]
      clear hf
      go_enter Try.func15, Try.ntmps15
      go_wp2_with (go_at_call 51; refine (burn_any p _ _ _ s.dn s.f _ H.out.dev.cells h0 h1).mono ?_; rintro e w1 ⟨he, hc1, hg1, hz1⟩; rw [hb] at he; subst he; have C1 := Lib.hid hc1; have G1 := Lib.hid hg1; clear hc1 hg1 hz1)
      go_ret
      rw [e1.out.1, e1.out.2]
      have hc := C1.out
      rw [show burnD s.dn s.f = true by simp [burnD, Hf.out], show burnF s.f = 0 by simp [burnF, Hf.out]] at hc
      exact ⟨rfl, r, ⟨H.out.dev.cell G1.out hc, H.out.ok.cut⟩, Step.cell G1.out⟩
    · have Hf := Lib.hid hf
      have hb : decide (s.f = 1) = false := by simpa using hf
      have e1 : Hid (syncE s = 0 ∧ syncS s = ⟨s.now, [], false, burnF s.f⟩) := by simp [Hid, syncE, syncS, Hd.out, hf]
      have e2 : Hid (burnD s.dn s.f = false) := by rw [Hid]; simp [burnD, Hd.out, hf]
      clear hf
      cases hL0 : r.L with
      | nil =>
        have Hn := Lib.hid hL0
        have Hp : Hid (∀ (w1 : World), DevN w1 p r { s with dn := burnD s.dn s.f, f := burnF s.f } s.now → DV w1 p r ⟨s.now, [], false, burnF s.f⟩) := fun w1 h1 => by
          have hops : s.ops = [] := by rw [← H.out.dev.sO, Hn.out]; rfl
          have hnow : s.now = s.K := by rw [St.now, hops]; rfl
          refine ⟨?_, H.out.ok.sync⟩
          rw [hnow] at h1 ⊢
          exact ⟨by rw [← e2.out]; exact h1.cells, h1.kept, h1.now, h1.two, h1.pend, h1.ops, h1.safe, h1.sK, by rw [h1.sO]; exact hops, h1.sN⟩
        clear hL0
        go_enter Try.func15, Try.ntmps15
        go_wp2_with (go_at_call 51; refine (burn_any p _ _ _ s.dn s.f _ H.out.dev.cells h0 h1).mono ?_; rintro e w1 ⟨he, hc1, hg1, hz1⟩; rw [hb] at he; subst he; have C1 := Lib.hid hc1; have G1 := Lib.hid hg1; have k2 : w1.cell? ⟨p, 2, none⟩ = some (.slice r.A 0 r.c) := (by rw [hc1.cell]; show some (Value.slice r.A r.L.length r.c) = _; rw [Hn.out]; rfl); clear hc1 hg1 hz1)
        go_ret
        rw [e1.out.1, e1.out.2]
        exact ⟨rfl, r, Hp.out _ (H.out.dev.cell G1.out C1.out), Step.cell G1.out⟩
      | cons x L =>
        have hpos : 0 < r.L.length := by rw [hL0]; simp
        clear hL0
        go_enter Try.func15, Try.ntmps15
        go_wp2_with (first
          | (go_at_call 51; refine (burn_any p _ _ _ s.dn s.f _ H.out.dev.cells h0 h1).mono ?_; rintro e w1 ⟨he, hc1, hg1, hz1⟩; rw [hb] at he; subst he; have C1 := Lib.hid hc1; have D1 := Lib.hid (H.out.dev.cell hg1 hc1); have G1 := Lib.hid hg1; have k2 : w1.cell? ⟨p, 2, none⟩ = some (.slice r.A r.L.length r.c) := (hc1.cell 2).trans rfl; have k1 : w1.cell? ⟨p, 1, none⟩ = some (.map (some r.nb)) := (hc1.cell 1).trans rfl; clear hc1 hg1 hz1)
          | (go_at_call 52; refine (mapsClone_any r.nb r.EN _ D1.out.now).mono ?_; rintro e w2 ⟨rfl, hf2, hb2, hz2⟩; have F2 := Lib.hid hf2; have B2 := Lib.hid hb2; have C2 := Lib.hid (C1.out.on hb2); have j0 : w2.frozen? ⟨p, 0, none⟩ = false := (C1.out.on hb2).frozen 0; have j2 : w2.frozen? ⟨p, 2, none⟩ = false := (C1.out.on hb2).frozen 2; have i0 : w2.cell? ⟨p, 0, none⟩ = some (.map (some r.kb)) := ((C1.out.on hb2).cell 0).trans rfl; have i2 : w2.cell? ⟨p, 2, none⟩ = some (.slice r.A r.L.length r.c) := ((C1.out.on hb2).cell 2).trans rfl; clear hf2 hb2 hz2))
        go_ret
        rw [e1.out.1, e1.out.2]
        have hcc := (C2.out.set_ 0 (.map (some w1.heap.size))).set_ 2 (.slice none 0 0)
        have hg2 : w2.grownBy ((w2.setCell ⟨p, 0, none⟩ (.map (some w1.heap.size))).setCell ⟨p, 2, none⟩ (.slice none 0 0)) (some p) := g_trans (g_set (p := ⟨p, 0, none⟩) (g_refl _ _) (.inl rfl) _) (g_set (p := ⟨p, 2, none⟩) (g_refl _ _) (.inl rfl) _)
        have hfk := (F2.out.setp (i := 0) C2.out (by decide) (.map (some w1.heap.size))).setp (i := 2) (C2.out.set_ 0 (.map (some w1.heap.size))) (by decide) (.slice none 0 0)
        have hfn := ((D1.out.now.on B2.out).setp (i := 0) C2.out (by decide) (.map (some w1.heap.size))).setp (i := 2) (C2.out.set_ 0 (.map (some w1.heap.size))) (by decide) (.slice none 0 0)
        refine ⟨rfl, ⟨w1.heap.size, r.nb, r.EN, r.EN, none, 0, []⟩, ⟨dev_mk ?_ hfk hfn (fun e => ?_) D1.out.now.safe D1.out.sN D1.out.sN, H.out.ok.sync⟩, ⟨?_, ?_, Roomy.refl _ _, fun d' hd' => .inr (From.old ?_)⟩⟩
        · rw [e2.out] at hcc
          exact hcc
        · have := D1.out.now.1.lt
          omega
        · exact Ch.then (Ch.ones (Below.refl _ _) G1.out (.inl rfl)) (Ch.ones B2.out hg2 (.inl rfl))
        · rintro i (rfl | rfl | rfl | e)
          · exact .inl (.inl rfl)
          · exact .inr G1.out.size
          · exact .inl (.inr (.inr (.inl rfl)))
          · simp [Value.ownBlock] at e
        · rcases hd' with h | h | ⟨y, hy, _⟩
          · exact .inr (.inl h)
          · exact .inr (.inl h)
          · cases hy
end Go.Proofs.Ytddjkkmdcdiofaa
