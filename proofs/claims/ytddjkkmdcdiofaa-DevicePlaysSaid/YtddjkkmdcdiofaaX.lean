/- Contracts: New, Pending, Down, Fuse, Sync. -/
import Derived.Test.YtddjkkmdcdiofaaW
namespace Go.Proofs.Ytddjkkmdcdiofaa
open Go.RowKit Go.MapKept Go.ChangeMaps

/-- A device without pending operations. -/
theorem dev_mk {w : World} {p kb nb : Nat} {EK EN : Files} {dn : Bool} {f : Int} {K : FF} (hc : IsB w p 81 (vD (.map (some kb)) (.map (some nb)) (.slice none 0 0) dn f)) (hk : FM w kb EK) (hn : FM w nb EN) (hne : kb ≠ nb) (hs : ∀ e ∈ EK, Safe EN e.2.1)
    (h1 : ∀ n, asc (plain EK) n = K n) (h2 : ∀ n, asc (plain EN) n = K n) : Dev w p ⟨kb, nb, EK, EN, none, 0, []⟩ ⟨K, [], dn, f⟩ where
  cells := hc
  kept := hk
  now := hn
  two := hne
  pend := World.ownsRow_nil _ _ _ _
  ops := by simp
  safe := hs
  sK := h1
  sO := rfl
  sN := h2
theorem FM.safe {w : World} {b : Nat} {E : Files} (h : FM w b E) : ∀ e ∈ E, Safe E e.2.1 := by
  intro e he q hq hb
  obtain ⟨c, hc, c1, c2, _⟩ := mem_rooms.1 hq
  have := FM.own h.2.2 hc he c1 hb
  subst this
  omega
theorem FM.setp {w : World} {b p i : Nat} {E : Files} {t : TypeId} {cs : Array Value} (h : FM w b E) (hp : IsB w p t cs) (ht : t ≠ 5) (u : Value) : FM (w.setCell ⟨p, i, none⟩ u) b E := by
  have hg : w.grownBy (w.setCell ⟨p, i, none⟩ u) (some p) := g_set (p := ⟨p, i, none⟩) (g_refl _ _) (.inl rfl) _
  exact h.kept (hg.block b h.1.lt (fun e => by injection e with e; subst e; exact is_map h.1 hp)) (fun e he hr => hr.grown hg (RB.ne_cell hp ht hr))
theorem Ok.none {K : FF} {dn : Bool} {f : Int} (h : Small K) (h0 : 0 ≤ f) (h1 : f ≤ 9223372036854775807) : Ok ⟨K, [], dn, f⟩ := ⟨h0, h1, fun k => by simpa using h, by simp⟩
def St.new : St := ⟨fun _ => none, [], false, 0⟩
theorem Small.none : Small (fun _ => none) := ⟨by simp, 0, by omega, [], by simp, by simp, rfl⟩
/-- All that is the device's lies from b on. -/
def Fresh (b p : Nat) (r : Rp) : Prop := (∀ i, r.own p i → b ≤ i) ∧ ∀ q ∈ rooms r.EN, b ≤ q.1
theorem Step.below {b p : Nat} {r r' : Rp} {w w' : World} (h : Step w w' p r r') (hf : Fresh b p r) (hb : b ≤ w.heap.size) : Below b w w' ∧ Fresh b p r' := by
  refine ⟨⟨h.ch.os, h.ch.tape, h.ch.output, h.ch.size, fun i hi => h.ch.block i (by omega) (fun hm => by have := hf.1 i hm; omega) (fun q hq e => by have := hf.2 q hq; omega)⟩, fun i hi => ?_, fun q hq => ?_⟩
  · rcases h.own i hi with h1 | h1
    · exact hf.1 i h1
    · omega
  · rcases h.rooms q hq with h1 | ⟨q0, h1, h2, _⟩
    · omega
    · rw [← h2]; exact hf.2 q0 h1
/-- A reader whom the device does not hurt. -/
def Prot (w : World) (r : Rp) (x : BD × List UInt8) : Prop := RB w x.1 x.2 ∧ Safe r.EN x.1
theorem DV.not_own {w : World} {p : Nat} {r : Rp} {s : St} (h : DV w p r s) {d : BD} {bs : List UInt8} (hr : RB w d bs) {g : Nat} (hg : blk d = some g) : ¬ r.own p g := by
  rintro (rfl | rfl | rfl | e)
  · exact RB.ne_cell h.dev.cells (by decide) hr hg
  · exact RB.ne_map h.dev.kept.1 hr hg
  · exact RB.ne_map h.dev.now.1 hr hg
  · obtain ⟨cur, hcur⟩ := row_is h.dev.pend e
    exact RB.ne_cell hcur (by decide) hr hg
theorem Prot.step {w w' : World} {p : Nat} {r r' : Rp} {s : St} {x : BD × List UInt8} (h : Prot w r x) (hd : DV w p r s) (hs : Step w w' p r r') : Prot w' r' x := by
  refine ⟨h.1.ch hs.ch (fun g hg => hd.not_own h.1 hg) (fun q hq hb => h.2 q hq hb), fun q hq hb => ?_⟩
  rcases hs.rooms q hq with h1 | ⟨q0, h1, h2, h3⟩
  · have := h.1.lt hb
    omega
  · have := h.2 q0 h1 (by rw [h2]; exact hb)
    omega
/-- A device that lies from b on, and readers whom it does not hurt. -/
def LDev (b : Nat) (w : World) (p : Nat) (s : St) (R : List (BD × List UInt8) := []) : Prop := b ≤ w.heap.size ∧ ∃ r, DV w p r s ∧ Fresh b p r ∧ ∀ x ∈ R, Prot w r x
theorem LDev.on {b p : Nat} {w w' : World} {s : St} {R : List (BD × List UInt8)} (h : LDev b w p s R) (hb : Below w.heap.size w w') : LDev b w' p s R := by
  obtain ⟨h0, r, h1, h2, h3⟩ := h
  exact ⟨Nat.le_trans h0 hb.size, r, h1.on hb, h2, fun x hx => ⟨(h3 x hx).1.on hb, (h3 x hx).2⟩⟩
theorem LDev.step {b p : Nat} {w w' : World} {r r' : Rp} {s s0 : St} {R : List (BD × List UInt8)} (h0 : b ≤ w.heap.size) (hf : Fresh b p r) (hd : DV w p r s0) (hR : ∀ x ∈ R, Prot w r x) (h : DV w' p r' s) (hs : Step w w' p r r') : LDev b w' p s R ∧ Below b w w' := by
  obtain ⟨h1, h2⟩ := hs.below hf h0
  exact ⟨⟨Nat.le_trans h0 h1.size, r', h, h2, fun x hx => (hR x hx).step hd hs⟩, h1⟩
theorem LDev.rb {b p : Nat} {w : World} {s : St} {R : List (BD × List UInt8)} (h : LDev b w p s R) {d : BD} {bs : List UInt8} (hx : (d, bs) ∈ R) : RB w d bs := by
  obtain ⟨h0, r, h1, h2, h3⟩ := h
  exact (h3 _ hx).1
/-- One more reader, in new memory. -/
theorem LDev.add {b p : Nat} {w w' : World} {s : St} {R : List (BD × List UInt8)} (h : LDev b w p s R) (hb : Below w.heap.size w w') {d : BD} {bs : List UInt8} (hr : RB w' d bs) (hf : ∀ g, blk d = some g → w.heap.size ≤ g) : LDev b w' p s ((d, bs) :: R) := by
  obtain ⟨h0, r, h1, h2, h3⟩ := h
  refine ⟨Nat.le_trans h0 hb.size, r, h1.on hb, h2, fun x hx => ?_⟩
  rcases List.mem_cons.1 hx with rfl | hx
  · exact ⟨hr, safe_new h1.dev.now hf⟩
  · exact ⟨(h3 x hx).1.on hb, (h3 x hx).2⟩
set_option maxRecDepth 100000 in
set_option maxHeartbeats 2000000 in
theorem New_any (w : World) : Calls Try.prog 12 #[] w (fun e w' => e = .returned (.pointer (some ⟨w.heap.size + 2, 0, none⟩)) ∧ DV w' (w.heap.size + 2) ⟨w.heap.size, w.heap.size + 1, [], [], none, 0, []⟩ St.new ∧ Below w.heap.size w w') := by
  have hmm := @run_makeMap Try.prog
  go_enter Try.func12, Try.ntmps12
  go_wp2_with fail
  go_ret
  have b1 := bel1 w (.map #[] 0)
  have b2 := bel1 (w.alloc (.map #[] 0)) (.map #[] 0)
  have hs : ((w.alloc (.map #[] 0)).alloc (.map #[] 0)).heap.size = w.heap.size + 2 := by simp
  have hcells : IsB (((w.alloc (.map #[] 0)).alloc (.map #[] 0)).alloc (.cells (vD (.map (some w.heap.size)) (.map (some (w.heap.size + 1))) (.slice none 0 0) false 0) 81)) (w.heap.size + 2) 81 (vD (.map (some w.heap.size)) (.map (some (w.heap.size + 1))) (.slice none 0 0) false 0) := by
    have := IsB.new ((w.alloc (.map #[] 0)).alloc (.map #[] 0)) 81 (vD (.map (some w.heap.size)) (.map (some (w.heap.size + 1))) (.slice none 0 0) false 0)
    rwa [hs] at this
  have b3 := bel1 ((w.alloc (.map #[] 0)).alloc (.map #[] 0)) (.cells (vD (.map (some w.heap.size)) (.map (some (w.heap.size + 1))) (.slice none 0 0) false 0) 81)
  have k1 : FM (w.alloc (.map #[] 0)) w.heap.size [] := ⟨MapIs.made w, by simp, List.Pairwise.nil⟩
  have k2 : FM ((w.alloc (.map #[] 0)).alloc (.map #[] 0)) (w.heap.size + 1) [] := by
    have : FM ((w.alloc (.map #[] 0)).alloc (.map #[] 0)) (w.alloc (.map #[] 0)).heap.size [] := ⟨MapIs.made _, by simp, List.Pairwise.nil⟩
    simpa using this
  refine ⟨rfl, ⟨dev_mk hcells ((k1.on b2).on b3) (k2.on b3) (by omega) (by simp) (fun n => rfl) (fun n => rfl), Ok.none Small.none (by decide) (by decide)⟩, ?_⟩
  exact (b1.trans (b2.mono (by simp))).trans (b3.mono (by simp; omega))
theorem LDev.new {w w' : World} (h : DV w' (w.heap.size + 2) ⟨w.heap.size, w.heap.size + 1, [], [], none, 0, []⟩ St.new) (hb : Below w.heap.size w w') : LDev w.heap.size w' (w.heap.size + 2) St.new := by
  refine ⟨hb.size, _, h, ⟨fun i hi => ?_, by simp [rooms]⟩, by simp⟩
  rcases hi with rfl | rfl | rfl | e
  · omega
  · simp
  · simp
  · simp [Value.ownBlock] at e
set_option maxRecDepth 100000 in
theorem Pending_any (p : Nat) (r : Rp) (s : St) (w : World) (h : DV w p r s) (_hL : s.ops.length ≤ 1000000) : Calls Try.prog 27 #[.pointer (some ⟨p, 0, none⟩)] w (fun e w' => e = .returned (.int .i64 s.ops.length) ∧ w = w') := by
  have k2 : w.cell? ⟨p, 2, none⟩ = some (.slice r.A s.ops.length r.c) := by
    rw [← h.dev.sO, List.length_map]
    exact (h.dev.cells.cell 2).trans rfl
  clear h
  go_enter Try.func27, Try.ntmps27
  go_wp2_with fail
  go_ret
  exact ⟨rfl, rfl⟩
set_option maxRecDepth 100000 in
theorem Down_any (p : Nat) (r : Rp) (s : St) (w : World) (h : DV w p r s) : Calls Try.prog 26 #[.pointer (some ⟨p, 0, none⟩)] w (fun e w' => e = .returned (.bool s.dn) ∧ w = w') := by
  have k3 : w.cell? ⟨p, 3, none⟩ = some (.bool s.dn) := (h.dev.cells.cell 3).trans rfl
  clear h
  go_enter Try.func26, Try.ntmps26
  go_wp2_with fail
  go_ret
  exact ⟨rfl, rfl⟩
/-- What leaves a device in the state s'. -/
def Goes (p : Nat) (r : Rp) (s' : St) (v : Value) (w : World) (e : Ending) (w' : World) : Prop := e = .returned v ∧ ∃ r', DV w' p r' s' ∧ Step w w' p r r'
theorem Step.cell {w w' : World} {p : Nat} {r : Rp} (hg : w.grownBy w' (some p)) : Step w w' p r r := ⟨Ch.ones (Below.refl _ _) hg (.inl rfl), fun _ hi => .inl hi, Roomy.refl _ _, fun _ hd => .inr (From.old hd)⟩
set_option maxRecDepth 100000 in
set_option maxHeartbeats 2000000 in
theorem Fuse_any (p : Nat) (r : Rp) (s : St) (n : Int) (w : World) (h : DV w p r s) (hn : n ≤ 9223372036854775807) : Calls Try.prog 22 #[.pointer (some ⟨p, 0, none⟩), .int .i64 n] w (Goes p r { s with f := max n 0 } (.tuple #[]) w) := by
  have H := Lib.hid h
  have k4 : w.cell? ⟨p, 4, none⟩ = some (.int .i64 s.f) := (h.dev.cells.cell 4).trans rfl
  have f4 : w.frozen? ⟨p, 4, none⟩ = false := h.dev.cells.frozen 4
  clear h
  have fin : ∀ x : Int, Hid (max n 0 = x) → Hid (0 ≤ x ∧ x ≤ 9223372036854775807) → Goes p r { s with f := max n 0 } (.tuple #[]) w (.returned (.tuple #[])) (w.setCell ⟨p, 4, none⟩ (.int .i64 x)) := fun x hx hx2 => by
    have hg : w.grownBy (w.setCell ⟨p, 4, none⟩ (.int .i64 x)) (some p) := g_set (p := ⟨p, 4, none⟩) (g_refl _ _) (.inl rfl) _
    rw [hx.out]
    exact ⟨rfl, r, ⟨H.out.dev.cell (dn := s.dn) (f := x) hg (H.out.dev.cells.set_ 4 _), ⟨hx2.out.1, hx2.out.2, H.out.ok.pre, H.out.ok.ops⟩⟩, Step.cell hg⟩
  have Fin := Lib.hid fin
  clear fin
  by_cases h0 : n < 0
  · have e : Hid (max n 0 = 0) := by rw [Hid]; omega
    go_enter Try.func22, Try.ntmps22
    go_wp2_with fail
    go_end0
    exact Fin.out 0 e ⟨by omega, by omega⟩
  · have e : Hid (max n 0 = n) := by rw [Hid]; omega
    have h0' : 0 ≤ n := by omega
    go_enter Try.func22, Try.ntmps22
    go_wp2_with fail
    go_end0
    exact Fin.out n e ⟨by omega, by omega⟩
end Go.Proofs.Ytddjkkmdcdiofaa
