/- Contracts: do. -/
import Derived.Test.YtddjkkmdcdiofaaGR
import Derived.StillTailTactics
import Derived.Test.YtddjkkmdcdiofaaAS
import Derived.Deep.RegionLaw
namespace Go.Proofs.Ytddjkkmdcdiofaa
open Go.RowKit Go.MapKept Go.ChangeMaps

/-- A device with an operation done. -/
def St.did (s : St) (o : POp) : St := { s with ops := s.ops ++ [o], dn := burnD s.dn s.f, f := burnF s.f }
def St.cut (s : St) : St := { s with dn := true, f := 0 }
def DoPost (p : Nat) (r : Rp) (s : St) (o : POp) (d : BD) (w : World) (e : Ending) (w' : World) : Prop :=
  (s.f = 1 ∧ e = .returned (.int .i64 303) ∧ Dev w' p r s.cut ∧ Step w w' p r r) ∨ (s.f ≠ 1 ∧ e = .returned (.int .i64 0) ∧ ∃ r', Dev w' p r' (s.did o) ∧ StepX (· = d) w w' p r r')
theorem Ch.ones {w w1 w' : World} {p : Nat} {M : Nat → Prop} {G : List (Nat × Nat)} (hb : Below w.heap.size w w1) (hg : w1.grownBy w' (some p)) (hM : M p) : Ch w w' M G :=
  Ch.after hb ⟨hg.os, hg.tape, hg.output, hg.size, fun i hi hm _ => hg.block i hi (fun e => hm (by injection e with e; rw [e]; exact hM)), fun q _ hm cur hc => ⟨cur, hc.grown hg (fun e => hm (by injection e with e; rw [e]; exact hM)), rfl, fun _ _ => rfl⟩⟩
theorem call_kd (k : Kd) (args : Array Value) (W : World) : Sem.run Try.prog (callFunc k.fn args) W = .ok (.enter k.fn args) W := by
  cases k <;> kernel_rfl
theorem IsB.on_drew {w : World} {g : Nat} {t : TypeId} {cs : Array Value} (h : IsB w g t cs) : IsB w.drew g t cs := h
theorem IsB.ch88 {w w' : World} {g b : Nat} {cs : Array Value} {E : Files} (h : IsB w g 88 cs) (hm : FM w b E) (hc : Ch w w' (fun i => i = b) (rooms E)) : IsB w' g 88 cs := by
  refine (hc.block g h.lt (fun e => is_map hm.1 (by rw [← e]; exact h)) (fun q hq e => ?_)).trans h
  obtain ⟨cur, hcur⟩ := rooms_byte hm hq
  rw [e] at hcur
  exact absurd (IsB.type hcur h) (by decide)
theorem DevN.keeps {w w' : World} {p : Nat} {r : Rp} {s : St} {N : FF} {E' : Files} (h : DevN w p r s N) (hc : Ch w w' (fun i => i = r.nb) (rooms r.EN)) (hs : Succ r.EN E' w.heap.size) {d : BD} {bs : List UInt8} (hr : RB w d bs) (hsf : Safe r.EN d) : RB w' d bs ∧ Safe E' d :=
  ⟨hr.ch hc (fun g hg e => RB.ne_map h.now.1 hr (by rw [hg, e])) (fun q hq hbq => hsf q hq hbq), hsf.next hs (fun _ hg => hr.lt hg)⟩
theorem info88 : (Try.prog.info? 88).map (fun i => (i.zero, i.size, i.bytes)) = some (some (.agg #[.nilFunc, .string ByteArray.empty, .string ByteArray.empty, .slice none 0 0, .bool false]), 5, 72) := by kernel_rfl
theorem own_on {w w' : World} {e : TypeId} {size n : Nat} {v : Value} {xs : List Value} (h : w.ownsRow 0 e size v n xs) (hb : Below w.heap.size w w') : w'.ownsRow 0 e size v n xs := own_ch h (Ch.below hb (fun _ => False) []) (fun _ _ => ⟨fun h => h, by simp⟩)
theorem op_one (k : Kd) (nm to : ByteArray) (d : BD) (t : Bool) : ∀ u ∈ [vFn k, Value.string nm, .string to, .slice d.A d.len d.cap, .bool t], u.oneCell' = true := by
  intro u hu
  simp at hu
  rcases hu with rfl | rfl | rfl | rfl | rfl <;> rfl
theorem bel_drew {B : Nat} {w w' : World} (h : Below B w w') : Below B w w'.drew := ⟨h.os, h.tape, h.output, h.size, h.block⟩
theorem new_lit_drew (w : World) (t : TypeId) (cs : List Value) (j : Nat) {u : Value} (hu : cs[j]? = some u) : (w.alloc (.cells cs.toArray t)).drew.cell? ((⟨w.heap.size, 0, none⟩ : Addr).add j) = some u := by
  rw [lit_add, Nat.zero_add]
  exact (new_cell w t cs.toArray _ rfl j).trans (by simpa using hu)
theorem Roomy.low {G G' : List (Nat × Nat)} {H H' : Nat} (h : Roomy G G' H') (hH : H ≤ H') : Roomy G G' H := fun q hq => (h q hq).imp (fun h => Nat.le_trans hH h) id
theorem Ch.wider {w w' : World} {M M' : Nat → Prop} {G : List (Nat × Nat)} (h : Ch w w' M G) (hM : ∀ i, M i → M' i) : Ch w w' M' G := ⟨h.os, h.tape, h.output, h.size, fun i hi hm hg => h.block i hi (fun hh => hm (hM i hh)) hg, fun p hp hm => h.bytes p hp (fun hh => hm (hM _ hh))⟩
theorem Ch.nog {w w' : World} {M : Nat → Prop} {G : List (Nat × Nat)} (h : Ch w w' M []) : Ch w w' M G := h.mono (fun _ h => h) (by simp) (by simp)
theorem RB.grown_ {w w' : World} {row : Option Nat} {d : BD} {bs : List UInt8} (h : RB w d bs) (hg : w.grownBy w' row) (hne : ¬ ∃ g, blk d = some g ∧ some g = row) : RB w' d bs := by
  obtain ⟨h1, h2, h3, h4⟩ := h
  refine ⟨h1, h2, h3, fun ad e => ?_⟩
  obtain ⟨g, cur, rfl, hb, hs, hcur⟩ := h4 ad e
  exact ⟨g, cur, rfl, hb.grown hg (fun e2 => hne ⟨g, by simp [blk, e], e2⟩), hs, hcur⟩
/-- A device with an operation behind the pending ones. -/
theorem DevN.push {w w1 w2 : World} {p : Nat} {r : Rp} {s : St} {N : FF} {o : POp} {d : BD} {A : Option Addr} {c : Nat} (h : DevN w p r s N) (hb : Below w.heap.size w w1)
    (ho : w2.ownsRow 0 88 5 (.slice A (r.L.length + 1) c) (r.L.length + 1) (r.L.flatMap encO ++ encO (o, d))) (hg : w1.grownBy w2 r.row.ownBlock)
    (hq : (Value.slice A (r.L.length + 1) c).ownBlock = r.row.ownBlock ∨ (Value.slice A (r.L.length + 1) c).ownBlock = some w1.heap.size) (hd : RB w d o.bs) (hs : Safe r.EN d) :
    DevN (w2.setCell ⟨p, 2, none⟩ (.slice A (r.L.length + 1) c)) p { r with A := A, c := c, L := r.L ++ [(o, d)] } { s with ops := s.ops ++ [o] } N ∧
    Ch w (w2.setCell ⟨p, 2, none⟩ (.slice A (r.L.length + 1) c)) (r.own p) [] ∧
    ∀ i, Rp.own { r with A := A, c := c, L := r.L ++ [(o, d)] } p i → r.own p i ∨ w.heap.size ≤ i := by
  have D1 := h.on hb
  have hrp : some p ≠ r.row.ownBlock := fun e => by
    obtain ⟨cur, hcur⟩ := row_is D1.pend e
    exact absurd (IsB.type hcur D1.cells) (by decide)
  have gset : w2.grownBy (w2.setCell ⟨p, 2, none⟩ (.slice A (r.L.length + 1) c)) (some p) := g_set (p := ⟨p, 2, none⟩) (g_refl _ _) (.inl rfl) _
  have C2 : IsB w2 p 81 (vD (.map (some r.kb)) (.map (some r.nb)) r.row s.dn s.f) := D1.cells.grown hg hrp
  have hmap : ∀ {b : Nat} {E : Files}, FM w1 b E → FM (w2.setCell ⟨p, 2, none⟩ (.slice A (r.L.length + 1) c)) b E := fun {b E} hf => by
    have h1 : FM w2 b E := hf.kept (hg.block b hf.1.lt (fun e => by
      obtain ⟨cur, hcur⟩ := row_is D1.pend e
      exact is_map hf.1 hcur)) (fun e he hr => hr.grown_ hg (fun hh => by
      obtain ⟨g, hg1, hg2⟩ := hh
      obtain ⟨cur, hcur⟩ := row_is D1.pend hg2
      exact RB.ne_cell hcur (by decide) hr hg1))
    exact h1.kept (gset.block b h1.1.lt (fun e => by injection e with e; subst e; exact is_map h1.1 C2)) (fun e he hr => hr.grown gset (RB.ne_cell C2 (by decide) hr))
  have hrd : ∀ {d : BD} {bs : List UInt8}, RB w1 d bs → RB (w2.setCell ⟨p, 2, none⟩ (.slice A (r.L.length + 1) c)) d bs := fun {d bs} hr => by
    have h1 : RB w2 d bs := hr.grown_ hg (fun hh => by
      obtain ⟨g, hg1, hg2⟩ := hh
      obtain ⟨cur, hcur⟩ := row_is D1.pend hg2
      exact RB.ne_cell hcur (by decide) hr hg1)
    exact h1.grown gset (RB.ne_cell C2 (by decide) h1)
  have hnp : some p ≠ (Value.slice A (r.L.length + 1) c).ownBlock := fun e => by
    rcases hq with hq | hq
    · exact hrp (by rw [← hq]; exact e)
    · rw [hq] at e
      injection e with e
      have := D1.cells.lt
      omega
  refine ⟨?_, ?_, ?_⟩
  · exact {
      cells := by
        have := C2.set_ 2 (.slice A (r.L.length + 1) c)
        simpa [Rp.row] using this
      kept := hmap D1.kept
      now := hmap D1.now
      two := h.two
      pend := by
        have := own_set (p := ⟨p, 2, none⟩) ho hnp (.slice A (r.L.length + 1) c)
        simpa [Rp.row] using this
      ops := fun x hx => by
        rcases List.mem_append.1 hx with hx | hx
        · exact ⟨hrd (D1.ops x hx).1, (D1.ops x hx).2⟩
        · simp at hx
          subst hx
          exact ⟨hrd (hd.on hb), hs⟩
      safe := h.safe
      sK := h.sK
      sO := by simp [h.sO]
      sN := h.sN }
  · refine Ch.then (w1 := w1) (Ch.below hb _ _) (Ch.then (w1 := w2) ?_ ?_)
    · exact ⟨hg.os, hg.tape, hg.output, hg.size, fun i hi hm _ => hg.block i hi (fun e => hm (.inr (.inr (.inr e)))), by simp⟩
    · exact ⟨gset.os, gset.tape, gset.output, gset.size, fun i hi hm _ => gset.block i hi (fun e => hm (.inl (by injection e))), by simp⟩
  · rintro i (rfl | rfl | rfl | e)
    · exact .inl (.inl rfl)
    · exact .inl (.inr (.inl rfl))
    · exact .inl (.inr (.inr (.inl rfl)))
    · have e' : some i = (Value.slice A (r.L.length + 1) c).ownBlock := by simpa [Rp.row] using e
      rcases hq with hq | hq
      · exact .inl (.inr (.inr (.inr (by rw [← hq]; exact e'))))
      · rw [hq] at e'
        injection e' with e'
        have := hb.size
        exact .inr (by omega)
theorem Roomy.refl (G : List (Nat × Nat)) (H : Nat) : Roomy G G H := fun q hq => .inr ⟨q, hq, rfl, Nat.le_refl _⟩
set_option maxRecDepth 100000 in
set_option maxHeartbeats 4000000 in
theorem do_any (p : Nat) (r : Rp) (s : St) (o : POp) (d : BD) (w : World) (h : Dev w p r s) (hn : okS o.nm) (ht : okS o.to) (hd : RB w d o.bs) (hs : Safe r.EN d) (h0 : 0 ≤ s.f) (h1 : s.f ≤ 9223372036854775807) (hL : r.L.length ≤ 1000000)
    (hl : ((s.now o.nm).getD []).length + o.bs.length ≤ 1099511627776) :
    Calls Try.prog 48 #[.pointer (some ⟨p, 0, none⟩), vOp (vFn o.k) o.nm o.to d o.tears] w (DoPost p r s o d w) := by
  obtain ⟨k, nm, to, bs, tears⟩ := o
  have H := Lib.hid h
  have HW : Hid (Dev (w.alloc (.cells #[vFn k, .string nm, .string to, .slice d.A d.len d.cap, .bool tears] 88)) p r s) := h.on (bel1 _ _)
  clear h
  by_cases hf : s.f = 1
  · have Hf := Lib.hid hf
    have hb : decide (s.f = 1) = true := by simpa using hf
    go_enter Try.func48, Try.ntmps48
    go_wp2_with (go_at_call 51; refine (burn_any p _ _ _ s.dn s.f _ HW.out.cells h0 h1).mono ?_; rintro e w1 ⟨he, hc1, hg1, hz1⟩; rw [hb] at he; subst he; have C1 := Lib.hid hc1; have G1 := Lib.hid hg1; clear hc1 hg1 hz1)
    go_ret
    have e1 : burnD s.dn s.f = true := by simp [burnD, Hf.out]
    have e2 : burnF s.f = 0 := by simp [burnF, Hf.out]
    have hc := C1.out
    rw [e1, e2] at hc
    exact .inl ⟨Hf.out, rfl, HW.out.cell G1.out hc, ⟨Ch.ones (bel1 _ _) G1.out (.inl rfl), fun i hi => .inl hi, Roomy.refl _ _, fun _ hd => .inr (From.old hd)⟩⟩
  · have Hf := Lib.hid hf
    have hb : decide (s.f = 1) = false := by simpa using hf
    have Hd := Lib.hid hd
    have Hs := Lib.hid hs
    have Hn := Lib.hid hn
    have Ht := Lib.hid ht
    have Hl := Lib.hid hl
    clear hd hs hn ht hl
    have Box : Hid (IsB (w.alloc (.cells #[vFn k, .string nm, .string to, .slice d.A d.len d.cap, .bool tears] 88)) w.heap.size 88 #[vFn k, .string nm, .string to, .slice d.A d.len d.cap, .bool tears]) := IsB.new _ _ _
    have hBp : w.heap.size ≠ p := IsB.ne_ Box.out HW.out.cells (by decide)
    go_enter Try.func48, Try.ntmps48
    go_wp2_with (go_at_call 51; refine (burn_any p _ _ _ s.dn s.f _ HW.out.cells h0 h1).mono ?_; rintro e w1 ⟨he, hc1, hg1, hz1⟩; rw [hb] at he; subst he; have D1 := Lib.hid (HW.out.cell hg1 hc1); have C1 := Lib.hid hc1; have G1 := Lib.hid hg1; have B1 := Lib.hid (Box.out.grown hg1 (fun e => hBp (by injection e))); clear hc1 hg1 hz1)
    have k0 : w1.cell? ⟨w.heap.size, 0, none⟩ = some (vFn k) := by rw [B1.out.cell]; rfl
    have k1 : w1.cell? ⟨w.heap.size, 1, none⟩ = some (.string nm) := by rw [B1.out.cell]; rfl
    have k2 : w1.cell? ⟨w.heap.size, 2, none⟩ = some (.string to) := by rw [B1.out.cell]; rfl
    have k3 : w1.cell? ⟨w.heap.size, 3, none⟩ = some (.slice d.A d.len d.cap) := by rw [B1.out.cell]; rfl
    have k4 : w1.cell? ⟨w.heap.size, 4, none⟩ = some (.bool tears) := by rw [B1.out.cell]; rfl
    have k5 : w1.cell? ⟨p, 1, none⟩ = some (.map (some r.nb)) := by rw [C1.out.cell]; rfl
    have k6 : w1.cell? ⟨p, 2, none⟩ = some r.row := by rw [C1.out.cell]; rfl
    go_still_tail 7, (by kernel_rfl)
    have hcf := call_kd k
    go_wp2_with fail
    clear hcf
    have DD : Hid (DevN w1.drew p r { s with dn := burnD s.dn s.f, f := burnF s.f } s.now) := D1.out.on (Below.refl _ _).drew
    have Hd1 : Hid (RB w1.drew d bs) := ((Hd.out.on (bel1 _ _)).grown G1.out (RB.ne_cell HW.out.cells (by decide) (Hd.out.on (bel1 _ _)))).on (Below.refl _ _).drew
    refine (op_any r.nb r.EN (vFn k) ⟨k, nm, to, bs, tears⟩ d w1.drew DD.out.now Hn.out Ht.out Hd1.out (by rw [DD.out.sN]; exact Hl.out)).mono ?_
    rintro e w2 ⟨rfl, E', hf2, ha2, hs2, hc2⟩
    have D2 : Hid (DevN w2 p { r with EN := E' } { s with dn := burnD s.dn s.f, f := burnF s.f } (applyF s.now ⟨k, nm, to, bs, tears⟩)) := DD.out.op hc2 hf2 hs2 (fun n => by rw [ha2 n]; congr 1; funext m; exact DD.out.sN m)
    have B2 : Hid (IsB w2 w.heap.size 88 #[vFn k, .string nm, .string to, .slice d.A d.len d.cap, .bool tears]) := IsB.ch88 B1.out.on_drew DD.out.now hc2
    have Hd2 : Hid (RB w2 d bs ∧ Safe E' d) := DD.out.keeps hc2 hs2 Hd1.out Hs.out
    have C2 := Lib.hid hc2
    have S2 := Lib.hid hs2
    clear hf2 ha2 hs2 hc2 k0 k1 k2 k3 k4 k5 k6
    have k0 : w2.cell? ⟨w.heap.size, 0, none⟩ = some (vFn k) := by rw [B2.out.cell]; rfl
    have k1 : w2.cell? ⟨w.heap.size, 1, none⟩ = some (.string nm) := by rw [B2.out.cell]; rfl
    have k2 : w2.cell? ⟨w.heap.size, 2, none⟩ = some (.string to) := by rw [B2.out.cell]; rfl
    have k3 : w2.cell? ⟨w.heap.size, 3, none⟩ = some (.slice d.A d.len d.cap) := by rw [B2.out.cell]; rfl
    have k4 : w2.cell? ⟨w.heap.size, 4, none⟩ = some (.bool tears) := by rw [B2.out.cell]; rfl
    have k6 : w2.cell? ⟨p, 2, none⟩ = some r.row := by rw [D2.out.cells.cell]; rfl
    have k7 : w2.frozen? ⟨p, 2, none⟩ = false := D2.out.cells.frozen 2
    go_wp2_with fail
    obtain ⟨i0, hi, hz0, hz1, hz2⟩ := info_parts info88
    have hrl : ∀ i, some i = r.row.ownBlock → i < w.heap.size := fun i hi => by
      obtain ⟨cur, hcur⟩ := row_is H.out.pend hi
      exact hcur.lt
    have hrp : some p ≠ r.row.ownBlock := fun e => by
      obtain ⟨cur, hcur⟩ := row_is D2.out.pend e
      exact absurd (IsB.type hcur D2.out.cells) (by decide)
    have Hrl := Lib.hid hrl
    have Hrp := Lib.hid hrp
    clear hrl hrp
    have hpl := D2.out.cells.lt
    go_region_law (refine step_append_row (by rfl) (.tmp 19) (.tmp 21) 79 (by rfl) 88 i0 _ 5 72 Try.underlying79 hi hz0 hz1 hz2 rfl (by omega) r.row r.L.length (r.L.flatMap encO) (by rfl) (own_on D2.out.pend (bel_drew (bel1 _ _))) ⟨w2.heap.size, 0, none⟩ 1 1 [vFn k, .string nm, .string to, .slice d.A d.len d.cap, .bool tears] (by rfl) (by rfl) (fun j u hu => new_lit_drew _ _ _ _ hu) (op_one _ _ _ _ _) (by omega) (by unfold maxLen; omega) (by omega) ?_; intro v3 w3 ho3 hg3 hq3; obtain ⟨A3, c3, rfl⟩ := own_slice ho3; have HO3 := Lib.hid ho3; have HG3 := Lib.hid hg3; have HQ3 := Lib.hid hq3; have C3 : Hid (IsB w3 p 81 (vD (.map (some r.kb)) (.map (some r.nb)) r.row (burnD s.dn s.f) (burnF s.f))) := (D2.out.cells.on (bel_drew (bel1 _ _))).grown hg3 Hrp.out; have j6 : w3.cell? ⟨p, 2, none⟩ = some r.row := (C3.out.cell 2).trans rfl; have j7 : w3.frozen? ⟨p, 2, none⟩ = false := C3.out.frozen 2; clear ho3 hg3 hq3)
    all_goals (
      go_wp2_with fail
      go_ret
      obtain ⟨E1, E2, E3⟩ := D2.out.push (o := ⟨k, nm, to, bs, tears⟩) (d := d) (bel_drew (bel1 _ _)) HO3.out HG3.out HQ3.out Hd2.out.1 Hd2.out.2
      have hch : Ch w w2 (r.own p) (rooms r.EN) := Ch.then (Ch.ones (bel1 _ _) G1.out (.inl rfl)) (Ch.after (Below.refl _ _).drew (Ch.wider C2.out (fun i e => .inr (.inr (.inl e)))))
      refine .inr ⟨Hf.out, rfl, { r with EN := E', A := A3, c := c3, L := r.L ++ [(⟨k, nm, to, bs, tears⟩, d)] }, ?_, ⟨Ch.then hch (Ch.nog E2), fun i hi => ?_, ?_, fun d' hd' => ?_⟩⟩
      · have : St.now (s.did ⟨k, nm, to, bs, tears⟩) = applyF s.now ⟨k, nm, to, bs, tears⟩ := by simp [St.now, St.did]
        show DevN _ p _ _ _
        rw [this]
        exact E1
      · rcases E3 i hi with h | h
        · exact .inl h
        · exact .inr (Nat.le_trans (Nat.le_trans (by have := (bel1 w (.cells #[vFn k, .string nm, .string to, .slice d.A d.len d.cap, .bool tears] 88)).size; exact this) (Nat.le_trans G1.out.size C2.out.size)) h)
      · refine (S2.out.roomy).low ?_
        exact Nat.le_trans (bel1 w (.cells #[vFn k, .string nm, .string to, .slice d.A d.len d.cap, .bool tears] 88)).size G1.out.size
      · rcases hd' with h | ⟨e, he, rfl⟩ | ⟨y, hy, rfl⟩
        · exact .inr (From.old (.inl h))
        · exact .inr ((From.en S2.out D2.out.now he).low (Nat.le_trans (bel1 w (.cells #[vFn k, .string nm, .string to, .slice d.A d.len d.cap, .bool tears] 88)).size G1.out.size))
        · rcases List.mem_append.1 hy with hy | hy
          · exact .inr (From.old (.inr (.inr ⟨y, hy, rfl⟩)))
          · simp at hy
            subst hy
            exact .inl rfl)
end Go.Proofs.Ytddjkkmdcdiofaa
