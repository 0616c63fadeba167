/- Devices side by side. -/
import Derived.Test.YtddjkkmdcdiofaaCP
import Derived.Test.YtddjkkmdcdiofaaTE
import Derived.Test.YtddjkkmdcdiofaaNA
namespace Go.Proofs.Ytddjkkmdcdiofaa
open Go.RowKit Go.MapKept Go.ChangeMaps

structure DvR where
  p : Nat
  r : Rp
  s : St
/-- Two devices that do not touch each other. -/
def Apt (x y : DvR) : Prop := (∀ i, x.r.own x.p i → ¬ y.r.own y.p i) ∧ (∀ q ∈ rooms x.r.EN, ∀ q' ∈ rooms y.r.EN, q.1 ≠ q'.1) ∧ (∀ d, x.r.reads d → Safe y.r.EN d) ∧ (∀ d, y.r.reads d → Safe x.r.EN d)
theorem Apt.symm {x y : DvR} (h : Apt x y) : Apt y x := ⟨fun i h1 h2 => h.1 i h2 h1, fun q hq q' hq' e => h.2.1 q' hq' q hq e.symm, h.2.2.2, h.2.2.1⟩
/-- Devices that lie from b on and do not touch each other, and readers whom they do not hurt. -/
def Devs (b : Nat) (w : World) (l : List (Nat × St)) (R : List (BD × List UInt8) := []) : Prop := b ≤ w.heap.size ∧ ∃ L : List DvR, L.map (fun x => (x.p, x.s)) = l ∧ (∀ x ∈ L, DV w x.p x.r x.s ∧ Fresh b x.p x.r) ∧ L.Pairwise Apt ∧ ∀ y ∈ R, RB w y.1 y.2 ∧ ∀ x ∈ L, Safe x.r.EN y.1
/-- Blocks of other types stay as they are. -/
def KB (w w' : World) : Prop := ∀ g t cs, t ≠ 5 → t ≠ 81 → t ≠ 88 → IsB w g t cs → IsB w' g t cs
theorem map_perm {α β : Type} (f : α → β) {m l' : List β} (hp : m.Perm l') : ∀ L : List α, L.map f = m → ∃ L' : List α, L'.map f = l' ∧ L.Perm L' := by
  induction hp with
  | nil => intro L h; exact ⟨L, h, List.Perm.refl _⟩
  | cons a _ ih =>
    intro L h
    cases L with
    | nil => cases h
    | cons x L =>
      simp only [List.map_cons, List.cons.injEq] at h
      obtain ⟨L', h1, h2⟩ := ih L h.2
      exact ⟨x :: L', by simp [h1, h.1], h2.cons x⟩
  | swap a b l =>
    intro L h
    match L, h with
    | x :: y :: L, h =>
      simp only [List.map_cons, List.cons.injEq] at h
      exact ⟨y :: x :: L, by simp [h.1, h.2.1, h.2.2], List.Perm.swap y x L⟩
  | trans _ _ ih1 ih2 =>
    intro L h
    obtain ⟨L1, h1, h2⟩ := ih1 L h
    obtain ⟨L2, h3, h4⟩ := ih2 L1 h1
    exact ⟨L2, h3, h2.trans h4⟩
theorem Devs.perm {b : Nat} {w : World} {l l' : List (Nat × St)} {R : List (BD × List UInt8)} (h : Devs b w l R) (hp : l.Perm l') : Devs b w l' R := by
  obtain ⟨h0, L, h1, h2, h3, h4⟩ := h
  obtain ⟨L', e, hp'⟩ := map_perm _ hp L h1
  exact ⟨h0, L', e, fun x hx => h2 x (hp'.mem_iff.2 hx), (hp'.pairwise_iff (fun h => Apt.symm h)).1 h3, fun y hy => ⟨(h4 y hy).1, fun x hx => (h4 y hy).2 x (hp'.mem_iff.2 hx)⟩⟩
theorem Devs.weak {b : Nat} {w : World} {l : List (Nat × St)} {R : List (BD × List UInt8)} (h : Devs b w l R) : Devs b w l := by
  obtain ⟨h0, L, h1, h2, h3, h4⟩ := h
  exact ⟨h0, L, h1, h2, h3, by simp⟩
theorem Devs.rb {b : Nat} {w : World} {l : List (Nat × St)} {R : List (BD × List UInt8)} (h : Devs b w l R) {d : BD} {bs : List UInt8} (hy : (d, bs) ∈ R) : RB w d bs := by
  obtain ⟨h0, L, h1, h2, h3, h4⟩ := h
  exact (h4 _ hy).1
theorem Devs.on {b : Nat} {w w' : World} {l : List (Nat × St)} {R : List (BD × List UInt8)} (h : Devs b w l R) (hb : Below w.heap.size w w') : Devs b w' l R := by
  obtain ⟨h0, L, h1, h2, h3, h4⟩ := h
  exact ⟨Nat.le_trans h0 hb.size, L, h1, fun x hx => ⟨(h2 x hx).1.on hb, (h2 x hx).2⟩, h3, fun y hy => ⟨(h4 y hy).1.on hb, (h4 y hy).2⟩⟩
theorem Devs.tape {b x N : Nat} {w w' : World} {l : List (Nat × St)} {R : List (BD × List UInt8)} (h : Devs b w l R) (ht : Tp w x N) (hg : w.grownBy w' (some x)) : Devs b w' l R := by
  obtain ⟨h0, L, h1, h2, h3, h4⟩ := h
  exact ⟨Nat.le_trans h0 hg.size, L, h1, fun y hy => ⟨(h2 y hy).1.tape ht hg, (h2 y hy).2⟩, h3, fun y hy => ⟨(h4 y hy).1.grown hg (rb_tape (h4 y hy).1 ht), (h4 y hy).2⟩⟩
/-- One more reader, from the tape, in new memory. -/
theorem Devs.tape_add {b x N : Nat} {w w' : World} {l : List (Nat × St)} {R : List (BD × List UInt8)} (h : Devs b w l R) (ht : Tp w x N) (hg : w.grownBy w' (some x)) {d : BD} {bs : List UInt8} (hr : RB w' d bs) (hf : ∀ g, blk d = some g → w.heap.size ≤ g) : Devs b w' l ((d, bs) :: R) := by
  obtain ⟨h0, L, h1, h2, h3, h4⟩ := h
  refine ⟨Nat.le_trans h0 hg.size, L, h1, fun y hy => ⟨(h2 y hy).1.tape ht hg, (h2 y hy).2⟩, h3, fun y hy => ?_⟩
  rcases List.mem_cons.1 hy with rfl | hy
  · exact ⟨hr, fun z hz => safe_new (h2 z hz).1.dev.now hf⟩
  · exact ⟨(h4 y hy).1.grown hg (rb_tape (h4 y hy).1 ht), (h4 y hy).2⟩
theorem Devs.low {b b' : Nat} {w : World} {l : List (Nat × St)} {R : List (BD × List UInt8)} (h : Devs b w l R) (hb : b' ≤ b) : Devs b' w l R := by
  obtain ⟨h0, L, h1, h2, h3, h4⟩ := h
  exact ⟨by omega, L, h1, fun y hy => ⟨(h2 y hy).1, fun i hi => by have := (h2 y hy).2.1 i hi; omega, fun q hq => by have := (h2 y hy).2.2 q hq; omega⟩, h3, h4⟩
theorem DV.own_lt {w : World} {p : Nat} {r : Rp} {s : St} (h : DV w p r s) {i : Nat} (hi : r.own p i) : i < w.heap.size := by
  rcases hi with rfl | rfl | rfl | e
  · exact h.dev.cells.lt
  · exact h.dev.kept.1.lt
  · exact h.dev.now.1.lt
  · obtain ⟨cur, hcur⟩ := row_is h.dev.pend e
    exact hcur.lt
theorem DV.rb {w : World} {p : Nat} {r : Rp} {s : St} (h : DV w p r s) {d : BD} (hd : r.reads d) : ∃ bs, RB w d bs := by
  rcases hd with ⟨e, he, rfl⟩ | ⟨e, he, rfl⟩ | ⟨x, hx, rfl⟩
  · exact ⟨_, h.dev.kept.2.1 e he⟩
  · exact ⟨_, h.dev.now.2.1 e he⟩
  · exact ⟨_, (h.dev.ops x hx).1⟩
theorem DV.self {w : World} {p : Nat} {r : Rp} {s : St} (h : DV w p r s) {d : BD} (hd : r.reads d) : Safe r.EN d := by
  rcases hd with ⟨e, he, rfl⟩ | ⟨e, he, rfl⟩ | ⟨x, hx, rfl⟩
  · exact h.dev.safe e he
  · exact h.dev.now.safe e he
  · exact (h.dev.ops x hx).2
theorem DV.room_not_own {w : World} {p : Nat} {r : Rp} {s : St} (h : DV w p r s) {g : Nat} {cur : Array Value} (hg : IsB w g 5 cur) : ¬ r.own p g := by
  rintro (rfl | rfl | rfl | e)
  · exact absurd (IsB.type hg h.dev.cells) (by decide)
  · exact is_map h.dev.kept.1 hg
  · exact is_map h.dev.now.1 hg
  · obtain ⟨cur', hcur⟩ := row_is h.dev.pend e
    exact absurd (IsB.type hg hcur) (by decide)
theorem Safe.roomy {E E' : Files} {H : Nat} {d : BD} (h : Safe E d) (hs : Roomy (rooms E) (rooms E') H) (hd : ∀ g, blk d = some g → g < H) : Safe E' d := by
  intro q hq hb
  rcases hs q hq with h1 | ⟨q0, h1, h2, h3⟩
  · have := hd _ hb
    omega
  · have := h q0 h1 (by rw [h2]; exact hb)
    omega
/-- A step of one device leaves the others as they are. -/
theorem Devs.step {b p : Nat} {w w' : World} {s s' : St} {l : List (Nat × St)} {r r' : Rp} {L : List DvR} {R : List (BD × List UInt8)} (h0 : b ≤ w.heap.size) (h1 : L.map (fun x => (x.p, x.s)) = l) (h2 : ∀ x ∈ (⟨p, r, s⟩ :: L : List DvR), DV w x.p x.r x.s ∧ Fresh b x.p x.r) (h3 : (⟨p, r, s⟩ :: L : List DvR).Pairwise Apt) (hR : ∀ y ∈ R, RB w y.1 y.2 ∧ ∀ x ∈ (⟨p, r, s⟩ :: L : List DvR), Safe x.r.EN y.1)
    (hd : DV w' p r' s') (hs : Step w w' p r r') : Devs b w' ((p, s') :: l) R ∧ Below b w w' ∧ KB w w' := by
  have hx := h2 ⟨p, r, s⟩ List.mem_cons_self
  simp only at hx
  obtain ⟨hbel, hfr⟩ := hs.below hx.2 h0
  obtain ⟨ha, hL⟩ := List.pairwise_cons.1 h3
  refine ⟨⟨Nat.le_trans h0 hbel.size, ⟨p, r', s'⟩ :: L, by simp [h1], fun y hy => ?_, List.pairwise_cons.2 ⟨fun y hy => ?_, hL⟩, fun y hy => ?_⟩, hbel, fun g t cs n5 n81 n88 hi => ?_⟩
  · rcases List.mem_cons.1 hy with rfl | hy
    · exact ⟨hd, hfr⟩
    · have hyd := h2 y (List.mem_cons_of_mem _ hy)
      have hap := ha y hy
      refine ⟨⟨hyd.1.dev.ch hs.ch (fun i hi => ⟨fun hh => hap.1 i hh hi, fun q hq e => ?_⟩) (fun d hdr => ⟨fun g hg => ?_, fun q hq hb => hap.2.2.2 d hdr q hq hb⟩), hyd.1.ok⟩, hyd.2⟩
      · obtain ⟨cur, hcur⟩ := rooms_byte hx.1.dev.now hq
        rw [e] at hcur
        exact hyd.1.room_not_own hcur hi
      · obtain ⟨bs, hr⟩ := hyd.1.rb hdr
        exact hx.1.not_own hr hg
  · have hyd := h2 y (List.mem_cons_of_mem _ hy)
    have hap := ha y hy
    refine ⟨fun i hi hi2 => ?_, fun q hq q' hq' e => ?_, fun d hdr => ?_, fun d hdr => ?_⟩
    · rcases hs.own i hi with h4 | h4
      · exact hap.1 i h4 hi2
      · have := hyd.1.own_lt hi2
        omega
    · rcases hs.rooms q hq with h4 | ⟨q0, h4, h5, _⟩
      · obtain ⟨cur, hcur⟩ := rooms_byte hyd.1.dev.now hq'
        have := hcur.lt
        omega
      · exact hap.2.1 q0 h4 q' hq' (h5.trans e)
    · rcases hs.reads d hdr with h4 | h4 | ⟨d0, h4, h5, h6⟩ | ⟨q, h4, h5⟩
      · exact h4.elim
      · intro q hq hb
        obtain ⟨cur, hcur⟩ := rooms_byte hyd.1.dev.now hq
        have := hcur.lt
        have := h4 _ hb
        omega
      · intro q hq hb
        have := hap.2.2.1 d0 h4 q hq (by rw [h5]; exact hb)
        omega
      · intro q' hq' hb
        rw [h5] at hb
        injection hb with hb
        exact absurd hb (hap.2.1 q h4 q' hq')
    · obtain ⟨bs, hr⟩ := hyd.1.rb hdr
      exact (hap.2.2.2 d hdr).roomy hs.rooms (fun g hg => hr.lt hg)
  · have hy1 := (hR y hy).1
    have hy2 : Prot w r y := ⟨hy1, (hR y hy).2 ⟨p, r, s⟩ List.mem_cons_self⟩
    have hy3 := hy2.step hx.1 hs
    refine ⟨hy3.1, fun z hz => ?_⟩
    rcases List.mem_cons.1 hz with rfl | hz
    · exact hy3.2
    · exact (hR y hy).2 z (List.mem_cons_of_mem _ hz)
  · refine (hs.ch.block g hi.lt ?_ (fun q hq e => ?_)).trans hi
    · rintro (rfl | rfl | rfl | e)
      · exact n81 (IsB.type hi hx.1.dev.cells)
      · exact is_map hx.1.dev.kept.1 hi
      · exact is_map hx.1.dev.now.1 hi
      · obtain ⟨cur, hcur⟩ := row_is hx.1.dev.pend e
        exact n88 (IsB.type hi hcur)
    · obtain ⟨cur, hcur⟩ := rooms_byte hx.1.dev.now hq
      rw [e] at hcur
      exact n5 (IsB.type hi hcur)
theorem Devs.head {b p : Nat} {w : World} {s : St} {l : List (Nat × St)} {R : List (BD × List UInt8)} (h : Devs b w ((p, s) :: l) R) : ∃ r, ∃ L : List DvR, b ≤ w.heap.size ∧ L.map (fun x => (x.p, x.s)) = l ∧ (∀ x ∈ (⟨p, r, s⟩ :: L : List DvR), DV w x.p x.r x.s ∧ Fresh b x.p x.r) ∧ (⟨p, r, s⟩ :: L : List DvR).Pairwise Apt ∧ ∀ y ∈ R, RB w y.1 y.2 ∧ ∀ x ∈ (⟨p, r, s⟩ :: L : List DvR), Safe x.r.EN y.1 := by
  obtain ⟨h0, L, h1, h2, h3, h4⟩ := h
  match L, h1 with
  | x :: L, h1 =>
    simp only [List.map_cons, List.cons.injEq] at h1
    obtain ⟨x0, x1, x2⟩ := x
    obtain ⟨rfl, rfl⟩ := Prod.mk.injEq .. ▸ h1.1
    exact ⟨x1, L, h0, h1.2, h2, h3, h4⟩
section
variable {b p : Nat} {s : St} {w : World} {l : List (Nat × St)} {R : List (BD × List UInt8)}
theorem req_D {F : FuncId} {args : Array Value} {o : POp} (hc : ∀ r, DV w p r s → Calls Try.prog F args w (ReqPost p r s o w)) (h : Devs b w ((p, s) :: l) R) :
    Calls Try.prog F args w (fun e w' => ∃ n, Cnt s.now n ∧ e = .returned (.int .i64 (reqE s n o)) ∧ Devs b w' ((p, reqS s n o) :: l) R ∧ Below b w w' ∧ KB w w') := by
  obtain ⟨r, L, h0, h1, h2, h3, hR⟩ := h.head
  refine (hc r (h2 ⟨p, r, s⟩ List.mem_cons_self).1).mono ?_
  rintro e w' ⟨n, hn, he, r', hd, hs⟩
  exact ⟨n, hn, he, Devs.step h0 h1 h2 h3 hR hd hs⟩
theorem goes_D {F : FuncId} {args : Array Value} {s' : St} {v : Value} (hc : ∀ r, DV w p r s → Calls Try.prog F args w (Goes p r s' v w)) (h : Devs b w ((p, s) :: l) R) :
    Calls Try.prog F args w (fun e w' => e = .returned v ∧ Devs b w' ((p, s') :: l) R ∧ Below b w w' ∧ KB w w') := by
  obtain ⟨r, L, h0, h1, h2, h3, hR⟩ := h.head
  refine (hc r (h2 ⟨p, r, s⟩ List.mem_cons_self).1).mono ?_
  rintro e w' ⟨he, r', hd, hs⟩
  exact ⟨he, Devs.step h0 h1 h2 h3 hR hd hs⟩
theorem ldo_D (o : LOp) (h : Devs b w ((p, s) :: l) R) (ho : o.Ok) (hr : RB w o.d o.bs) (hL : s.ops.length ≤ 1000000) :
    Calls Try.prog 29 #[.pointer (some ⟨p, 0, none⟩), o.val] w (fun e w' => ∃ n, Cnt s.now n ∧ e = .returned (.int .i64 (reqE s n o.op)) ∧ Devs b w' ((p, reqS s n o.op) :: l) R ∧ Below b w w' ∧ KB w w') :=
  req_D (fun r hd => ldo_any p r s o w hd (names_ok _ ho.nm) (names_ok _ ho.to) ho.k1 ho.k4 hr (by have := ho.len; omega) hL) h
theorem Sync_D (h : Devs b w ((p, s) :: l) R) (hL : s.ops.length ≤ 1000000) : Calls Try.prog 15 #[.pointer (some ⟨p, 0, none⟩)] w (fun e w' => e = .returned (.int .i64 (syncE s)) ∧ Devs b w' ((p, syncS s) :: l) R ∧ Below b w w' ∧ KB w w') := goes_D (fun r hd => Sync_any p r s w hd hL) h
theorem Lose_D (keep torn : Int) (h : Devs b w ((p, s) :: l) R) (hL : s.ops.length ≤ 1000000) (ht : torn ≤ 9223372036854775807) : Calls Try.prog 18 #[.pointer (some ⟨p, 0, none⟩), .agg #[.int .i64 keep, .int .i64 torn]] w (fun e w' => e = .returned (.tuple #[]) ∧ Devs b w' ((p, loseS s keep torn) :: l) R ∧ Below b w w' ∧ KB w w') := goes_D (fun r hd => Lose_any p r s keep torn w hd hL ht) h
theorem Restart_D (h : Devs b w ((p, s) :: l) R) (hL : s.ops.length ≤ 1000000) : Calls Try.prog 19 #[.pointer (some ⟨p, 0, none⟩)] w (fun e w' => e = .returned (.tuple #[]) ∧ Devs b w' ((p, restartS s) :: l) R ∧ Below b w w' ∧ KB w w') := goes_D (fun r hd => Restart_any p r s w hd hL) h
theorem Devs.dv (h : Devs b w l R) {x : Nat × St} (hx : x ∈ l) : ∃ r, DV w x.1 r x.2 := by
  obtain ⟨h0, L, h1, h2, h3, h4⟩ := h
  rw [← h1] at hx
  obtain ⟨y, hy, rfl⟩ := List.mem_map.1 hx
  exact ⟨y.r, (h2 y hy).1⟩
theorem Pending_D (h : Devs b w l R) (hx : (p, s) ∈ l) (hL : s.ops.length ≤ 1000000) : Calls Try.prog 27 #[.pointer (some ⟨p, 0, none⟩)] w (fun e w' => e = .returned (.int .i64 s.ops.length) ∧ w = w') := by
  obtain ⟨r, hr⟩ := h.dv hx
  exact Pending_any p r s w hr hL
theorem Down_D (h : Devs b w l R) (hx : (p, s) ∈ l) : Calls Try.prog 26 #[.pointer (some ⟨p, 0, none⟩)] w (fun e w' => e = .returned (.bool s.dn) ∧ w = w') := by
  obtain ⟨r, hr⟩ := h.dv hx
  exact Down_any p r s w hr
theorem Copy_D (h : Devs b w ((p, s) :: l) R) (hL : s.ops.length ≤ 1000000) : Calls Try.prog 37 #[.pointer (some ⟨p, 0, none⟩)] w (fun e w' => ∃ p', e = .returned (.pointer (some ⟨p', 0, none⟩)) ∧ Devs b w' ((p', s) :: (p, s) :: l) R ∧ Below w.heap.size w w') := by
  obtain ⟨r, L, h0, h1, h2, h3, hR⟩ := h.head
  refine (Copy_any p r s w (h2 ⟨p, r, s⟩ List.mem_cons_self).1 hL).mono ?_
  rintro e w' ⟨p', r', he, hd, hro, hown, hrd, hb⟩
  refine ⟨p', he, ⟨Nat.le_trans h0 hb.size, ⟨p', r', s⟩ :: ⟨p, r, s⟩ :: L, by simp [h1], fun x hx => ?_, List.pairwise_cons.2 ⟨fun y hy => ?_, h3⟩, fun y hy => ⟨(hR y hy).1.on hb, fun x hx => ?_⟩⟩, hb⟩
  · rcases List.mem_cons.1 hx with rfl | hx
    · exact ⟨hd, fun i hi => by have := hown i hi; omega, fun q hq => by rw [hro] at hq; cases hq⟩
    · exact ⟨(h2 x hx).1.on hb, (h2 x hx).2⟩
  · have hyd := (h2 y hy).1
    refine ⟨fun i hi hi2 => ?_, (fun q hq => by rw [hro] at hq; cases hq), fun d' hdr => ?_, (fun d _ q hq => by rw [hro] at hq; cases hq)⟩
    · have := hown i hi
      have := hyd.own_lt hi2
      omega
    · obtain ⟨d, hdr0, e1, e2⟩ := hrd d' hdr
      have hsafe : Safe y.r.EN d := by
        rcases List.mem_cons.1 hy with rfl | hy
        · exact hyd.self hdr0
        · exact ((List.pairwise_cons.1 h3).1 y hy).2.2.1 d hdr0
      intro q hq hb
      have := hsafe q hq (by rw [e1]; exact hb)
      omega
  · rcases List.mem_cons.1 hx with rfl | hx
    · exact (fun q hq => by rw [hro] at hq; cases hq)
    · exact (hR y hy).2 x hx
end
theorem Devs.one {b p : Nat} {w : World} {s : St} {R : List (BD × List UInt8)} (h : LDev b w p s R) : Devs b w [(p, s)] := by
  obtain ⟨h0, r, h1, h2, _⟩ := h
  exact ⟨h0, [⟨p, r, s⟩], rfl, fun x hx => by simp at hx; subst hx; exact ⟨h1, h2⟩, List.pairwise_singleton _ _, by simp⟩
end Go.Proofs.Ytddjkkmdcdiofaa
