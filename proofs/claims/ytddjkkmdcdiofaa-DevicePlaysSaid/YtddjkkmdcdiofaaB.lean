/- Byte slices: descriptors, what they read as, append. -/
import Derived.Test.YtddjkkmdcdiofaaA
import Derived.Test.YtddjkkmdcdiofaaMQ
import Derived.Test.YtddjkkmdcdiofaaAR
import Derived.ArgAppend
namespace Go.Proofs.Ytddjkkmdcdiofaa
open Go.RowKit

/-- A slice of bytes, as a value. -/
structure BD where
  A : Option Addr
  len : Nat
  cap : Nat
def vB (d : BD) : Value := .slice d.A d.len d.cap
def blk (d : BD) : Option Nat := d.A.map (·.block)
def encU (b : UInt8) : Value := .int .u8 ((b.toNat : Nat) : Int)
theorem encU_one (bs : List UInt8) : ∀ u ∈ bs.map encU, u.oneCell' = true := by
  intro u hu
  obtain ⟨b, _, rfl⟩ := List.mem_map.1 hu
  rfl
/-- The slice d reads as bs; it lies at the head of a block of bytes. -/
def RB (w : World) (d : BD) (bs : List UInt8) : Prop :=
  bs.length = d.len ∧ d.len ≤ d.cap ∧ (d.A = none → d.cap = 0) ∧ ∀ ad, d.A = some ad → ∃ g cur, ad = ⟨g, 0, none⟩ ∧ IsB w g 5 cur ∧ d.cap ≤ cur.size ∧ ∀ (j : Nat) (u : Value), (bs.map encU)[j]? = some u → cur[j]? = some u
/-- A source of bytes. -/
def SB (w : World) (A : Option Addr) (bs : List UInt8) : Prop := (A = none → bs.length = 0) ∧ ∀ ad, A = some ad → ∀ (j : Nat) (u : Value), (bs.map encU)[j]? = some u → w.cell? (ad.add j) = some u
theorem lit_add (g o j : Nat) : (⟨g, o, none⟩ : Addr).add j = ⟨g, o + j, none⟩ := by unfold Addr.add; split <;> simp_all
theorem RB.src {w : World} {d : BD} {bs : List UInt8} (h : RB w d bs) : SB w d.A bs := by
  obtain ⟨h1, h2, h3, h4⟩ := h
  refine ⟨fun e => by have := h3 e; omega, fun ad e j u hu => ?_⟩
  obtain ⟨g, cur, rfl, hg, _, hc⟩ := h4 ad e
  rw [lit_add, hg.cell, Nat.zero_add]
  exact hc j u hu
/-- From w to w' only the blocks of M may change, and the blocks of G behind their limits. -/
structure Ch (w w' : World) (M : Nat → Prop) (G : List (Nat × Nat)) : Prop where
  os : w'.os = w.os
  tape : w'.tape = w.tape
  output : w'.output = w.output
  size : w.heap.size ≤ w'.heap.size
  block : ∀ i, i < w.heap.size → ¬ M i → (∀ p ∈ G, p.1 ≠ i) → w'.heap[i]? = w.heap[i]?
  bytes : ∀ p ∈ G, ¬ M p.1 → ∀ cur, IsB w p.1 5 cur → ∃ cur', IsB w' p.1 5 cur' ∧ cur'.size = cur.size ∧ ∀ j, j < p.2 → cur'[j]? = cur[j]?
theorem Ch.refl (w : World) (M : Nat → Prop) (G : List (Nat × Nat)) : Ch w w M G := ⟨rfl, rfl, rfl, Nat.le_refl _, fun _ _ _ _ => rfl, fun _ _ _ cur h => ⟨cur, h, rfl, fun _ _ => rfl⟩⟩
theorem Ch.below {w w' : World} (h : Below w.heap.size w w') (M : Nat → Prop) (G : List (Nat × Nat)) : Ch w w' M G := ⟨h.os, h.tape, h.output, h.size, fun i hi _ _ => h.block i hi, fun _ _ _ cur hc => ⟨cur, hc.on h, rfl, fun _ _ => rfl⟩⟩
theorem Ch.mono {w w' : World} {M M' : Nat → Prop} {G G' : List (Nat × Nat)} (h : Ch w w' M G) (hM : ∀ i, M i → M' i) (hG : ∀ p ∈ G, p ∈ G') (hG' : ∀ p ∈ G', (∀ q ∈ G, q.1 = p.1 → q = p)) : Ch w w' M' G' := by
  refine ⟨h.os, h.tape, h.output, h.size, fun i hi hm hg => h.block i hi (fun hh => hm (hM i hh)) (fun p hp => hg p (hG p hp)), fun p hp hm cur hc => ?_⟩
  by_cases hx : ∃ q ∈ G, q.1 = p.1
  · obtain ⟨q, hq, e⟩ := hx
    have := hG' p hp q hq e
    subst this
    exact h.bytes q hq (fun hh => hm (hM _ hh)) cur hc
  · refine ⟨cur, (h.block p.1 hc.lt (fun hh => hm (hM _ hh)) (fun q hq e => hx ⟨q, hq, e⟩)).trans hc, rfl, fun _ _ => rfl⟩
theorem RB.ch {w w' : World} {d : BD} {bs : List UInt8} {M : Nat → Prop} {G : List (Nat × Nat)} (h : RB w d bs) (hc : Ch w w' M G) (hM : ∀ g, blk d = some g → ¬ M g) (hG : ∀ p ∈ G, blk d = some p.1 → d.len ≤ p.2) : RB w' d bs := by
  obtain ⟨h1, h2, h3, h4⟩ := h
  refine ⟨h1, h2, h3, fun ad e => ?_⟩
  obtain ⟨g, cur, rfl, hg, hs, hcur⟩ := h4 ad e
  have hb : blk d = some g := by simp [blk, e]
  by_cases hx : ∃ p ∈ G, p.1 = g
  · obtain ⟨p, hp, rfl⟩ := hx
    obtain ⟨cur', c1, c2, c3⟩ := hc.bytes p hp (hM _ hb) cur hg
    refine ⟨p.1, cur', rfl, c1, by omega, fun j u hu => ?_⟩
    have hj : j < bs.length := by
      have := (List.getElem?_eq_some_iff.1 hu).1
      simpa using this
    rw [c3 j (by have := hG p hp hb; omega)]
    exact hcur j u hu
  · exact ⟨g, cur, rfl, (hc.block g hg.lt (hM _ hb) (fun p hp e => hx ⟨p, hp, e⟩)).trans hg, hs, hcur⟩
theorem RB.on {w w' : World} {d : BD} {bs : List UInt8} (h : RB w d bs) (hb : Below w.heap.size w w') : RB w' d bs := h.ch (Ch.below hb (fun _ => False) []) (fun _ _ h => h) (by simp)
theorem info5 : (Try.prog.info? 5).map (fun i => (i.zero, i.size, i.bytes)) = some (some (.int .u8 0), 1, 1) := by kernel_rfl
theorem RB.lt {w : World} {d : BD} {bs : List UInt8} (h : RB w d bs) {g : Nat} (hg : blk d = some g) : g < w.heap.size := by
  cases hA : d.A with
  | none => simp [blk, hA] at hg
  | some ad =>
    obtain ⟨g', cur, rfl, hb, _⟩ := h.2.2.2 ad hA
    simp [blk, hA] at hg
    subst hg
    exact hb.lt
/-- What a slice may be appended to in place. -/
def room (d : BD) : List (Nat × Nat) := match d.A with | some ad => if d.len < d.cap then [(ad.block, d.len)] else [] | none => []

theorem setCells_heap (b : Nat) : ∀ (vs : List Value) (o : Nat) (w : World) (i : Nat), i ≠ b → (w.setCells b o vs).heap[i]? = w.heap[i]?
  | [], _, _, _, _ => rfl
  | v :: r, o, w, i, h => by
    rw [World.setCells, setCells_heap b r (o + 1) _ i h]
    exact Below.heap_setCell w ⟨b, o, none⟩ v i (fun e => h e)
theorem setCells_is (b : Nat) {t : TypeId} : ∀ (vs : List Value) (o : Nat) (w : World) (cur : Array Value), IsB w b t cur → ∃ cur', IsB (w.setCells b o vs) b t cur' ∧ cur'.size = cur.size ∧ (∀ j, j < o → cur'[j]? = cur[j]?) ∧ ∀ j, j < vs.length → o + j < cur.size → cur'[o + j]? = vs[j]?
  | [], _, _, cur, h => ⟨cur, h, rfl, fun _ _ => rfl, fun j hj => absurd hj (by simp)⟩
  | v :: r, o, w, cur, h => by
    obtain ⟨cur', c1, c2, c3, c4⟩ := setCells_is b r (o + 1) (w.setCell ⟨b, o, none⟩ v) (cur.setIfInBounds o v) (h.set_ o v)
    refine ⟨cur', c1, by simpa using c2, fun j hj => ?_, fun j hj hs => ?_⟩
    · rw [c3 j (by omega), Array.getElem?_setIfInBounds_ne (by omega)]
    · cases j with
      | zero =>
        rw [Nat.add_zero, c3 o (by omega), Array.getElem?_setIfInBounds_self_of_lt (by omega)]
        rfl
      | succ j =>
        have := c4 j (by simpa using hj) (by simp; omega)
        rw [show o + (j + 1) = o + 1 + j by omega, this]
        rfl
theorem setCells_world (b : Nat) : ∀ (vs : List Value) (o : Nat) (w : World), (w.setCells b o vs).os = w.os ∧ (w.setCells b o vs).tape = w.tape ∧ (w.setCells b o vs).output = w.output ∧ (w.setCells b o vs).heap.size = w.heap.size
  | [], _, _ => ⟨rfl, rfl, rfl, rfl⟩
  | v :: r, o, w => by
    obtain ⟨a, b', c, d⟩ := setCells_world b r (o + 1) (w.setCell ⟨b, o, none⟩ v)
    exact ⟨a.trans rfl, b'.trans rfl, c.trans rfl, d.trans (by simp [World.setCell])⟩
theorem IsB.uniq {w : World} {g : Nat} {t : TypeId} {cs cs' : Array Value} (h : IsB w g t cs) (h' : IsB w g t cs') : cs = cs' := by
  have e : some (Obj.cells cs t (0, 0)) = some (Obj.cells cs' t (0, 0)) := h.symm.trans h'
  injection e with e
  injection e
/-- What append of bytes leaves. -/
def AppB (w : World) (d : BD) (bs : List UInt8) (d' : BD) (w' : World) : Prop :=
  RB w' d' bs ∧ ((blk d' = blk d ∧ d'.cap = d.cap ∧ d.len ≤ d'.len ∧ Ch w w' (fun _ => False) (room d)) ∨ (∃ H, blk d' = some H ∧ w.heap.size ≤ H ∧ Below w.heap.size w w'))
theorem take_get {α : Type} {l k : List α} {j : Nat} {u : α} (h : (l ++ k)[j]? = some u) : (j < l.length ∧ l[j]? = some u) ∨ (l.length ≤ j ∧ k[j - l.length]? = some u) := by
  by_cases hj : j < l.length
  · rw [List.getElem?_append_left hj] at h
    exact .inl ⟨hj, h⟩
  · rw [List.getElem?_append_right (by omega)] at h
    exact .inr ⟨by omega, h⟩
theorem new_bytes (w : World) (vs : Array Value) (H n cap : Nat) (bs : List UInt8) (hH : w.heap.size = H) (hl : bs.length = n) (hn : n ≤ cap) (hs : cap ≤ vs.size) (hv : ∀ (j : Nat) (u : Value), (bs.map encU)[j]? = some u → vs[j]? = some u) : RB (w.alloc (.cells vs 5)) ⟨some ⟨H, 0, none⟩, n, cap⟩ bs := by
  subst hH
  refine ⟨hl, hn, (fun e => by cases e), fun ad e => ?_⟩
  injection e with e
  subst e
  exact ⟨w.heap.size, vs, rfl, IsB.new _ _ _, hs, hv⟩
set_option maxHeartbeats 1000000 in
theorem run_append_bytes (w : World) (ty : TypeId) (d : BD) (bs : List UInt8) (h : RB w d bs) (A : Option Addr) (c : Nat) (ns : List UInt8) (hs : SB w A ns) (hb : bs.length + ns.length ≤ 1099511627776) :
    ∃ d' w', (Builtin.append_ #[22, 22] ty #[vB d, .slice A ns.length c]).run Try.prog w = .ok (vB d') w' ∧ d'.len = d.len + ns.length ∧ AppB w d (bs ++ ns) d' w' := by
  obtain ⟨i0, hi, hz0, hz1, hz2⟩ := info_parts info5
  obtain ⟨h1, h2, h3, h4⟩ := h
  have hR : RB w d bs := ⟨h1, h2, h3, h4⟩
  by_cases hm : ns.length = 0
  · have hns : ns = [] := List.eq_nil_of_length_eq_zero hm
    subst hns
    refine ⟨d, w, ?_, by simp, by simpa using hR, .inl ⟨rfl, rfl, Nat.le_refl _, Ch.refl _ _ _⟩⟩
    cases hA : A with
    | none =>
      simp [vB, Builtin.append_, run_underlying Try.underlying22, sizeOf, typeInfo, hi, Builtin.lenOf, Builtin.firstCells, h2, storeCells]
      cases d.A <;> simp
    | some a =>
      simp [vB, Builtin.append_, run_underlying Try.underlying22, sizeOf, typeInfo, hi, Builtin.lenOf, Builtin.firstCells, h2, storeCells, loadCells, loadCellsFrom]
      cases d.A <;> simp
  · cases hA : A with
    | none => exact absurd (hs.1 hA) hm
    | some a =>
      have hnews := hs.2 a hA
      have hl : (ns.map encU).length = ns.length * i0.size := by rw [hz1, List.length_map, Nat.mul_one]
      cases hd : d.A with
      | none =>
        have hc0 := h3 hd
        have hl0 : d.len = 0 := by omega
        have hb0 : bs = [] := List.eq_nil_of_length_eq_zero (by omega)
        subst hb0
        have hv : vB d = .slice none 0 0 := by simp [vB, hd, hl0, hc0]
        have hr := run_append_nil (P := Try.prog) w 22 ty 5 i0 _ Try.underlying22 hi hz0 a ns.length c (ns.map encU) hl hnews (by omega) (by simp at hb; omega) (by rw [hz2]; simp at hb; omega)
        have hge := grownCap_ge w ns.length 0 5
        refine ⟨⟨some ⟨w.heap.size, 0, none⟩, ns.length, grownCap w ns.length 0 5⟩, _, by rw [hv]; exact hr, by simp only [hl0]; omega, ?_, .inr ⟨w.heap.size, rfl, Nat.le_refl _, (Below.refl w.heap.size w).drew.alloc (by simp) _⟩⟩
        refine new_bytes w.drew _ _ _ _ _ (by simp) (by simp) hge ?_ (fun j u hu => ?_)
        · rw [Array.size_append, List.size_toArray, size_zeroCells]
          simp [Value.cells]
          omega
        · rw [List.nil_append] at hu
          have hj := (List.getElem?_eq_some_iff.1 hu).1
          rw [Array.getElem?_append_left (by simpa using hj), List.getElem?_toArray]
          exact hu
      | some ad =>
        obtain ⟨g, cur, rfl, hg, hcs, hcur⟩ := h4 ad hd
        have hv : vB d = .slice (some ⟨g, 0, none⟩) d.len d.cap := by simp [vB, hd]
        by_cases hroom : d.len + ns.length ≤ d.cap
        · have hr := run_append_room_cells (P := Try.prog) w 22 ty 5 i0 Try.underlying22 hi g 0 d.len d.cap a ns.length c (ns.map encU) hl hnews (encU_one ns) hroom
            (fun j hj => by
              rw [hz1, hg.cell]
              have hj' : j < ns.length := by simpa using hj
              have : 0 + d.len * 1 + j < cur.size := by omega
              rw [Array.getElem?_eq_getElem this]
              rfl) (fun j _ => hg.frozen _)
          rw [hz1, Nat.zero_add, Nat.mul_one] at hr
          obtain ⟨cur', c1, c2, c3, c4⟩ := setCells_is g (ns.map encU) d.len w cur hg
          obtain ⟨e1, e2, e3, e4⟩ := setCells_world g (ns.map encU) d.len w
          refine ⟨⟨some ⟨g, 0, none⟩, d.len + ns.length, d.cap⟩, _, by rw [hv]; exact hr, rfl, ⟨by simp; omega, hroom, (fun e => by cases e), fun ad e => ?_⟩, .inl ⟨by simp [blk, hd], rfl, by simp, ?_⟩⟩
          · injection e with e
            subst e
            refine ⟨g, cur', rfl, c1, by simp only; omega, fun j u hu => ?_⟩
            rw [List.map_append] at hu
            rcases take_get hu with ⟨hj, hu⟩ | ⟨hj, hu⟩
            · rw [c3 j (by simp at hj; omega)]
              exact hcur j u hu
            · have hj2 := (List.getElem?_eq_some_iff.1 hu).1
              simp only [List.length_map] at hj hj2 hu
              have := c4 (j - bs.length) (by simpa using hj2) (by omega)
              rw [show d.len + (j - bs.length) = j by omega] at this
              rw [this]
              exact hu
          · refine ⟨e1, e2, e3, by omega, fun i hi' _ hgi => setCells_heap g _ _ w i (fun e => ?_), fun p hp _ cur0 hcur0 => ?_⟩
            · subst e
              have hlt : d.len < d.cap := by omega
              exact hgi (i, d.len) (by simp [room, hd, hlt]) rfl
            · have hlt : d.len < d.cap := by omega
              simp [room, hd, hlt] at hp
              subst hp
              have : cur0 = cur := IsB.uniq hcur0 hg
              subst this
              exact ⟨cur', c1, c2, c3⟩
        · have hlo : (bs.map encU).length = d.len * i0.size := by rw [hz1, List.length_map, Nat.mul_one, h1]
          have hr := run_append_grow (P := Try.prog) w 22 ty 5 i0 _ Try.underlying22 hi hz0 ⟨g, 0, none⟩ d.len d.cap (bs.map encU) hlo (fun j u hu => by rw [lit_add, hg.cell, Nat.zero_add]; exact hcur j u hu) a ns.length c (ns.map encU) hl hnews (by omega) (by omega) (growslice_fits (by omega) (by rw [hz2]; omega))
          have hge := grownCap_ge w (d.len + ns.length) d.cap 5
          refine ⟨⟨some ⟨w.heap.size, 0, none⟩, d.len + ns.length, grownCap w (d.len + ns.length) d.cap 5⟩, _, by rw [hv]; exact hr, rfl, ?_, .inr ⟨w.heap.size, rfl, Nat.le_refl _, (Below.refl w.heap.size w).drew.alloc (by simp) _⟩⟩
          refine new_bytes w.drew _ _ _ _ _ (by simp) (by simp; omega) hge ?_ (fun j u hu => ?_)
          · rw [Array.size_append, Array.size_append, List.size_toArray, List.size_toArray, size_zeroCells]
            simp [Value.cells]
            omega
          · rw [List.map_append] at hu
            have hj := (List.getElem?_eq_some_iff.1 hu).1
            rw [Array.getElem?_append_left (by simpa using hj), List.append_toArray, List.getElem?_toArray]
            exact hu
end Go.Proofs.Ytddjkkmdcdiofaa
