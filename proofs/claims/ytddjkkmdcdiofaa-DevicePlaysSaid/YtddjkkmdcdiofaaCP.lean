/- Contracts: Clone of operations, Copy; two devices side by side. -/
import Derived.Test.YtddjkkmdcdiofaaDC
import Derived.Outline
namespace Go.Proofs.Ytddjkkmdcdiofaa
open Go.RowKit Go.MapKept Go.ChangeMaps

theorem encO_one (L : List (POp × BD)) : ∀ u ∈ L.flatMap encO, u.oneCell' = true := by
  intro u hu
  obtain ⟨x, _, hx⟩ := List.mem_flatMap.1 hu
  simp only [encO, List.mem_cons, List.not_mem_nil, or_false] at hx
  rcases hx with rfl | rfl | rfl | rfl | rfl <;> rfl
def CloneOPost (n : Nat) (xs : List Value) (w : World) (e : Ending) (w' : World) : Prop := ∃ A c, e = .returned (.slice A n c) ∧ w'.ownsRow w.heap.size 88 5 (.slice A n c) n xs ∧ Below w.heap.size w w'
set_option maxRecDepth 100000 in
set_option maxHeartbeats 2000000 in
theorem CloneO_any (A : Option Addr) (c : Nat) (L : List (POp × BD)) (w : World) (h : w.ownsRow 0 88 5 (.slice A L.length c) L.length (L.flatMap encO)) (hl : L.length ≤ 1000000) : Calls Try.prog 60 #[.slice A L.length c] w (CloneOPost L.length (L.flatMap encO) w) := by
  have q79 : ∀ (w : World) (a : Option Addr) (n c n' c' : Nat), (binOp .eql 79 (.slice a n c) (.slice none n' c')).run Try.prog w = .ok (.bool a.isNone) w := fun w a n c n' c' => Lib.run_eql_slice_nil w _ _ a n c n' c' Try.underlying79
  have H := Lib.hid h
  clear h
  cases A with
  | none =>
    have hz : L.length = 0 := by
      rcases H.out.2 with ⟨_, h0⟩ | ⟨g, cap, cur, hv, _⟩
      · exact h0
      · cases hv
    obtain rfl : L = [] := List.eq_nil_of_length_eq_zero hz
    clear hz
    go_enter Try.func60, Try.ntmps60
    go_wp2_with fail
    go_ret
    exact ⟨none, 0, rfl, World.ownsRow_nil _ _ _ _, Below.refl _ _⟩
  | some ad =>
    obtain ⟨i0, hi, hz0, hz1, hz2⟩ := info_parts info88
    obtain ⟨g, hg⟩ : ∃ g, ad = ⟨g, 0, none⟩ := by
      rcases H.out.2 with ⟨hv, _⟩ | ⟨g, cap, cur, hv, _⟩
      · cases hv
      · injection hv with h1
        injection h1 with h1
        exact ⟨g, h1⟩
    subst hg
    have hg2 : g < w.heap.size := by
      obtain ⟨cur, hcur⟩ := row_is H.out (i := g) rfl
      exact hcur.lt
    have hfl : (L.flatMap encO).length = L.length * 5 := flat_len encO_len L
    have HFl := Lib.hid hfl
    clear hfl
    have HN : Hid (∀ j u, (L.flatMap encO)[j]? = some u → (w.alloc (.cells #[] 88)).cell? ((⟨g, 0, none⟩ : Addr).add j) = some u) := fun j u hu => by
      have hj : j < L.length * 5 := by
        have := (List.getElem?_eq_some_iff.1 hu).1
        rwa [HFl.out] at this
      rw [lit_add, Nat.zero_add, (bel1 w (.cells #[] 88)).cell (p := ⟨g, j, none⟩) hg2, H.out.cellAt j hj]
      exact hu
    have HO0 : Hid ((w.alloc (.cells #[] 88)).ownsRow w.heap.size 88 5 (.slice (some ⟨w.heap.size, 0, none⟩) 0 0) 0 []) := ⟨rfl, .inr ⟨w.heap.size, 0, #[], rfl, Nat.le_refl _, IsB.new _ _ _, Nat.le_refl _, by decide, rfl, rfl⟩⟩
    go_enter Try.func60, Try.ntmps60
    go_wp2_with (at_builtin; refine wpList_append_own _ rfl _ _ 79 rfl w.heap.size 88 i0 _ 5 72 Try.underlying79 hi hz0 hz1 hz2 rfl (by decide) (.slice (some ⟨w.heap.size, 0, none⟩) 0 0) 0 [] rfl HO0.out ⟨g, 0, none⟩ L.length c (L.flatMap encO) rfl HFl.out HN.out (encO_one L) (by unfold maxLen; omega) (by omega) (by simp) ?_)
    intro v1 w1 ho1 hg1 _
    have ho1 : w1.ownsRow w.heap.size 88 5 v1 L.length (L.flatMap encO) := by simpa using ho1
    obtain ⟨A1, c1, rfl⟩ := own_slice ho1
    have HO1 := Lib.hid ho1
    have HB1 : Hid (Below w.heap.size w w1) := (bel1 w (.cells #[] 88)).grown hg1 (by simp) (fun k hk => by simp [Value.ownBlock] at hk; omega)
    clear ho1 hg1
    go_wp2_with fail
    go_ret
    exact ⟨A1, c1, rfl, HO1.out, HB1.out⟩
/-- A copy of a device. -/
def CopyPost (r : Rp) (s : St) (w : World) (e : Ending) (w' : World) : Prop :=
  ∃ p' r', e = .returned (.pointer (some ⟨p', 0, none⟩)) ∧ DV w' p' r' s ∧ rooms r'.EN = [] ∧ (∀ i, r'.own p' i → w.heap.size ≤ i) ∧ (∀ d', r'.reads d' → ∃ d, r.reads d ∧ blk d = blk d' ∧ d'.len = d.len) ∧ Below w.heap.size w w'
theorem copied_full {w w' : World} {E : Files} {f : FF} {e : Ending} {b : Nat} (hE : FM w b E) (hf : ∀ n, asc (plain E) n = f n) (h : CopiedPost E w e w') :
    ∃ lb D, e = .returned (.map (some lb)) ∧ w.heap.size ≤ lb ∧ FM w' lb D ∧ (∀ n, asc (plain D) n = f n) ∧ rooms D = [] ∧ (∀ x ∈ D, ∃ c ∈ E, blk c.2.1 = blk x.2.1 ∧ x.2.1.len = c.2.1.len) ∧ Below w.heap.size w w' := by
  obtain ⟨b', D, rfl, h2, h3, h4, h5⟩ := h
  refine ⟨b', D.map clipE, rfl, h2, h3, fun n => ?_, ?_, fun x hx => ?_, h5⟩
  · rw [clip_plain, ← hf n]
    have hp : (plain D).Perm (plain E) := h4.map _
    exact asc_perm hp ((hp.map _).nodup_iff.2 (plain_nodup hE)) n
  · unfold rooms
    rw [List.flatMap_map]
    simp [clipE, room_clip]
  · obtain ⟨y, hy, rfl⟩ := List.mem_map.1 hx
    exact ⟨y, h4.mem_iff.1 hy, rfl, rfl⟩
theorem copied_pre {w : World} {b : Nat} {E : Files} {f : FF} (hE : FM w b E) (hf : ∀ n, asc (plain E) n = f n) (hs : Small f) : E.length ≤ 1000000000 ∧ ∀ e ∈ E, e.2.2.length ≤ 1099511627776 := by
  constructor
  · obtain ⟨_, c, hc, hc2⟩ := hs
    have := hc2.uniq (Cnt.files hE hf)
    omega
  · intro e he
    have := hs.len e.1
    rw [← hf, asc_plain, asc_mem hE.1.nodup he] at this
    simp only [Option.map_some, Option.getD_some] at this
    omega
theorem ownsRow_base {w : World} {b e size n : Nat} {v : Value} {xs : List Value} (h : w.ownsRow b e size v n xs) : w.ownsRow 0 e size v n xs := by
  refine ⟨h.1, h.2.imp id ?_⟩
  rintro ⟨g, cap, cur, h1, _, h2⟩
  exact ⟨g, cap, cur, h1, Nat.zero_le _, h2⟩
set_option maxRecDepth 100000 in
set_option maxHeartbeats 4000000 in
theorem Copy_any (p : Nat) (r : Rp) (s : St) (w : World) (h : DV w p r s) (hL : s.ops.length ≤ 1000000) : Calls Try.prog 37 #[.pointer (some ⟨p, 0, none⟩)] w (CopyPost r s w) := by
  have H := Lib.hid h
  have hplt := h.dev.cells.lt
  have hL2 : r.L.length ≤ 1000000 := by rw [← h.dev.sO] at hL; simpa using hL
  have k0 : w.cell? ⟨p, 0, none⟩ = some (.map (some r.kb)) := (h.dev.cells.cell 0).trans rfl
  have k1 : w.cell? ⟨p, 1, none⟩ = some (.map (some r.nb)) := (h.dev.cells.cell 1).trans rfl
  have k2 : w.cell? ⟨p, 2, none⟩ = some r.row := (h.dev.cells.cell 2).trans rfl
  have k3 : w.cell? ⟨p, 3, none⟩ = some (.bool s.dn) := (h.dev.cells.cell 3).trans rfl
  have k4 : w.cell? ⟨p, 4, none⟩ = some (.int .i64 s.f) := (h.dev.cells.cell 4).trans rfl
  clear h hL
  go_enter Try.func37, Try.ntmps37
  go_wp2_with fail
  have HDr : Hid (DV w.drew p r s) := H.out.on (Below.refl _ _).drew
  go_region_held3 (fun w' => w'.cell? ⟨p, 0, none⟩ = some (.map (some r.kb)) ∧ w'.cell? ⟨p, 1, none⟩ = some (.map (some r.nb)) ∧ w'.cell? ⟨p, 2, none⟩ = some r.row ∧ w'.cell? ⟨p, 3, none⟩ = some (.bool s.dn) ∧ w'.cell? ⟨p, 4, none⟩ = some (.int .i64 s.f))
    (first | go_keep | exact K1.out | exact K2.out | exact K3.out)
    (first
      | (go_at_call 59; (with_reducible refine (copied_any r.kb r.EK w.drew HDr.out.dev.kept (copied_pre HDr.out.dev.kept HDr.out.dev.sK HDr.out.ok.kept).1 (copied_pre HDr.out.dev.kept HDr.out.dev.sK HDr.out.ok.kept).2).mono ?_); intro e w1 hc1; obtain ⟨lb, D, rfl, a1, a2, a3, a4, a5, a6⟩ := copied_full HDr.out.dev.kept HDr.out.dev.sK hc1; have D1 : Hid (DV w1 p r s) := HDr.out.on a6; have HA : Hid (w.heap.size ≤ lb ∧ FM w1 lb D ∧ (∀ n, asc (plain D) n = s.K n) ∧ rooms D = [] ∧ (∀ x ∈ D, ∃ c ∈ r.EK, blk c.2.1 = blk x.2.1 ∧ x.2.1.len = c.2.1.len) ∧ Below w.heap.size w w1) := ⟨a1, a2, a3, a4, a5, of_drew a6⟩; have K1 : Hid (w1.cell? ⟨p, 0, none⟩ = some (.map (some r.kb)) ∧ w1.cell? ⟨p, 1, none⟩ = some (.map (some r.nb)) ∧ w1.cell? ⟨p, 2, none⟩ = some r.row ∧ w1.cell? ⟨p, 3, none⟩ = some (.bool s.dn) ∧ w1.cell? ⟨p, 4, none⟩ = some (.int .i64 s.f)) := ⟨(D1.out.dev.cells.cell 0).trans rfl, (D1.out.dev.cells.cell 1).trans rfl, (D1.out.dev.cells.cell 2).trans rfl, (D1.out.dev.cells.cell 3).trans rfl, (D1.out.dev.cells.cell 4).trans rfl⟩; clear hc1 a1 a2 a3 a4 a5 a6)
      | (go_at_call 59; (with_reducible refine (copied_any r.nb r.EN w1 D1.out.dev.now (copied_pre D1.out.dev.now D1.out.dev.sN D1.out.ok.now).1 (copied_pre D1.out.dev.now D1.out.dev.sN D1.out.ok.now).2).mono ?_); intro e w2 hc1; obtain ⟨lb2, D', rfl, a1, a2, a3, a4, a5, a6⟩ := copied_full D1.out.dev.now D1.out.dev.sN hc1; have D2 : Hid (DV w2 p r s) := D1.out.on a6; have HB : Hid (w1.heap.size ≤ lb2 ∧ FM w2 lb2 D' ∧ (∀ n, asc (plain D') n = s.now n) ∧ rooms D' = [] ∧ (∀ x ∈ D', ∃ c ∈ r.EN, blk c.2.1 = blk x.2.1 ∧ x.2.1.len = c.2.1.len) ∧ Below w1.heap.size w1 w2) := ⟨a1, a2, a3, a4, a5, a6⟩; have K2 : Hid (w2.cell? ⟨p, 0, none⟩ = some (.map (some r.kb)) ∧ w2.cell? ⟨p, 1, none⟩ = some (.map (some r.nb)) ∧ w2.cell? ⟨p, 2, none⟩ = some r.row ∧ w2.cell? ⟨p, 3, none⟩ = some (.bool s.dn) ∧ w2.cell? ⟨p, 4, none⟩ = some (.int .i64 s.f)) := ⟨(D2.out.dev.cells.cell 0).trans rfl, (D2.out.dev.cells.cell 1).trans rfl, (D2.out.dev.cells.cell 2).trans rfl, (D2.out.dev.cells.cell 3).trans rfl, (D2.out.dev.cells.cell 4).trans rfl⟩; clear hc1 a1 a2 a3 a4 a5 a6)
      | (go_at_call 60; (with_reducible refine (CloneO_any r.A r.c r.L w2 D2.out.dev.pend hL2).mono ?_); rintro e w3 ⟨A', c', rfl, a1, a2⟩; have D3 : Hid (DV w3 p r s) := D2.out.on a2; have HC : Hid (w3.ownsRow w2.heap.size 88 5 (.slice A' r.L.length c') r.L.length (r.L.flatMap encO) ∧ Below w2.heap.size w2 w3) := ⟨a1, a2⟩; have K3 : Hid (w3.cell? ⟨p, 0, none⟩ = some (.map (some r.kb)) ∧ w3.cell? ⟨p, 1, none⟩ = some (.map (some r.nb)) ∧ w3.cell? ⟨p, 2, none⟩ = some r.row ∧ w3.cell? ⟨p, 3, none⟩ = some (.bool s.dn) ∧ w3.cell? ⟨p, 4, none⟩ = some (.int .i64 s.f)) := ⟨(D3.out.dev.cells.cell 0).trans rfl, (D3.out.dev.cells.cell 1).trans rfl, (D3.out.dev.cells.cell 2).trans rfl, (D3.out.dev.cells.cell 3).trans rfl, (D3.out.dev.cells.cell 4).trans rfl⟩; clear a1 a2))
  all_goals (
    go_wp2_with fail
    go_ret
    have s1 := HA.out.2.2.2.2.2.size
    have s2 := HB.out.2.2.2.2.2.size
    have s3 := HC.out.2.size
    have hb03 : Below w.heap.size w w3 := (HA.out.2.2.2.2.2.trans (HB.out.2.2.2.2.2.mono s1)).trans (HC.out.2.mono (by omega))
    refine ⟨w3.heap.size, ⟨lb, lb2, D, D', A', c', r.L⟩, rfl, ⟨?_, H.out.ok⟩, HB.out.2.2.2.1, ?_, ?_, hb03.alloc (by omega) _⟩
    · exact {
        cells := IsB.new _ _ _
        kept := ((HA.out.2.1.on HB.out.2.2.2.2.2).on HC.out.2).on (bel1 _ _)
        now := (HB.out.2.1.on HC.out.2).on (bel1 _ _)
        two := fun e => by have := HA.out.2.1.1.lt; have := HB.out.1; simp only at e; omega
        pend := own_on (ownsRow_base HC.out.1) (bel1 _ _)
        ops := fun x hx => ⟨(D3.out.dev.ops x hx).1.on (bel1 _ _), fun q hq _ => by rw [HB.out.2.2.2.1] at hq; cases hq⟩
        safe := fun e he q hq _ => by rw [HB.out.2.2.2.1] at hq; cases hq
        sK := HA.out.2.2.1
        sO := H.out.dev.sO
        sN := HB.out.2.2.1 }
    · rintro i (rfl | rfl | rfl | e)
      · omega
      · exact HA.out.1
      · have := HB.out.1; omega
      · have := (HC.out.1.lt i e.symm).1
        omega
    · rintro d' (⟨e, he, rfl⟩ | ⟨e, he, rfl⟩ | h)
      · obtain ⟨c, hc, h1, h2⟩ := HA.out.2.2.2.2.1 e he
        exact ⟨c.2.1, .inl ⟨c, hc, rfl⟩, h1, h2⟩
      · obtain ⟨c, hc, h1, h2⟩ := HB.out.2.2.2.2.1 e he
        exact ⟨c.2.1, .inr (.inl ⟨c, hc, rfl⟩), h1, h2⟩
      · exact ⟨d', .inr (.inr h), rfl, rfl⟩)
end Go.Proofs.Ytddjkkmdcdiofaa
