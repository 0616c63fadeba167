/- Contracts of the walk, part 36. -/
import Derived.Test.YtmiknfneeipkeaaGreatRows
import Derived.Test.YtmiknfneeipkeaaGreatQ34
import Derived.Test.YtmiknfneeipkeaaGreatQ35
namespace Go.Proofs.YtmiknfneeipkeaaGreat
open Go.RowKit Go.ChangeShapes Go.Deep
namespace bulks
theorem one_le {H : Type} (d : DataW H) : 1 ≤ Rows.uptoBulk d := by
  cases d with
  | lit l => cases l <;> simp [Rows.uptoBulk]
  | nil => simp [Rows.uptoBulk]
  | ptr d => simp [Rows.uptoBulk]
  | slice elems spare => simp [Rows.uptoBulk]
  | agg parts => simp [Rows.uptoBulk]
  | iface t d => simp [Rows.uptoBulk]
  | map entries => simp [Rows.uptoBulk]
  | held h => simp [Rows.uptoBulk]
theorem part_le {H : Type} {d : DataW H} {l : List (DataW H)} (h : d ∈ l) : Rows.uptoBulk d ≤ Rows.uptoBulkAll l := by
  induction l with
  | nil => cases h
  | cons x r ih =>
    simp only [Rows.uptoBulkAll]
    cases List.mem_cons.1 h with
    | inl e => subst e; omega
    | inr e => have := ih e; omega
theorem length_le {H : Type} (l : List (DataW H)) : l.length ≤ Rows.uptoBulkAll l := by
  induction l with
  | nil => simp [Rows.uptoBulkAll]
  | cons x r ih => have := one_le x; simp only [Rows.uptoBulkAll, List.length_cons]; omega
theorem slice_elems {H : Type} (elems spare : List (DataW H)) : Rows.uptoBulkAll elems + 1 ≤ Rows.uptoBulk (.slice elems spare) := by
  simp only [Rows.uptoBulk]
  omega
end bulks
theorem slice_bulk {H : Type} {enc' : TypeId × Value → H} {W : World} {base : Nat} {spare : Nat → Bool} {held : Bool} {t e : TypeId} {A : Option Addr} {len cap n : Nat} {x : DataW H × List MemPlace} (ht : Tryz.prog.underlying t = some (.slice e)) (h : DataW.trod enc' Tryz.prog W base spare held n t [.slice A len cap] = some x) : len ≤ Rows.uptoBulk x.1 := by
  rcases open_slice ht h with ⟨hcs, rfl⟩ | ⟨a, l, c, m, n, D, Pl, hcs, hb, hl, hm, hmm, rfl, hx⟩
  · simp at hcs
    omega
  · simp at hcs
    obtain ⟨rfl, rfl, rfl⟩ := hcs
    have h1 := bulks.length_le ((List.range len).map D)
    have h2 := bulks.slice_elems ((List.range len).map D) ((List.range (m - len)).map fun j => D (len + j))
    rw [List.length_map, List.length_range] at h1
    simp only
    omega
theorem open_listB {α H : Type} {enc' : TypeId × Value → H} {W : World} {base : Nat} {spare : Nat → Bool} {held : Bool} {t e : TypeId} {A : Option Addr} {len cap : Nat} {d : DataW H} {p : List MemPlace} (enc : α → List Value) (k : Nat) (dd : α) (ht : Tryz.prog.underlying t = some (.slice e)) (ce : Tryz.prog.cellsOf e = k) (hk0 : 0 < k) (hk : ∀ y, (enc y).length = k) (ok : α → Prop) (bnd : α → Nat)
    (elem : ∀ n cs x, DataW.trod enc' Tryz.prog W base spare held n e cs = some x → ∃ y, (ok y ∧ bnd y ≤ Rows.uptoBulk x.1) ∧ cs = enc y)
    (h : DataW.Trod enc' Tryz.prog W base spare held t (.slice A len cap) d p) : ∃ xs : List α, xs.length = len ∧ Rd enc k dd W W.heap.size A xs ∧ (∀ y ∈ xs, ok y ∧ bnd y ≤ Rows.uptoBulk d) ∧ len ≤ cap ∧ len ≤ Rows.uptoBulk d := by
  obtain ⟨fuel, hf⟩ := h
  have hlb := slice_bulk ht hf
  rcases open_slice ht hf with ⟨hcs, _⟩ | ⟨a, l, c, m, n, D, Pl, hcs, hb, hl, hm, hmm, hdp, hx⟩
  · simp [Value.cells] at hcs
    obtain ⟨rfl, rfl, rfl⟩ := hcs
    exact ⟨[], rfl, Rd.nil, by simp, Nat.le_refl _, hlb⟩
  · simp [Value.cells] at hcs
    obtain ⟨rfl, rfl, rfl⟩ := hcs
    have hd : d = .slice ((List.range len).map D) ((List.range (m - len)).map fun j => D (len + j)) := congrArg Prod.fst hdp
    have hlm : len ≤ m := by rw [hmm]; split <;> omega
    unfold maxLen at hm
    have hDb : ∀ i, i < len → Rows.uptoBulk (D i) ≤ Rows.uptoBulk d := fun i hi => by
      have h1 : Rows.uptoBulk (D i) ≤ Rows.uptoBulkAll ((List.range len).map D) := bulks.part_le (List.mem_map.2 ⟨i, List.mem_range.2 hi, rfl⟩)
      have h2 := bulks.slice_elems ((List.range len).map D) ((List.range (m - len)).map fun j => D (len + j))
      rw [hd]
      omega
    have each : ∀ i, i < len → ∃ y, (ok y ∧ bnd y ≤ Rows.uptoBulk d) ∧ ∀ j v, (enc y)[j]? = some v → W.cell? (a.add (i * k + j)) = some v := by
      intro i hi
      obtain ⟨cs', h1, h2⟩ := hx i (by omega)
      obtain ⟨y, hy, rfl⟩ := elem _ _ _ h2
      rw [ce] at h1
      obtain ⟨_, _, hcell⟩ := World.cells?_some h1
      refine ⟨y, ⟨hy.1, Nat.le_trans hy.2 (hDb i hi)⟩, fun j v hv => ?_⟩
      have hj : j < k := by
        have := (List.getElem?_eq_some_iff.1 hv).1
        rwa [hk] at this
      have := hcell j hj
      rw [add_add] at this
      rw [this, hv]
    haveI : Inhabited α := ⟨dd⟩
    obtain ⟨q, hq⟩ := choose_lt each
    refine ⟨(List.range len).map q, by simp, fun hp => ?_, ?_, hl, hlb⟩
    · have hp' : 0 < len := by simpa using hp
      obtain ⟨b, off, spot⟩ := a
      have hne : 0 < (enc (q 0)).length := by rw [hk]; exact hk0
      have h0 := (hq 0 hp').2 0 _ (List.getElem?_eq_getElem hne)
      have hspot : spot = none := by simpa [Addr.add] using World.cell?_spot h0
      subst hspot
      have hadd : ∀ j, (⟨b, off, none⟩ : Addr).add j = ⟨b, off + j, none⟩ := fun j => by unfold Addr.add; split <;> simp_all
      rw [hadd] at h0
      have hbl := cell_lt h0
      refine ⟨b, off, rfl, hbl, by omega, fun j hj i v hi => ?_⟩
      have hj' : j < len := by simpa using hj
      have e9 : ((List.range len).map q).getD j dd = q j := by
        rw [List.getD_eq_getElem?_getD, List.getElem?_map, List.getElem?_range hj']; rfl
      rw [e9] at hi
      have := (hq j hj').2 i v hi
      rw [hadd] at this
      rw [Nat.add_assoc]
      exact this
    · intro y hy
      obtain ⟨i, hi, rfl⟩ := List.mem_map.1 hy
      exact (hq i (List.mem_range.1 hi)).1
theorem elem42B {H : Type} {enc' : TypeId × Value → H} {W : World} {base : Nat} {spare : Nat → Bool} {held : Bool} (n : Nat) (cs : List Value) (x : DataW H × List MemPlace) (h : DataW.trod enc' Tryz.prog W base spare held n 42 cs = some x) : ∃ y : CH, (CHis W y ∧ y.2.bs.length ≤ Rows.uptoBulk x.1) ∧ cs = encCH y := by
  obtain ⟨y, hy, hcs⟩ := elem42 n cs x h
  obtain ⟨y0, y1, n', hx, hl, h0, h1⟩ := trod_struct2 Tryz.underlying42 h
  refine ⟨y, ⟨hy, ?_⟩, hcs⟩
  subst hcs
  rw [hx]
  simp [cellsOf36, cellsOf40, encCH, vBS] at h1
  have h2 := slice_bulk Tryz.underlying40 h1
  rw [hy.2.1.2.1] at h2
  simp only [Rows.uptoBulk, Rows.uptoBulkAll]
  omega
theorem open_chunksB {H : Type} {enc' : TypeId × Value → H} {W : World} {base : Nat} {spare : Nat → Bool} {held : Bool} {A : Option Addr} {len cap : Nat} {d : DataW H} {p : List MemPlace}
    (h : DataW.Trod enc' Tryz.prog W base spare held 23 (.slice A len cap) d p) : ∃ T : List CH, T.length = len ∧ Rd encCH 3 ch0 W W.heap.size A T ∧ (∀ y ∈ T, CHis W y ∧ y.2.bs.length ≤ Rows.uptoBulk d) ∧ len ≤ cap ∧ len ≤ Rows.uptoBulk d :=
  open_listB encCH 3 ch0 Tryz.underlying23 cellsOf42 (by omega) encCH_len (CHis W) (fun y => y.2.bs.length) elem42B h
end Go.Proofs.YtmiknfneeipkeaaGreat
namespace Go.Proofs.YtmiknfneeipkeaaGreat
open Go.RowKit Go.MapKept Go.ChangeMaps Go.Shelf Go.Sort
theorem law3 {A : Option Addr} {L : List Int} {n : Nat} (e : L.length = n) (cap : Nat) {C : Option Addr} {T : List CH} {q : Nat} (e2 : T.length = q) (rc B : Nat) (w : World) (hr : RdT w w.heap.size A L) (hT : Rd encCH 3 ch0 w w.heap.size C T) (ho : ∀ y ∈ T, CHis w y ∧ y.2.bs.length ≤ B) (hl : n ≤ 9223372036854775807) (hq : q ≤ B) (hB : B ≤ 1048576) :
    Calls Tryz.prog 3 #[.slice A n cap, .slice C q rc] w (fun e w' => e = .returned (.bool true) ∧ Below w.heap.size w w') := by
  subst e
  subst e2
  have hc : (cxOb C T).holds w := ⟨hT, fun x hx => (ho x hx).1.2.1⟩
  have S0 : SW w.heap.size w [inOb A L, cxOb C T] w := SW.starts (fun o hm => by
    rcases List.mem_cons.1 hm with rfl | hm
    · refine ⟨⟨hr, hl⟩, fun _ h => h, fun i hi => ?_⟩
      obtain ⟨hp, o, e⟩ := hi
      obtain ⟨q, o', e', hlt, _⟩ := hr hp
      rw [e] at e'
      injection e' with e'
      injection e' with e' _
      rw [e']
      exact hlt
    · rw [List.mem_singleton.1 hm]
      exact ⟨hc, fun _ h => h, cx_lt hc⟩)
  exact law3_any S0 (.head _) cap (.tail _ (.head _)) rc (by omega) (fun x hx => (ho x hx).1.1) (fun x hx => Nat.le_trans (ho x hx).2 hB)
end Go.Proofs.YtmiknfneeipkeaaGreat
