/- Opening arguments: tables, lists of manifests, an ID. -/
import Derived.Test.YtjglpmcekbjoaaaH
import Derived.Test.YtjglpmcekbjoaaaOP
import Derived.Deep.SlicePairs
namespace Go.Proofs.Ytjglpmcekbjoaaa
open Go.RowKit Go.ChangeShapes Go.Deep

theorem two_of {α : Type} {l : List α} (h : l.length = 2) : ∃ a b, l = [a, b] := by
  match l, h with
  | [a, b], _ => exact ⟨a, b, rfl⟩
theorem three_of {α : Type} {l : List α} (h : l.length = 3) : ∃ a b c, l = [a, b, c] := by
  match l, h with
  | [a, b, c], _ => exact ⟨a, b, c, rfl⟩

theorem open_list {α H : Type} {enc' : TypeId × Value → H} {W : World} {base : Nat} {spare : Nat → Bool} {held : Bool} {t e : TypeId} {A : Option Addr} {len cap : Nat} {d : DataW H} {p : List MemPlace} (enc : α → List Value) (k : Nat) (dd : α) (ht : Try.prog.underlying t = some (.slice e)) (ce : Try.prog.cellsOf e = k) (hk0 : 0 < k) (hk : ∀ y, (enc y).length = k) (ok : α → Prop)
    (elem : ∀ n cs x, DataW.trod enc' Try.prog W base spare held n e cs = some x → ∃ y, ok y ∧ cs = enc y)
    (h : DataW.Trod enc' Try.prog W base spare held t (.slice A len cap) d p) : ∃ xs : List α, xs.length = len ∧ Rd enc k dd W W.heap.size A xs ∧ (∀ y ∈ xs, ok y) ∧ len ≤ cap ∧ len ≤ 9223372036854775807 := by
  obtain ⟨fuel, hf⟩ := h
  rcases open_slice ht hf with ⟨hcs, _⟩ | ⟨a, l, c, m, n, D, Pl, hcs, hb, hl, hm, hmm, _, hx⟩
  · simp [Value.cells] at hcs
    obtain ⟨rfl, rfl, rfl⟩ := hcs
    exact ⟨[], rfl, Rd.nil, by simp, Nat.le_refl _, by omega⟩
  · simp [Value.cells] at hcs
    obtain ⟨rfl, rfl, rfl⟩ := hcs
    have hlm : len ≤ m := by rw [hmm]; split <;> omega
    unfold maxLen at hm
    have each : ∀ i, i < len → ∃ y, ok y ∧ ∀ j v, (enc y)[j]? = some v → W.cell? (a.add (i * k + j)) = some v := by
      intro i hi
      obtain ⟨cs', h1, h2⟩ := hx i (by omega)
      obtain ⟨y, hy, rfl⟩ := elem _ _ _ h2
      rw [ce] at h1
      obtain ⟨_, _, hcell⟩ := World.cells?_some h1
      refine ⟨y, hy, fun j v hv => ?_⟩
      have hj : j < k := by
        have := (List.getElem?_eq_some_iff.1 hv).1
        rwa [hk] at this
      have := hcell j hj
      rw [add_add] at this
      rw [this, hv]
    haveI : Inhabited α := ⟨dd⟩
    obtain ⟨q, hq⟩ := choose_lt each
    refine ⟨(List.range len).map q, by simp, fun hp => ?_, ?_, hl, by omega⟩
    · have hp' : 0 < len := by simpa using hp
      obtain ⟨b, off, spot⟩ := a
      have hne : 0 < (enc (q 0)).length := by rw [hk]; exact hk0
      have h0 := (hq 0 hp').2 0 _ (List.getElem?_eq_getElem hne)
      have hspot : spot = none := by simpa [Addr.add] using World.cell?_spot h0
      subst hspot
      have hadd : ∀ j, (⟨b, off, none⟩ : Addr).add j = ⟨b, off + j, none⟩ := fun j => by unfold Addr.add; split <;> simp_all
      rw [hadd] at h0
      have hbl := cell_lt h0
      refine ⟨b, off, rfl, hbl, by omega, fun j hj i v hi => ?_⟩
      have hj' : j < len := by simpa using hj
      have e9 : ((List.range len).map q).getD j dd = q j := by
        rw [List.getD_eq_getElem?_getD, List.getElem?_map, List.getElem?_range hj']; rfl
      rw [e9] at hi
      have := (hq j hj').2 i v hi
      rw [hadd] at this
      rw [Nat.add_assoc]
      exact this
    · intro y hy
      obtain ⟨i, hi, rfl⟩ := List.mem_map.1 hy
      exact (hq i (List.mem_range.1 hi)).1
theorem elem43 {H : Type} {enc' : TypeId × Value → H} {W : World} {base : Nat} {spare : Nat → Bool} {held : Bool} (n : Nat) (cs : List Value) (x : DataW H × List MemPlace) (h : DataW.trod enc' Try.prog W base spare held n 43 cs = some x) : ∃ y : ID, okID y ∧ cs = encID y := by
  obtain ⟨y0, y1, n', _, hl, h0, h1⟩ := trod_struct2 Try.underlying43 h
  rw [cellsOf43] at hl
  obtain ⟨v0, v1, rfl⟩ := two_of hl
  simp [cellsOf41, cellsOf3] at h0 h1
  obtain ⟨a, e0, w0⟩ := DataW.trod_int Try.underlying41 h0
  obtain ⟨b, e1, w1⟩ := DataW.trod_int Try.underlying3 h1
  simp at e0 e1
  subst e0 e1
  exact ⟨(a, b), ⟨w0.2, w1.2⟩, rfl⟩
theorem cellsOf66 : Try.prog.cellsOf 66 = 3 := by kernel_rfl
theorem cellsOf38 : Try.prog.cellsOf 38 = 2 := by kernel_rfl
theorem cellsOf36 : Try.prog.cellsOf 36 = 1 := by kernel_rfl
theorem elem66 {H : Type} {enc' : TypeId × Value → H} {W : World} {base : Nat} {spare : Nat → Bool} {held : Bool} (n : Nat) (cs : List Value) (x : DataW H × List MemPlace) (h : DataW.trod enc' Try.prog W base spare held n 66 cs = some x) : ∃ y : CT, okID y.1 ∧ cs = encC y := by
  obtain ⟨y0, y1, n', _, hl, h0, h1⟩ := trod_struct2 Try.underlying66 h
  rw [cellsOf66] at hl
  obtain ⟨v0, v1, v2, rfl⟩ := three_of hl
  simp [cellsOf43, cellsOf3] at h0 h1
  obtain ⟨i, hi, e0⟩ := elem43 _ _ _ h0
  obtain ⟨b, e1, w1⟩ := DataW.trod_int Try.underlying3 h1
  simp [encID] at e0 e1
  obtain ⟨rfl, rfl⟩ := e0
  subst e1
  exact ⟨(i, b), hi, rfl⟩
theorem open_counts {H : Type} {enc' : TypeId × Value → H} {W : World} {base : Nat} {spare : Nat → Bool} {held : Bool} {A : Option Addr} {len cap : Nat} {d : DataW H} {p : List MemPlace}
    (h : DataW.Trod enc' Try.prog W base spare held 28 (.slice A len cap) d p) : ∃ xs : List CT, xs.length = len ∧ RdC W W.heap.size A xs ∧ (∀ c ∈ xs, okID c.1) ∧ len ≤ cap ∧ len ≤ 9223372036854775807 :=
  open_list encC 3 ct0 Try.underlying28 cellsOf66 (by omega) encC_len (fun c => okID c.1) elem66 h
/-- A manifest as it lies, and what it is. -/
def MRis (W : World) (x : Nat) (r : MR) : Prop := ∃ m : Man, Link W x r m ∧ (∀ i ∈ m.ids, okID i) ∧ m.ids.length ≤ 9223372036854775807
theorem elem38 {H : Type} {enc' : TypeId × Value → H} {W : World} {base : Nat} {spare : Nat → Bool} {held : Bool} (n : Nat) (cs : List Value) (x : DataW H × List MemPlace) (h : DataW.trod enc' Try.prog W base spare held n 38 cs = some x) : ∃ y : MR, MRis W W.heap.size y ∧ cs = encMR y := by
  obtain ⟨y0, y1, n', _, hl, h0, h1⟩ := trod_struct2 Try.underlying38 h
  rw [cellsOf38] at hl
  obtain ⟨v0, v1, rfl⟩ := two_of hl
  simp [cellsOf36, cellsOf3] at h0 h1
  obtain ⟨a, e0, w0⟩ := DataW.trod_int Try.underlying3 h0
  simp at e0
  subst e0
  obtain ⟨A, len, cap, rfl⟩ : ∃ A len cap, v1 = .slice A len cap := by
    rcases open_slice Try.underlying36 h1 with ⟨hcs, _⟩ | ⟨a, l, c, m, n, D, Pl, hcs, _⟩
    · simp at hcs; exact ⟨none, 0, 0, hcs⟩
    · simp at hcs; exact ⟨some a, l, c, hcs⟩
  obtain ⟨xs, hx1, hx2, hx3, hx4, hx5⟩ := open_list (d := y1.1) (p := y1.2) encID 2 (0, 0) Try.underlying36 cellsOf43 (by omega) encID_len okID elem43 ⟨n', by simpa [Value.cells] using h1⟩
  exact ⟨⟨a, A, len, cap⟩, ⟨⟨a, xs⟩, ⟨rfl, hx1.symm, hx4, hx2⟩, hx3, by simp only [hx1]; exact hx5⟩, rfl⟩
theorem open_mans {H : Type} {enc' : TypeId × Value → H} {W : World} {base : Nat} {spare : Nat → Bool} {held : Bool} {A : Option Addr} {len cap : Nat} {d : DataW H} {p : List MemPlace}
    (h : DataW.Trod enc' Try.prog W base spare held 22 (.slice A len cap) d p) : ∃ ms : List Man, ms.length = len ∧ RdM W W.heap.size A ms ∧ (∀ m ∈ ms, m.ids.length ≤ 9223372036854775807) ∧ (∀ m ∈ ms, ∀ i ∈ m.ids, okID i) ∧ len ≤ cap ∧ len ≤ 9223372036854775807 := by
  obtain ⟨rs, h1, h2, h3, h4, h5⟩ := open_list encMR 2 mr0 Try.underlying22 cellsOf38 (by omega) encMR_len (MRis W W.heap.size) elem38 h
  have each : ∀ i, i < rs.length → ∃ m : Man, Link W W.heap.size (rs.getD i mr0) m ∧ (∀ i ∈ m.ids, okID i) ∧ m.ids.length ≤ 9223372036854775807 := fun i hi => h3 _ (getD_mem rs mr0 i hi)
  haveI : Inhabited Man := ⟨man0⟩
  obtain ⟨q, hq⟩ := choose_lt each
  have e9 : ∀ j, j < rs.length → ((List.range rs.length).map q).getD j man0 = q j := fun j hj => by
    rw [List.getD_eq_getElem?_getD, List.getElem?_map, List.getElem?_range hj]; rfl
  refine ⟨(List.range rs.length).map q, by simpa using h1, ⟨rs, h2, by simp, fun j hj => ?_⟩, ?_, ?_, h4, h5⟩
  · have hj' : j < rs.length := by simpa using hj
    rw [e9 j hj']
    exact (hq j hj').1
  · intro m hm
    obtain ⟨i, hi, rfl⟩ := List.mem_map.1 hm
    exact (hq i (List.mem_range.1 hi)).2.2
  · intro m hm
    obtain ⟨i, hi, rfl⟩ := List.mem_map.1 hm
    exact (hq i (List.mem_range.1 hi)).2.1
theorem open_id {H : Type} {enc' : TypeId × Value → H} {W : World} {base : Nat} {spare : Nat → Bool} {held : Bool} {v : Value} {d : DataW H} {p : List MemPlace}
    (h : DataW.Trod enc' Try.prog W base spare held 43 v d p) : ∃ s z : Int, v = .agg #[.int .u64 s, .int .i64 z] := by
  obtain ⟨fuel, hf⟩ := h
  obtain ⟨⟨s, z⟩, _, e⟩ := elem43 _ _ _ hf
  refine ⟨s, z, ?_⟩
  cases v with
  | agg xs =>
    simp only [Value.cells, encID] at e
    congr 1
    apply Array.ext'
    exact e
  | _ => simp [Value.cells, encID] at e
end Go.Proofs.Ytjglpmcekbjoaaa
