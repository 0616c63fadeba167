/- Contracts of the walk, part 34. -/
import Derived.Deep.SlicePairs
import Derived.Test.YtmiknfneeipkeaaGreatQ15
import Derived.Test.YtmiknfneeipkeaaGreatQ05
import Derived.Test.YtmiknfneeipkeaaGreatQ33
import Derived.Test.YtmiknfneeipkeaaGreatQ23
import Derived.Test.YtmiknfneeipkeaaGreatQ30
namespace Go.Proofs.YtmiknfneeipkeaaGreat
open Go.RowKit Go.ChangeShapes Go.Deep
theorem two_of {α : Type} {l : List α} (h : l.length = 2) : ∃ a b, l = [a, b] := by
  match l, h with
  | [a, b], _ => exact ⟨a, b, rfl⟩
theorem three_of {α : Type} {l : List α} (h : l.length = 3) : ∃ a b c, l = [a, b, c] := by
  match l, h with
  | [a, b, c], _ => exact ⟨a, b, c, rfl⟩

theorem open_list {α H : Type} {enc' : TypeId × Value → H} {W : World} {base : Nat} {spare : Nat → Bool} {held : Bool} {t e : TypeId} {A : Option Addr} {len cap : Nat} {d : DataW H} {p : List MemPlace} (enc : α → List Value) (k : Nat) (dd : α) (ht : Tryz.prog.underlying t = some (.slice e)) (ce : Tryz.prog.cellsOf e = k) (hk0 : 0 < k) (hk : ∀ y, (enc y).length = k) (ok : α → Prop)
    (elem : ∀ n cs x, DataW.trod enc' Tryz.prog W base spare held n e cs = some x → ∃ y, ok y ∧ cs = enc y)
    (h : DataW.Trod enc' Tryz.prog W base spare held t (.slice A len cap) d p) : ∃ xs : List α, xs.length = len ∧ Rd enc k dd W W.heap.size A xs ∧ (∀ y ∈ xs, ok y) ∧ len ≤ cap ∧ len ≤ 9223372036854775807 := by
  obtain ⟨fuel, hf⟩ := h
  rcases open_slice ht hf with ⟨hcs, _⟩ | ⟨a, l, c, m, n, D, Pl, hcs, hb, hl, hm, hmm, _, hx⟩
  · simp [Value.cells] at hcs
    obtain ⟨rfl, rfl, rfl⟩ := hcs
    exact ⟨[], rfl, Rd.nil, by simp, Nat.le_refl _, by omega⟩
  · simp [Value.cells] at hcs
    obtain ⟨rfl, rfl, rfl⟩ := hcs
    have hlm : len ≤ m := by rw [hmm]; split <;> omega
    unfold maxLen at hm
    have each : ∀ i, i < len → ∃ y, ok y ∧ ∀ j v, (enc y)[j]? = some v → W.cell? (a.add (i * k + j)) = some v := by
      intro i hi
      obtain ⟨cs', h1, h2⟩ := hx i (by omega)
      obtain ⟨y, hy, rfl⟩ := elem _ _ _ h2
      rw [ce] at h1
      obtain ⟨_, _, hcell⟩ := World.cells?_some h1
      refine ⟨y, hy, fun j v hv => ?_⟩
      have hj : j < k := by
        have := (List.getElem?_eq_some_iff.1 hv).1
        rwa [hk] at this
      have := hcell j hj
      rw [add_add] at this
      rw [this, hv]
    haveI : Inhabited α := ⟨dd⟩
    obtain ⟨q, hq⟩ := choose_lt each
    refine ⟨(List.range len).map q, by simp, fun hp => ?_, ?_, hl, by omega⟩
    · have hp' : 0 < len := by simpa using hp
      obtain ⟨b, off, spot⟩ := a
      have hne : 0 < (enc (q 0)).length := by rw [hk]; exact hk0
      have h0 := (hq 0 hp').2 0 _ (List.getElem?_eq_getElem hne)
      have hspot : spot = none := by simpa [Addr.add] using World.cell?_spot h0
      subst hspot
      have hadd : ∀ j, (⟨b, off, none⟩ : Addr).add j = ⟨b, off + j, none⟩ := fun j => by unfold Addr.add; split <;> simp_all
      rw [hadd] at h0
      have hbl := cell_lt h0
      refine ⟨b, off, rfl, hbl, by omega, fun j hj i v hi => ?_⟩
      have hj' : j < len := by simpa using hj
      have e9 : ((List.range len).map q).getD j dd = q j := by
        rw [List.getD_eq_getElem?_getD, List.getElem?_map, List.getElem?_range hj']; rfl
      rw [e9] at hi
      have := (hq j hj').2 i v hi
      rw [hadd] at this
      rw [Nat.add_assoc]
      exact this
    · intro y hy
      obtain ⟨i, hi, rfl⟩ := List.mem_map.1 hy
      exact (hq i (List.mem_range.1 hi)).1
theorem elem36 {H : Type} {enc' : TypeId × Value → H} {W : World} {base : Nat} {spare : Nat → Bool} {held : Bool} (n : Nat) (cs : List Value) (x : DataW H × List MemPlace) (h : DataW.trod enc' Tryz.prog W base spare held n 36 cs = some x) : ∃ y : ID, okID y ∧ cs = encID y := by
  obtain ⟨y0, y1, n', _, hl, h0, h1⟩ := trod_struct2 Tryz.underlying36 h
  rw [cellsOf36] at hl
  obtain ⟨v0, v1, rfl⟩ := two_of hl
  simp [cellsOf34, cellsOf3] at h0 h1
  obtain ⟨a, e0, w0⟩ := DataW.trod_int Tryz.underlying34 h0
  obtain ⟨b, e1, w1⟩ := DataW.trod_int Tryz.underlying3 h1
  simp at e0 e1
  subst e0 e1
  exact ⟨(a, b), ⟨w0.2, w1.2⟩, rfl⟩
theorem cellsOf125 : Tryz.prog.cellsOf 125 = 3 := by kernel_rfl
theorem cellsOf33 : Tryz.prog.cellsOf 33 = 2 := by kernel_rfl
theorem cellsOf31 : Tryz.prog.cellsOf 31 = 1 := by kernel_rfl
theorem elem125 {H : Type} {enc' : TypeId × Value → H} {W : World} {base : Nat} {spare : Nat → Bool} {held : Bool} (n : Nat) (cs : List Value) (x : DataW H × List MemPlace) (h : DataW.trod enc' Tryz.prog W base spare held n 125 cs = some x) : ∃ y : CT, okID y.1 ∧ cs = encC y := by
  obtain ⟨y0, y1, n', _, hl, h0, h1⟩ := trod_struct2 Tryz.underlying125 h
  rw [cellsOf125] at hl
  obtain ⟨v0, v1, v2, rfl⟩ := three_of hl
  simp [cellsOf36, cellsOf3] at h0 h1
  obtain ⟨i, hi, e0⟩ := elem36 _ _ _ h0
  obtain ⟨b, e1, w1⟩ := DataW.trod_int Tryz.underlying3 h1
  simp [encID] at e0 e1
  obtain ⟨rfl, rfl⟩ := e0
  subst e1
  exact ⟨(i, b), hi, rfl⟩
theorem open_counts {H : Type} {enc' : TypeId × Value → H} {W : World} {base : Nat} {spare : Nat → Bool} {held : Bool} {A : Option Addr} {len cap : Nat} {d : DataW H} {p : List MemPlace}
    (h : DataW.Trod enc' Tryz.prog W base spare held 49 (.slice A len cap) d p) : ∃ xs : List CT, xs.length = len ∧ RdC W W.heap.size A xs ∧ (∀ c ∈ xs, okID c.1) ∧ len ≤ cap ∧ len ≤ 9223372036854775807 :=
  open_list encC 3 ct0 Tryz.underlying49 cellsOf125 (by omega) encC_len (fun c => okID c.1) elem125 h
/-- A manifest as it lies, and what it is. -/
def MRis (W : World) (x : Nat) (r : MR) : Prop := ∃ m : Man, Link W x r m ∧ (∀ i ∈ m.ids, okID i) ∧ m.ids.length ≤ 9223372036854775807
theorem elem33 {H : Type} {enc' : TypeId × Value → H} {W : World} {base : Nat} {spare : Nat → Bool} {held : Bool} (n : Nat) (cs : List Value) (x : DataW H × List MemPlace) (h : DataW.trod enc' Tryz.prog W base spare held n 33 cs = some x) : ∃ y : MR, MRis W W.heap.size y ∧ cs = encMR y := by
  obtain ⟨y0, y1, n', _, hl, h0, h1⟩ := trod_struct2 Tryz.underlying33 h
  rw [cellsOf33] at hl
  obtain ⟨v0, v1, rfl⟩ := two_of hl
  simp [cellsOf31, cellsOf3] at h0 h1
  obtain ⟨a, e0, w0⟩ := DataW.trod_int Tryz.underlying3 h0
  simp at e0
  subst e0
  obtain ⟨A, len, cap, rfl⟩ : ∃ A len cap, v1 = .slice A len cap := by
    rcases open_slice Tryz.underlying31 h1 with ⟨hcs, _⟩ | ⟨a, l, c, m, n, D, Pl, hcs, _⟩
    · simp at hcs; exact ⟨none, 0, 0, hcs⟩
    · simp at hcs; exact ⟨some a, l, c, hcs⟩
  obtain ⟨xs, hx1, hx2, hx3, hx4, hx5⟩ := open_list (d := y1.1) (p := y1.2) encID 2 (0, 0) Tryz.underlying31 cellsOf36 (by omega) encID_len okID elem36 ⟨n', by simpa [Value.cells] using h1⟩
  exact ⟨⟨a, A, len, cap⟩, ⟨⟨a, xs⟩, ⟨rfl, hx1.symm, hx4, hx2⟩, hx3, by simp only [hx1]; exact hx5⟩, rfl⟩
theorem open_mans {H : Type} {enc' : TypeId × Value → H} {W : World} {base : Nat} {spare : Nat → Bool} {held : Bool} {A : Option Addr} {len cap : Nat} {d : DataW H} {p : List MemPlace}
    (h : DataW.Trod enc' Tryz.prog W base spare held 27 (.slice A len cap) d p) : ∃ ms : List Man, ms.length = len ∧ RdM W W.heap.size A ms ∧ (∀ m ∈ ms, m.ids.length ≤ 9223372036854775807) ∧ (∀ m ∈ ms, ∀ i ∈ m.ids, okID i) ∧ len ≤ cap ∧ len ≤ 9223372036854775807 := by
  obtain ⟨rs, h1, h2, h3, h4, h5⟩ := open_list encMR 2 mr0 Tryz.underlying27 cellsOf33 (by omega) encMR_len (MRis W W.heap.size) elem33 h
  have each : ∀ i, i < rs.length → ∃ m : Man, Link W W.heap.size (rs.getD i mr0) m ∧ (∀ i ∈ m.ids, okID i) ∧ m.ids.length ≤ 9223372036854775807 := fun i hi => h3 _ (getD_mem rs mr0 i hi)
  haveI : Inhabited Man := ⟨man0⟩
  obtain ⟨q, hq⟩ := choose_lt each
  have e9 : ∀ j, j < rs.length → ((List.range rs.length).map q).getD j man0 = q j := fun j hj => by
    rw [List.getD_eq_getElem?_getD, List.getElem?_map, List.getElem?_range hj]; rfl
  refine ⟨(List.range rs.length).map q, by simpa using h1, ⟨rs, h2, by simp, fun j hj => ?_⟩, ?_, ?_, h4, h5⟩
  · have hj' : j < rs.length := by simpa using hj
    rw [e9 j hj']
    exact (hq j hj').1
  · intro m hm
    obtain ⟨i, hi, rfl⟩ := List.mem_map.1 hm
    exact (hq i (List.mem_range.1 hi)).2.2
  · intro m hm
    obtain ⟨i, hi, rfl⟩ := List.mem_map.1 hm
    exact (hq i (List.mem_range.1 hi)).2.1
theorem open_id {H : Type} {enc' : TypeId × Value → H} {W : World} {base : Nat} {spare : Nat → Bool} {held : Bool} {v : Value} {d : DataW H} {p : List MemPlace}
    (h : DataW.Trod enc' Tryz.prog W base spare held 36 v d p) : ∃ s z : Int, v = .agg #[.int .u64 s, .int .i64 z] := by
  obtain ⟨fuel, hf⟩ := h
  obtain ⟨⟨s, z⟩, _, e⟩ := elem36 _ _ _ hf
  refine ⟨s, z, ?_⟩
  cases v with
  | agg xs =>
    simp only [Value.cells, encID] at e
    congr 1
    apply Array.ext'
    exact e
  | _ => simp [Value.cells, encID] at e
theorem open_ids {H : Type} {enc' : TypeId × Value → H} {W : World} {base : Nat} {spare : Nat → Bool} {held : Bool} {A : Option Addr} {len cap : Nat} {d : DataW H} {p : List MemPlace}
    (h : DataW.Trod enc' Tryz.prog W base spare held 31 (.slice A len cap) d p) : ∃ xs : List ID, xs.length = len ∧ RdID W W.heap.size A xs ∧ (∀ c ∈ xs, okID c) ∧ len ≤ cap ∧ len ≤ 9223372036854775807 :=
  open_list encID 2 (0, 0) Tryz.underlying31 cellsOf36 (by omega) encID_len okID elem36 h
end Go.Proofs.YtmiknfneeipkeaaGreat
namespace Go.Proofs.YtmiknfneeipkeaaGreat
open Go.RowKit Go.ChangeShapes Go.Deep
theorem cellsOf42 : Tryz.prog.cellsOf 42 = 3 := by kernel_rfl
theorem cellsOf40 : Tryz.prog.cellsOf 40 = 1 := by kernel_rfl
theorem SB.rs {w : World} {A : Option Addr} {bs : List UInt8} (h : SB w A bs) : RS w A bs := by
  refine ⟨h.1, fun ad e hp => ?_⟩
  obtain ⟨b, off, spot⟩ := ad
  have hc : ∀ j, j < bs.length → (bs.map encU)[j]? = some (encU (bs.getD j 0)) := fun j hj => by
    rw [List.getElem?_map, List.getD_eq_getElem?_getD, List.getElem?_eq_getElem hj]
    rfl
  have h0 := h.2 _ e 0 _ (hc 0 hp)
  have hspot : spot = none := by simpa [Addr.add] using World.cell?_spot h0
  subst hspot
  refine ⟨b, off, rfl, fun j hj => ?_⟩
  have := h.2 _ e j _ (hc j hj)
  rw [lit_add] at this
  exact this
/-- A chunk as it lies. -/
def CHis (W : World) (y : CH) : Prop := okID y.1 ∧ BSok W y.2 ∧ y.2.bs.length ≤ 9223372036854775807
theorem elem42 {H : Type} {enc' : TypeId × Value → H} {W : World} {base : Nat} {spare : Nat → Bool} {held : Bool} (n : Nat) (cs : List Value) (x : DataW H × List MemPlace) (h : DataW.trod enc' Tryz.prog W base spare held n 42 cs = some x) : ∃ y : CH, CHis W y ∧ cs = encCH y := by
  obtain ⟨y0, y1, n', _, hl, h0, h1⟩ := trod_struct2 Tryz.underlying42 h
  rw [cellsOf42] at hl
  obtain ⟨v0, v1, v2, rfl⟩ := three_of hl
  simp [cellsOf36, cellsOf40] at h0 h1
  obtain ⟨i, hi, e0⟩ := elem36 _ _ _ h0
  obtain ⟨A, len, cap, rfl⟩ : ∃ A len cap, v2 = .slice A len cap := by
    rcases open_slice Tryz.underlying40 h1 with ⟨hcs, _⟩ | ⟨a, l, c, m, n, D, Pl, hcs, _⟩
    · simp at hcs; exact ⟨none, 0, 0, hcs⟩
    · simp at hcs; exact ⟨some a, l, c, hcs⟩
  obtain ⟨bs, hb1, ⟨hb2, hb3, hb4⟩, hb5⟩ := open_bytes (d := y1.1) (p := y1.2) ⟨n', by simpa [Value.cells] using h1⟩
  simp [encID] at e0
  obtain ⟨rfl, rfl⟩ := e0
  subst hb1
  exact ⟨(i, ⟨⟨A, bs.length, cap⟩, bs⟩), ⟨hi, ⟨hb2.rs, rfl, hb3⟩, hb5⟩, rfl⟩
theorem open_chunks {H : Type} {enc' : TypeId × Value → H} {W : World} {base : Nat} {spare : Nat → Bool} {held : Bool} {A : Option Addr} {len cap : Nat} {d : DataW H} {p : List MemPlace}
    (h : DataW.Trod enc' Tryz.prog W base spare held 23 (.slice A len cap) d p) : ∃ T : List CH, T.length = len ∧ Rd encCH 3 ch0 W W.heap.size A T ∧ (∀ y ∈ T, CHis W y) ∧ len ≤ cap ∧ len ≤ 9223372036854775807 :=
  open_list encCH 3 ch0 Tryz.underlying23 cellsOf42 (by omega) encCH_len (CHis W) elem42 h
end Go.Proofs.YtmiknfneeipkeaaGreat
namespace Go.Proofs.YtmiknfneeipkeaaGreat
open Go.RowKit Go.MapKept Go.ChangeMaps Go.Shelf Go.Sort
/-- The bytes of chunks, read. -/
def bsOb (S : List CH) : Ob where
  own := fun _ => False
  rd := fun i => ∃ e ∈ S, 0 < e.2.bs.length ∧ ∃ o, e.2.d.A = some ⟨i, o, none⟩
  holds := fun w => ∀ e ∈ S, BSok w e.2
  stable := fun w w' h hs hk => fun e he => (h e he).keep (fun i hi => hk i (.inr ⟨e, he, hi⟩))
/-- Few small manifests. -/
def FewS (ms : List Man) : Prop := ms.length ≤ 4 ∧ ∀ m ∈ ms, m.ids.length ≤ 3 ∧ ∀ i ∈ m.ids, okID i ∧ i.2 ≤ 9
theorem tnext_lt (L : List Int) (n : Nat) {k : Int} (h : 0 < k) : tnext L n k < k := by
  by_cases h1 : 1 < k
  · exact (tnext_in L n k).2 h1
  · obtain rfl : k = 1 := by omega
    have : tnext L n 1 = 0 := by simp [tnext, foldI]
    omega
section
variable {b : Nat} {w0 w w' : World} {l : List Ob}
theorem SW.bufsBs {T : List BS} {S : List CH} (h : SW b w0 (bufsOb T :: l) w) (hs : ∀ e ∈ S, e.2 ∈ T) : SW b w0 (bsOb S :: l) w := by
  have hT : (bufsOb T).holds w := h.get 0 rfl
  refine SW.fuse (pre := [bufsOb T]) h (fun e he => ?_) (fun _ h => h) (fun i hi => ?_)
  · have hr := hT _ (hs e he)
    exact ⟨hr.rs, hr.1.symm, hr.2.1⟩
  · obtain ⟨e, he, _, o, ho⟩ := hi
    exact ⟨_, .head _, .inr ⟨e.2, hs e he, by simp [blk, ho]⟩⟩
theorem SW.bsSub {S S' : List CH} (h : SW b w0 (bsOb S :: l) w) (hs : ∀ e ∈ S', e ∈ S) : SW b w0 (bsOb S' :: l) w := by
  have hT : (bsOb S).holds w := h.get 0 rfl
  refine SW.fuse (pre := [bsOb S]) h (fun e he => hT e (hs e he)) (fun _ h => h) (fun i hi => ?_)
  obtain ⟨e, he, hp⟩ := hi
  exact ⟨_, .head _, .inr ⟨e, hs e he, hp⟩⟩
theorem SW.bsCons {S : List CH} {d : BD} {bs : List UInt8} (h : SW b w0 (bxOb d bs :: bsOb S :: l) w) (i : ID) (hd : d.len = bs.length ∧ d.len ≤ d.cap) : SW b w0 (bsOb ((i, ⟨d, bs⟩) :: S) :: l) w := by
  have hX := h.get 0 (o := bxOb d bs) rfl
  have hT : (bsOb S).holds w := h.get 1 rfl
  refine SW.fuse (pre := [bxOb d bs, bsOb S]) h (fun e he => ?_) (fun _ h => h) (fun j hj => ?_)
  · rcases List.mem_cons.1 he with rfl | he
    · exact ⟨SB.rs hX.1.sb, hd.1, hd.2⟩
    · exact hT e he
  · obtain ⟨e, he, hp, o, ho⟩ := hj
    rcases List.mem_cons.1 he with rfl | he
    · exact ⟨_, .head _, .inl (by show blk d = some j; simp only at ho; simp [blk, ho])⟩
    · exact ⟨_, .tail _ (.head _), .inr ⟨e, he, hp, o, ho⟩⟩
theorem SW.msDup {rs : List MR} {ms : List Man} (h : SW b w0 (msOb rs ms :: l) w) {k : Nat} (hk : k < ms.length) : SW b w0 (msOb (rs ++ [rs.getD k mr0]) (ms ++ [ms.getD k man0]) :: l) w := by
  have hM : (msOb rs ms).holds w := h.get 0 rfl
  have e1 : ∀ j, j < ms.length → (ms ++ [ms.getD k man0]).getD j man0 = ms.getD j man0 ∧ (rs ++ [rs.getD k mr0]).getD j mr0 = rs.getD j mr0 := fun j hj => ⟨getD_left hj, getD_left (by rw [hM.1]; exact hj)⟩
  have e2 : (ms ++ [ms.getD k man0]).getD ms.length man0 = ms.getD k man0 ∧ (rs ++ [rs.getD k mr0]).getD ms.length mr0 = rs.getD k mr0 := by
    constructor
    · rw [getD_right (Nat.le_refl _), Nat.sub_self]; rfl
    · rw [← hM.1, getD_right (Nat.le_refl _), Nat.sub_self]; rfl
  refine SW.fuse (pre := [msOb rs ms]) h ⟨by rw [List.length_append, List.length_append, hM.1]; rfl, fun j hj => ?_⟩ (fun _ h => h) (fun i hi => ?_)
  · rw [List.length_append, List.length_singleton] at hj
    by_cases hj1 : j < ms.length
    · rw [(e1 j hj1).1, (e1 j hj1).2]
      exact hM.2 j hj1
    · obtain rfl : j = ms.length := by omega
      rw [e2.1, e2.2]
      exact hM.2 k hk
  · obtain ⟨j, hj, hp, o, ho⟩ := hi
    rw [List.length_append, List.length_singleton] at hj
    by_cases hj1 : j < ms.length
    · rw [(e1 j hj1).1] at hp
      rw [(e1 j hj1).2] at ho
      exact ⟨_, .head _, .inr ⟨j, hj1, hp, o, ho⟩⟩
    · obtain rfl : j = ms.length := by omega
      rw [e2.1] at hp
      rw [e2.2] at ho
      exact ⟨_, .head _, .inr ⟨k, hk, hp, o, ho⟩⟩
theorem getD_set {α : Type} {l : List α} {k j : Nat} {x d : α} (hk : k < l.length) : (l.set k x).getD j d = if j = k then x else l.getD j d := by
  rw [List.getD_eq_getElem?_getD, List.getD_eq_getElem?_getD]
  by_cases h : j = k
  · subst h
    rw [if_pos rfl, List.getElem?_set_self hk]
    rfl
  · rw [if_neg h, List.getElem?_set_ne (fun e => h e.symm)]
theorem SW.msSet {rs : List MR} {ms : List Man} (h : SW b w0 (msOb rs ms :: l) w) {k : Nat} (hk : k < ms.length) {r : MR} {m : Man} (hr : rs.getD k mr0 = r) (hm : ms.getD k man0 = m) (z : Int) : SW b w0 (msOb (rs.set k ⟨z, r.A, r.len, r.cap⟩) (ms.set k ⟨z, m.ids⟩) :: l) w := by
  subst hr hm
  have hM : (msOb rs ms).holds w := h.get 0 rfl
  have hk2 : k < rs.length := by rw [hM.1]; exact hk
  refine SW.fuse (pre := [msOb rs ms]) h ⟨by rw [List.length_set, List.length_set, hM.1], fun j hj => ?_⟩ (fun _ h => h) (fun i hi => ?_)
  · rw [List.length_set] at hj
    have hj0 := hM.2 j hj
    rw [getD_set hk, getD_set hk2]
    by_cases hjk : j = k
    · subst hjk
      rw [if_pos rfl, if_pos rfl]
      exact ⟨rfl, hj0.2.1, hj0.2.2.1, hj0.2.2.2⟩
    · rw [if_neg hjk, if_neg hjk]
      exact hj0
  · obtain ⟨j, hj, hp, o, ho⟩ := hi
    rw [List.length_set] at hj
    rw [getD_set hk] at hp
    rw [getD_set hk2] at ho
    by_cases hjk : j = k
    · subst hjk
      rw [if_pos rfl] at hp ho
      exact ⟨_, .head _, .inr ⟨j, hj, hp, o, ho⟩⟩
    · rw [if_neg hjk] at hp ho
      exact ⟨_, .head _, .inr ⟨j, hj, hp, o, ho⟩⟩
theorem SW.cellRi {g : Nat} {i : ID} (h : SW b w0 (cellOb g 36 #[.int .u64 i.1, .int .i64 i.2] :: l) w) : SW b w0 (riOb (some ⟨g, 0, none⟩) [i] :: l) w := by
  have hc : IsB w g 36 #[.int .u64 i.1, .int .i64 i.2] := h.get 0 (o := cellOb g 36 _) rfl
  refine h.asRead (o' := riOb (some ⟨g, 0, none⟩) [i]) ⟨(fun e => by cases e), fun ad e => ?_⟩ (fun _ h => h) (fun j hj => ?_)
  · injection e with e
    subst e
    refine ⟨g, rfl, ⟨_, hc, by simp, fun j hj => ?_⟩, hc.lt⟩
    obtain rfl : j = 0 := by simp at hj; omega
    exact ⟨rfl, rfl⟩
  · have e : some (⟨g, 0, none⟩ : Addr) = some ⟨j, 0, none⟩ := hj
    injection e with e
    injection e with e
    exact e.symm
/-- A cell of a row is set. -/
theorem ownsRow_set {e : TypeId} {size n c g : Nat} {xs : List Value} (h : w.ownsRow 0 e size (.slice (some ⟨g, 0, none⟩) n c) n xs) (j : Nat) (u : Value) : (w.setCell ⟨g, j, none⟩ u).ownsRow 0 e size (.slice (some ⟨g, 0, none⟩) n c) n (xs.set j u) := by
  rcases h.2 with ⟨hv, _⟩ | ⟨g2, cap, cur, hv, hb, hg, hnc, hcm, hcs, ht⟩
  · cases hv
  · injection hv with e1 e2 e3
    injection e1 with e1
    injection e1 with e1
    subst e1
    subst e3
    refine ⟨by rw [List.length_set]; exact h.1, .inr ⟨g, c, cur.setIfInBounds j u, rfl, hb, IsB.set_ (show IsB w g e cur from hg) j u, hnc, hcm, by simpa using hcs, ?_⟩⟩
    rw [Array.toList_setIfInBounds, List.take_set, ht]
end
theorem flat_set2 {α : Type} {enc : α → List Value} {k : Nat} (hk : ∀ y, (enc y).length = k) (hp : 0 < k) (d y : α) (u : Value) : ∀ (l : List α) (j : Nat), j < l.length → enc y = (enc (l.getD j d)).set 0 u → (l.flatMap enc).set (j * k) u = (l.set j y).flatMap enc := by
  intro l
  induction l with
  | nil => intro j hj; simp at hj
  | cons a l ih =>
    intro j hj hy
    cases j with
    | zero =>
      simp only [List.getD_cons_zero] at hy
      rw [List.set_cons_zero, List.flatMap_cons, List.flatMap_cons, hy, Nat.zero_mul, List.set_append_left _ _ (by rw [hk]; exact hp)]
    | succ j =>
      rw [List.getD_cons_succ] at hy
      have h1 := ih j (by simpa using hj) hy
      rw [List.set_cons_succ, List.flatMap_cons, List.flatMap_cons, ← h1, List.set_append_right _ _ (by rw [hk, Nat.succ_mul]; omega), hk]
      congr 2
      rw [Nat.succ_mul]
      omega
theorem im_row {w : World} {A : Option Addr} {c : Nat} {rs : List MR} {ms : List Man} (hr : w.ownsRow 0 33 2 (.slice A ms.length c) ms.length (rs.flatMap encMR)) (hm : (msOb rs ms).holds w) : (imOb A rs ms).holds w :=
  ⟨row_rdM hr hm.1, hm.1, hm.2⟩
theorem cx_row {w : World} {A : Option Addr} {q c : Nat} {S : List CH} (hr : w.ownsRow 0 42 3 (.slice A q c) q (S.flatMap encCH)) (hq : S.length = q) (hb : ∀ e ∈ S, BSok w e.2) : (cxOb A S).holds w := ⟨row_rdCH hr hq, hb⟩
/-- Facts of the manifests of contents. -/
theorem few_mans {Ps : List (List BS)} (h : GoodPs Ps) : ∀ m ∈ mansT Ps, manE m = 0 ∧ m.ids.length ≤ 3 ∧ (0 ≤ m.size ∧ m.size ≤ 9) ∧ ∀ i ∈ m.ids, okID i ∧ i.2 ≤ 9 := by
  intro m hm
  refine ⟨good_man h m hm, good_ids h m hm, ?_, fun i hi => ⟨good_ok h m hm i hi, ?_⟩⟩
  · obtain ⟨T, hT, rfl⟩ := List.mem_map.1 hm
    have h1 := lenS_le (T := T) (B := 3) (fun e he => ((h.2 T hT).2 e he).2)
    have h2 := (h.2 T hT).1
    simp only [manT]
    omega
  · obtain ⟨T, hT, rfl⟩ := List.mem_map.1 hm
    obtain ⟨e, he, rfl⟩ := List.mem_map.1 hi
    have h1 := ((h.2 T hT).2 e he).2
    show ((e.bs.length : Nat) : Int) ≤ 9
    omega
theorem chs_few {Ps : List (List BS)} (h : GoodPs Ps) : (chsT Ps).length ≤ 9 ∧ ∀ e ∈ chsT Ps, okID e.1 ∧ e.2.bs.length ≤ 5 ∧ e.2 ∈ allT Ps := by
  constructor
  · have : ∀ l : List (List BS), (∀ T ∈ l, T.length ≤ 3) → (l.flatMap chOfT).length ≤ 3 * l.length := by
      intro l
      induction l with
      | nil => intro _; simp
      | cons a l ih =>
        intro hl
        have h1 := ih (fun T hT => hl T (.tail _ hT))
        have h2 := hl a (.head _)
        rw [List.flatMap_cons, List.length_append, List.length_cons, chOfT_len]
        omega
    have h1 := this Ps (fun T hT => (h.2 T hT).1)
    have h2 := h.1
    show (Ps.flatMap chOfT).length ≤ 9
    omega
  · intro e he
    obtain ⟨T, hT, he⟩ := List.mem_flatMap.1 he
    obtain ⟨x, hx, rfl⟩ := List.mem_map.1 he
    have h1 := ((h.2 T hT).2 x hx).2
    exact ⟨okID_fp _ (by omega), (show x.bs.length ≤ 5 by omega), List.mem_flatMap.2 ⟨T, hT, hx⟩⟩
/-- The pack of few small chunks is small. -/
theorem pack_few {ids : List ID} {T : List CH} (hn : ids.length ≤ 100) (ha : AllR ids T) (hs : ∀ i ∈ ids, i.2 ≤ 9) : (packP (selR ids T)).length ≤ 1048576 := by
  have hl : ∀ e ∈ selR ids T, (frameP e).length ≤ 50 := fun e he => by
    obtain ⟨i, hi, rfl⟩ := List.mem_map.1 he
    obtain ⟨x, hx⟩ := Option.isSome_iff_exists.1 (ha i hi)
    obtain ⟨_, h2, _⟩ := firstR_id hx
    rw [hx, Option.getD_some]
    have h3 : ((x.2.bs.length : Nat) : Int) = i.2 := congrArg Prod.snd h2
    have h4 := hs i hi
    have h5 := putU_ten (v := x.2.bs.length) (by omega)
    have h6 := putU_ten (v := fpSum x.2.bs) (by have := fpSum_lt x.2.bs; unfold pP at this; omega)
    rw [frameP]
    simp only [List.length_append, List.length_singleton]
    omega
  have hsum : ∀ l : List CH, (∀ e ∈ l, (frameP e).length ≤ 50) → (l.flatMap frameP).length ≤ 50 * l.length := by
    intro l
    induction l with
    | nil => intro _; simp
    | cons a l ih =>
      intro h
      have h1 := ih (fun e he => h e (.tail _ he))
      have h2 := h a (.head _)
      rw [List.flatMap_cons, List.length_append, List.length_cons]
      omega
  have h1 := hsum _ hl
  have h2 := selR_len ids T
  have h5 := putU_ten (v := (selR ids T).length) (by omega)
  have h6 := putU_ten (v := fpSum (packB (selR ids T))) (by have := fpSum_lt (packB (selR ids T)); unfold pP at this; omega)
  rw [packP, List.length_append]
  have h7 : (packB (selR ids T)).length = 4 + ((selR ids T).flatMap frameP).length + 1 + (putU (selR ids T).length).length := by
    simp [packB, packF]
    omega
  omega
theorem few_pack {ms : List Man} (h : FewS ms) (T : List CH) : AllR (setR (idsOf ms)) T → (packP (selR (setR (idsOf ms)) T)).length ≤ 1048576 := fun ha => by
  have h1 := idsOf_few (B := 3) (fun m hm => (h.2 m hm).1)
  have h2 := setR_len (idsOf ms)
  have h3 := h.1
  refine pack_few (by omega) ha (fun i hi => ?_)
  rw [setR_mem] at hi
  obtain ⟨m, hm, hi⟩ := List.mem_flatMap.1 hi
  exact ((h.2 m hm).2 i hi).2
/-- What Store answers. -/
def StoR (ms : List Man) (T : List CH) (f : Int) (bs : List UInt8) : Prop :=
  (errM ms ≠ 0 ∧ f = errM ms ∧ bs = []) ∨ (errM ms = 0 ∧ ¬ (OneM ms ∧ AllR (setR (idsOf ms)) T) ∧ f = 411 ∧ bs = []) ∨
  (errM ms = 0 ∧ OneM ms ∧ AllR (setR (idsOf ms)) T ∧ f = 0 ∧ ∃ ys, ConM ms ys ∧ bs = volB ys (selR (setR (idsOf ms)) T))
theorem stoR_uniq {ms : List Man} {T : List CH} {f f' : Int} {bs bs' : List UInt8} (h : StoR ms T f bs) (h' : StoR ms T f' bs') : f' = f ∧ bs' = bs := by
  rcases h with ⟨a1, rfl, rfl⟩ | ⟨a1, a2, rfl, rfl⟩ | ⟨a1, a2, a3, rfl, ys, a4, rfl⟩ <;> rcases h' with ⟨b1, rfl, rfl⟩ | ⟨b1, b2, rfl, rfl⟩ | ⟨b1, b2, b3, rfl, zs, b4, rfl⟩
  · exact ⟨rfl, rfl⟩
  · exact absurd b1 a1
  · exact absurd b1 a1
  · exact absurd a1 b1
  · exact ⟨rfl, rfl⟩
  · exact absurd ⟨b2, b3⟩ a2
  · exact absurd a1 b1
  · exact absurd ⟨a2, a3⟩ b2
  · exact ⟨rfl, by rw [conM_uniq b4 a4]⟩
theorem buf_nil {w w' : World} (h : Below w.heap.size w w') : Buf w w' ⟨none, 0, 0⟩ [] := ⟨⟨rfl, Nat.le_refl _, (fun _ => rfl), (fun ad e => by cases e)⟩, (fun g hg => by cases hg), h⟩
theorem stoB_sum {ms : List Man} {T : List CH} {w : World} {e : Ending} {w' : World} (h : StoB ms T w e w') : ∃ (d : BD) (bs : List UInt8) (f : Int), e = .returned (.tuple #[.slice d.A d.len d.cap, .int .i64 f]) ∧ Buf w w' d bs ∧ StoR ms T f bs := by
  rcases h with ⟨h1, h2, h3⟩ | ⟨h1, h2, h3, h4⟩ | ⟨h1, h2, h3, ys, d, h4, h5, h6⟩
  · exact ⟨⟨none, 0, 0⟩, [], _, h2, buf_nil h3, .inl ⟨h1, rfl, rfl⟩⟩
  · exact ⟨⟨none, 0, 0⟩, [], _, h3, buf_nil h4, .inr (.inl ⟨h1, h2, rfl, rfl⟩)⟩
  · exact ⟨d, _, _, h5, h6, .inr (.inr ⟨h1, h2, h3, rfl, ys, h4, rfl⟩)⟩
end Go.Proofs.YtmiknfneeipkeaaGreat
