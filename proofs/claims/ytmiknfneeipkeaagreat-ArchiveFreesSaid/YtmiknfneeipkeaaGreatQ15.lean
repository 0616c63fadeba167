/- Contracts of the walk, part 15. -/
import Derived.Lib.Hide
import Derived.Test.YtmiknfneeipkeaaGreatQ14
import Derived.Test.YtmiknfneeipkeaaGreatQ05
import Derived.Test.YtmiknfneeipkeaaGreatQ02
import Derived.Test.YtmiknfneeipkeaaGreatQ09
namespace Go.Proofs.YtmiknfneeipkeaaGreat
open Go.RowKit Go.MapKept Go.ChangeMaps Go.Shelf Go.Sort
attribute [local go_sem] wext_cell
abbrev id0 : ID := (0, 0)
/-- Block g has the IDs l at its head. -/
def RowI (w : World) (g : Nat) (l : List ID) : Prop := ∃ cur, IsB w g 36 cur ∧ l.length * 2 ≤ cur.size ∧ ∀ j, j < l.length → cur[j * 2]? = some (.int .u64 (l.getD j id0).1) ∧ cur[j * 2 + 1]? = some (.int .i64 (l.getD j id0).2)
theorem RowI.on {w w' : World} {g : Nat} {l : List ID} (h : RowI w g l) (hb : Below w.heap.size w w') : RowI w' g l := by
  obtain ⟨cur, h1, h2⟩ := h
  exact ⟨cur, h1.on hb, h2⟩
theorem RowI.cells {w : World} {g : Nat} {l : List ID} (h : RowI w g l) {j : Nat} (hj : j < l.length) {x : ID} (hx : l.getD j id0 = x) : w.cell? ⟨g, j * 2, none⟩ = some (.int .u64 x.1) ∧ w.cell? ⟨g, j * 2 + 1, none⟩ = some (.int .i64 x.2) ∧ w.frozen? ⟨g, j * 2, none⟩ = false ∧ w.frozen? ⟨g, j * 2 + 1, none⟩ = false := by
  obtain ⟨cur, h1, h2, h3⟩ := h
  subst hx
  exact ⟨(h1.cell _).trans (h3 j hj).1, (h1.cell _).trans (h3 j hj).2, h1.frozen _, h1.frozen _⟩
theorem RowI.put {w : World} {g : Nat} {l : List ID} (h : RowI w g l) (k : Nat) (hk : k < l.length) (x : ID) : RowI ((w.setCell ⟨g, k * 2, none⟩ (.int .u64 x.1)).setCell ⟨g, k * 2 + 1, none⟩ (.int .i64 x.2)) g (l.set k x) := by
  obtain ⟨cur, h1, h2, h3⟩ := h
  refine ⟨_, (h1.set_ (k * 2) (.int .u64 x.1)).set_ (k * 2 + 1) (.int .i64 x.2), by simp; omega, fun j hj => ?_⟩
  simp only [List.length_set] at hj
  obtain ⟨c0, c1⟩ := h3 j hj
  by_cases e : k = j
  · subst e
    have e1 : (l.set k x).getD k id0 = x := by rw [List.getD_eq_getElem?_getD, List.getElem?_set_self hk]; rfl
    rw [e1]
    refine ⟨?_, ?_⟩
    · rw [Array.getElem?_setIfInBounds_ne (by omega), Array.getElem?_setIfInBounds_self_of_lt (by omega)]
    · rw [Array.getElem?_setIfInBounds_self_of_lt (by simp; omega)]
  · have e1 : (l.set k x).getD j id0 = l.getD j id0 := by rw [List.getD_eq_getElem?_getD, List.getElem?_set_ne e, List.getD_eq_getElem?_getD]
    rw [e1]
    refine ⟨?_, ?_⟩
    · rw [Array.getElem?_setIfInBounds_ne (by omega), Array.getElem?_setIfInBounds_ne (by omega)]; exact c0
    · rw [Array.getElem?_setIfInBounds_ne (by omega), Array.getElem?_setIfInBounds_ne (by omega)]; exact c1
/-- IDs that are read. -/
def riOb (A : Option Addr) (ys : List ID) : Ob where
  own := fun _ => False
  rd := fun i => A = some ⟨i, 0, none⟩
  holds := fun w => (A = none → ys = []) ∧ ∀ ad, A = some ad → ∃ g, ad = ⟨g, 0, none⟩ ∧ RowI w g ys ∧ g < w.heap.size
  stable := fun w w' h hs hk => by
    refine ⟨h.1, fun ad e => ?_⟩
    obtain ⟨g, rfl, ⟨cur, hi, hr⟩, hlt⟩ := h.2 ad e
    exact ⟨g, rfl, ⟨cur, (hk g (.inr e)).trans hi, hr⟩, Nat.lt_of_lt_of_le hlt hs.2.2.2⟩
theorem own_rowI {w : World} {base g n cap : Nat} {xs : List ID} (h : w.ownsRow base 36 2 (.slice (some ⟨g, 0, none⟩) n cap) n (xs.flatMap encID)) : n = xs.length ∧ RowI w g xs ∧ g < w.heap.size ∧ base ≤ g := by
  have hl := h.1
  rw [flat_len encID_len] at hl
  have hn : n = xs.length := by omega
  have hlt := h.lt g rfl
  refine ⟨hn, ?_, hlt.2, hlt.1⟩
  rcases h.2 with ⟨hv, _⟩ | ⟨g', cap', cur, hv, _, hh, hc1, hcs, hcs2, htk⟩
  · cases hv
  · injection hv with h1 h2 h3
    injection h1 with h1
    injection h1 with h1
    subst h1
    refine ⟨cur, hh, ?_, fun j hj => ?_⟩
    · show xs.length * 2 ≤ cur.size
      have := congrArg List.length htk
      rw [List.length_take, flat_len encID_len] at this
      simp at this
      omega
    · have e0 := flat_at encID_len id0 xs j 0 hj (by omega)
      have e1 := flat_at encID_len id0 xs j 1 hj (by omega)
      rw [← htk, List.getElem?_take_of_lt (by omega)] at e0 e1
      exact ⟨by simpa [encID] using e0, by simpa [encID] using e1⟩
theorem two_new (W : World) (x y : Value) (t : TypeId) (H : Nat) (hH : W.heap.size = H) : ∀ j u, [x, y][j]? = some u → (W.alloc (.cells #[x, y] t)).cell? ((⟨H, 0, none⟩ : Addr).add j) = some u := by
  intro j u hu
  rw [lit_add, Nat.zero_add, new_cell W t #[x, y] H hH j]
  simpa using hu
section
variable {b : Nat} {w0 w w' : World} {l t : List Ob} {o o' : Ob}
theorem SW.rowRi {A : Option Addr} {cap : Nat} {F : List ID} (h : SW b w0 (rowOb 36 2 (.slice A F.length cap) F.length (F.flatMap encID) :: t) w) : SW b w0 (riOb A F :: t) w := by
  have hh : w.ownsRow 0 36 2 (.slice A F.length cap) F.length (F.flatMap encID) := h.get 0 (o := rowOb 36 2 (.slice A F.length cap) F.length (F.flatMap encID)) rfl
  refine h.asRead (o' := riOb A F) ?_ (fun i hi => hi) (fun i hi => ?_)
  · by_cases hF : F.length = 0
    · have hF' : F = [] := List.eq_nil_of_length_eq_zero hF
      subst hF'
      refine ⟨fun _ => rfl, fun ad e => ?_⟩
      rcases hh.2 with ⟨hv, _⟩ | ⟨g, cap', cur, hv, _⟩
      · injection hv with hv
        rw [e] at hv
        cases hv
      · subst e
        injection hv with h1
        injection h1 with h1
        subst h1
        obtain ⟨_, h2, h3, _⟩ := own_rowI hh
        exact ⟨g, rfl, h2, h3⟩
    · obtain ⟨g, c', e⟩ := own_some hh hF
      injection e with e1 e2 e3
      subst e1
      obtain ⟨_, h2, h3, _⟩ := own_rowI hh
      exact ⟨(fun e => by cases e), fun ad e => by injection e with e; exact ⟨g, e.symm, h2, h3⟩⟩
  · have hi : A = some ⟨i, 0, none⟩ := hi
    show (Value.slice A F.length cap).ownBlock = some i
    rw [hi]
    rfl
theorem SW.start {w : World} {o : Ob} (h : o.holds w) (ho : ∀ i, ¬ o.own i) (hr : ∀ i, o.rd i → i < w.heap.size) : SW w.heap.size w [o] w :=
  (SW.refl (Sep.nil w (Nat.le_refl _))).also h ho hr (fun _ _ y hy => by cases hy)
/-- Things that are no longer written are read as one. -/
theorem SW.fuse {b : Nat} {w0 w : World} {pre t : List Ob} {o' : Ob} (h : SW b w0 (pre ++ t) w) (hh : o'.holds w) (ho : ∀ i, ¬ o'.own i) (hr : ∀ i, o'.rd i → ∃ o ∈ pre, o.own i ∨ o.rd i) : SW b w0 (o' :: t) w := by
  obtain ⟨_, hpt, hap⟩ := List.pairwise_append.1 h.1.apart
  refine ⟨⟨h.1.base, fun y hy => ?_, fun y hy i hi => ?_, fun y hy i hi => ?_, List.pairwise_cons.2 ⟨fun y hy => ⟨fun i hi => absurd hi (ho i), fun i hi hr' => ?_⟩, hpt⟩⟩, h.2⟩
  · rcases List.mem_cons.1 hy with rfl | hy
    · exact hh
    · exact h.1.holds y (List.mem_append_right _ hy)
  · rcases List.mem_cons.1 hy with rfl | hy
    · exact absurd hi (ho i)
    · exact h.1.own y (List.mem_append_right _ hy) i hi
  · rcases List.mem_cons.1 hy with rfl | hy
    · obtain ⟨o, hm, h1 | h1⟩ := hr i hi
      · exact (h.1.own o (List.mem_append_left _ hm) i h1).2
      · exact h.1.rd o (List.mem_append_left _ hm) i h1
    · exact h.1.rd y (List.mem_append_right _ hy) i hi
  · obtain ⟨o, hm, h1 | h1⟩ := hr i hr'
    · exact ((hap o hm y hy).1 i h1).1 hi
    · exact (hap o hm y hy).2 i hi h1
theorem rdID_of {w : World} {A : Option Addr} {ids : List ID} (h : (riOb A ids).holds w) : RdID w w.heap.size A ids := by
  intro hp
  cases A with
  | none =>
    have := h.1 rfl
    rw [this] at hp
    simp at hp
  | some ad =>
    obtain ⟨g, rfl, hr, hlt⟩ := h.2 ad rfl
    refine ⟨g, 0, rfl, hlt, by omega, fun j hj i v hv => ?_⟩
    obtain ⟨a0, a1, _, _⟩ := hr.cells hj rfl
    match i, hv with
    | 0, hv =>
      simp [encID] at hv
      subst hv
      simpa using a0
    | 1, hv =>
      simp [encID] at hv
      subst hv
      simpa using a1
    | i + 2, hv => simp [encID] at hv
/-- The source of IDs that are appended. -/
theorem ri_src {A : Option Addr} {ids : List ID} (h : (riOb A ids).holds w) : 0 < ids.length → ∃ ad, A = some ad ∧ ∀ j u, (ids.flatMap encID)[j]? = some u → w.cell? (ad.add j) = some u := fun hp => by
  cases A with
  | none =>
    rw [h.1 rfl] at hp
    simp at hp
  | some ad =>
    obtain ⟨g, rfl, hr, hlt⟩ := h.2 ad rfl
    refine ⟨_, rfl, fun j u hu => ?_⟩
    have hj := (List.getElem?_eq_some_iff.1 hu).1
    rw [flat_len encID_len] at hj
    have hj2 : j = j / 2 * 2 + j % 2 := by omega
    have hq : j / 2 < ids.length := by omega
    obtain ⟨c0, c1, _, _⟩ := hr.cells hq rfl
    rw [hj2, flat_at encID_len id0 ids (j / 2) (j % 2) hq (by omega)] at hu
    rw [lit_add, Nat.zero_add, hj2]
    have : j % 2 = 0 ∨ j % 2 = 1 := by omega
    rcases this with e | e
    · rw [e] at hu ⊢
      rw [Nat.add_zero, c0]
      simpa [encID] using hu
    · rw [e] at hu ⊢
      rw [c1]
      simpa [encID] using hu
theorem encID_all (ids : List ID) : ∀ u ∈ ids.flatMap encID, u.oneCell' = true := fun u hu => by
  obtain ⟨i, _, hi⟩ := List.mem_flatMap.1 hu
  exact encID_one i u hi
end
/-- A buffer of its own. -/
def bufOb (d : BD) (bs : List UInt8) : Ob where
  own := fun i => blk d = some i
  rd := fun _ => False
  holds := fun w => RB w d bs
  stable := fun w w' h hs hk => by
    have hc : Ch w w' (fun i => ¬ blk d = some i) [] := ⟨hs.1, hs.2.1, hs.2.2.1, hs.2.2.2, fun i _ hn _ => hk i (.inl (Classical.not_not.1 hn)), by simp⟩
    exact h.ch hc (fun g hg hn => hn hg) (by simp)
/-- Bytes that are only read. -/
def rsOb (A : Option Addr) (bs : List UInt8) : Ob where
  own := fun _ => False
  rd := fun i => 0 < bs.length ∧ ∃ o, A = some ⟨i, o, none⟩
  holds := fun w => RS w A bs
  stable := fun w w' h hs hk => by
    refine ⟨h.1, fun ad e => ?_⟩
    obtain ⟨g, o, rfl, hc⟩ := h.2 ad e
    refine ⟨g, o, rfl, fun j hj => ?_⟩
    have h2 := hk g (.inr ⟨by omega, o, e⟩)
    rw [← hc j hj]
    simp [World.cell?, h2]
theorem AppB.fr {w w' : World} {d d' : BD} {bs bs' : List UInt8} (h : AppB w d bs' d' w') (hr : RB w d bs) : Fr w w' (bufOb d bs).own (bufOb d' bs').own := by
  obtain ⟨_, ⟨e1, _, _, hc⟩ | ⟨H, e1, e2, hb⟩⟩ := h
  · refine ⟨hc.os, hc.tape, hc.output, hc.size, fun i hi hn => hc.block i hi (fun h => h) (fun p hp he => hn ?_), fun i hi => .inl ?_⟩
    · obtain ⟨A, n, c⟩ := d
      cases A with
      | none => simp [room] at hp
      | some ad =>
        obtain ⟨g, cur, rfl, _⟩ := hr.2.2.2 ad rfl
        simp [room] at hp
        obtain ⟨_, rfl⟩ := hp
        show blk _ = some i
        rw [← he]
        rfl
    · show blk d = some i
      rw [← e1]
      exact hi
  · exact Fr.new hb (fun i hi => .inr (by
      have h1 : blk d' = some i := hi
      rw [e1] at h1
      injection h1 with h1
      omega))
/-- Bytes are appended to a buffer. -/
theorem Sep.app {b : Nat} {w w' : World} {l : List Ob} (h : Sep b w l) (k : Nat) {d d' : BD} {bs bs' : List UInt8} (hk : l[k]? = some (bufOb d bs)) (ha : AppB w d bs' d' w') : Sep b w' (l.set k (bufOb d' bs')) ∧ Below b w w' := by
  have hr : RB w d bs := h.get hk
  refine h.stepAt k hk (ha.fr hr) (fun i hi => hi.elim) ha.1 (fun i hi => ?_)
  rcases hi with hi | hi
  · exact ha.1.lt hi
  · exact hi.elim
section
variable {w w' : World} {t : TypeId} {sz n : Nat} {A : Option Addr} {xs : List Value}
theorem RowV.of_own {c : Nat} (h : w.ownsRow 0 t sz (.slice A n c) n xs) : RowV w t sz A n xs ∧ n ≤ c := by
  refine ⟨⟨h.1, ?_⟩, ?_⟩
  · rcases h.2 with ⟨hv, h2⟩ | ⟨g, cap, cur, hv, _, hh, hc1, hcs, hcs2, htk⟩
    · exact .inl h2
    · injection hv with e1 e2 e3
      exact .inr ⟨g, cur, e1, hh, htk⟩
  · rcases h.2 with ⟨hv, h2⟩ | ⟨g, cap, cur, hv, _, hh, hc1, hcs, hcs2, htk⟩
    · omega
    · injection hv with e1 e2 e3
      omega
end
/-- Bytes in a buffer. -/
structure BS where
  d : BD
  bs : List UInt8
def bs0 : BS := ⟨⟨none, 0, 0⟩, []⟩
def encB (e : BS) : List Value := [.slice e.d.A e.d.len e.d.cap]
theorem encB_len (e : BS) : (encB e).length = 1 := rfl
/-- A list of byte strings that is read. -/
def blOb (A : Option Addr) (T : List BS) : Ob where
  own := fun _ => False
  rd := fun i => (0 < T.length ∧ A = some ⟨i, 0, none⟩) ∨ ∃ e ∈ T, blk e.d = some i
  holds := fun w => RowV w 40 1 A T.length (T.flatMap encB) ∧ ∀ e ∈ T, RB w e.d e.bs
  stable := fun w w' h hs hk => by
    refine ⟨h.1.same (fun i hn e => hk i (.inr (.inl ⟨hn, e⟩))), fun e he => ?_⟩
    have hc : Ch w w' (fun i => ¬ blk e.d = some i) [] := ⟨hs.1, hs.2.1, hs.2.2.1, hs.2.2.2, fun i _ hn _ => hk i (.inr (.inr ⟨e, he, Classical.not_not.1 hn⟩)), by simp⟩
    exact (h.2 e he).ch hc (fun g hg hn => hn hg) (by simp)
theorem blOb_lt {w : World} {A : Option Addr} {T : List BS} (h : (blOb A T).holds w) {i : Nat} (hi : (blOb A T).rd i) : i < w.heap.size := by
  rcases hi with ⟨hn, e⟩ | ⟨e, he, ea⟩
  · exact h.1.lt hn e
  · exact (h.2 e he).lt ea
theorem blOb_at {w : World} {A : Option Addr} {T : List BS} (h : (blOb A T).holds w) {j : Nat} (hj : j < T.length) {e : BS} (he : T.getD j bs0 = e) : ∃ g, A = some ⟨g, 0, none⟩ ∧ g < w.heap.size ∧ w.cell? ⟨g, j, none⟩ = some (.slice e.d.A e.d.len e.d.cap) ∧ RB w e.d e.bs := by
  obtain ⟨g, e1, hlt, hc⟩ := h.1.at (by omega)
  refine ⟨g, e1, hlt, ?_, h.2 e ?_⟩
  · have := flat_at encB_len bs0 T j 0 hj (by omega)
    rw [he] at this
    rw [hc j (by omega)]
    simpa [encB] using this
  · rw [← he, List.getD_eq_getElem?_getD, List.getElem?_eq_getElem hj]
    exact List.getElem_mem hj
theorem SW.rowBl {b : Nat} {w0 w : World} {A : Option Addr} {c : Nat} {T : List BS} {t : List Ob} (h : SW b w0 (rowOb 40 1 (.slice A T.length c) T.length (T.flatMap encB) :: t) w) (hb : ∀ e ∈ T, RB w e.d e.bs) : RowV w 40 1 A T.length (T.flatMap encB) :=
  (RowV.of_own (h.get 0 (o := rowOb 40 1 (.slice A T.length c) T.length (T.flatMap encB)) rfl)).1
theorem info40 : (Tryz.prog.info? 40).map (fun i => (i.zero, i.size, i.bytes)) = some (some (.slice none 0 0), 1, 24) := by kernel_rfl
/-- Buffers of their own. -/
def bufsOb (T : List BS) : Ob where
  own := fun _ => False
  rd := fun i => ∃ e ∈ T, blk e.d = some i
  holds := fun w => ∀ e ∈ T, RB w e.d e.bs
  stable := fun w w' h hs hk e he => by
    have hc : Ch w w' (fun i => ¬ blk e.d = some i) [] := ⟨hs.1, hs.2.1, hs.2.2.1, hs.2.2.2, fun i _ hn _ => hk i (.inr ⟨e, he, Classical.not_not.1 hn⟩), by simp⟩
    exact (h e he).ch hc (fun g hg hn => hn hg) (by simp)
section
variable {b : Nat} {w0 w w' : World} {l t : List Ob} {o o' : Ob}
theorem SW.fuseB {d : BD} {bs : List UInt8} {T : List BS} (h : SW b w0 (bufOb d bs :: bufsOb T :: l) w) : SW b w0 (bufsOb (T ++ [(⟨d, bs⟩ : BS)]) :: l) w :=
  SW.fuse (pre := [bufOb d bs, bufsOb T]) h (fun e he => by
    rcases List.mem_append.1 he with he | he
    · exact (h.get 1 (o := bufsOb T) rfl) e he
    · rw [List.mem_singleton.1 he]
      exact h.get 0 (o := bufOb d bs) rfl) (fun _ h => h) (fun i hi => by
    obtain ⟨e, he, hb⟩ := hi
    rcases List.mem_append.1 he with he | he
    · exact ⟨bufsOb T, by simp, .inr ⟨e, he, hb⟩⟩
    · rw [List.mem_singleton.1 he] at hb
      exact ⟨bufOb d bs, by simp, .inl hb⟩)
theorem SW.noBufs (h : SW b w0 l w) : SW b w0 (bufsOb [] :: l) w := SW.fuse (pre := []) h (fun e he => by cases he) (fun _ h => h) (fun i hi => by
  obtain ⟨e, he, _⟩ := hi
  cases he)
theorem SW.fuseL {A : Option Addr} {c : Nat} {T : List BS} (h : SW b w0 (rowOb 40 1 (.slice A T.length c) T.length (T.flatMap encB) :: bufsOb T :: l) w) : SW b w0 (blOb A T :: l) w := by
  have hb : ∀ e ∈ T, RB w e.d e.bs := h.get 1 (o := bufsOb T) rfl
  refine SW.fuse (pre := [rowOb 40 1 (.slice A T.length c) T.length (T.flatMap encB), bufsOb T]) h ⟨h.rowBl hb, hb⟩ (fun _ h => h) (fun i hi => ?_)
  rcases hi with ⟨hp, e⟩ | ⟨e, he, hb⟩
  · refine ⟨_, List.mem_cons_self .., .inl ?_⟩
    show (Value.slice A T.length c).ownBlock = some i
    rw [e]
    rfl
  · exact ⟨bufsOb T, by simp, .inr ⟨e, he, hb⟩⟩
end
end Go.Proofs.YtmiknfneeipkeaaGreat
namespace Go.Proofs.YtmiknfneeipkeaaGreat
open Go.RowKit Go.MapKept Go.ChangeMaps Go.Shelf Go.Sort
attribute [local go_sem] wext_cell
/-- A chunk: its ID, its bytes. -/
abbrev CH := ID × BS
def vBS (e : BS) : Value := .slice e.d.A e.d.len e.d.cap
def encCH (e : CH) : List Value := [.int .u64 e.1.1, .int .i64 e.1.2, vBS e.2]
def ch0 : CH := (id0, bs0)
theorem encCH_len (e : CH) : (encCH e).length = 3 := rfl
theorem encCH_one (e : CH) : ∀ u ∈ encCH e, u.oneCell' = true := by
  intro u hu
  simp [encCH, vBS] at hu
  rcases hu with rfl | rfl | rfl <;> rfl
/-- A list of chunks that is read. -/
def ckOb (A : Option Addr) (T : List CH) : Ob where
  own := fun _ => False
  rd := fun i => (0 < T.length ∧ A = some ⟨i, 0, none⟩) ∨ ∃ e ∈ T, blk e.2.d = some i
  holds := fun w => RowV w 42 3 A T.length (T.flatMap encCH) ∧ ∀ e ∈ T, RB w e.2.d e.2.bs
  stable := fun w w' h hs hk => by
    refine ⟨h.1.same (fun i hn e => hk i (.inr (.inl ⟨hn, e⟩))), fun e he => ?_⟩
    have hc : Ch w w' (fun i => ¬ blk e.2.d = some i) [] := ⟨hs.1, hs.2.1, hs.2.2.1, hs.2.2.2, fun i _ hn _ => hk i (.inr (.inr ⟨e, he, Classical.not_not.1 hn⟩)), by simp⟩
    exact (h.2 e he).ch hc (fun g hg hn => hn hg) (by simp)
theorem ckOb_at {w : World} {A : Option Addr} {T : List CH} (h : (ckOb A T).holds w) {j : Nat} (hj : j < T.length) {i : ID} {e : BS} (he : T.getD j ch0 = (i, e)) : ∃ g, A = some ⟨g, 0, none⟩ ∧ g < w.heap.size ∧ w.cell? ⟨g, j * 3, none⟩ = some (.int .u64 i.1) ∧ w.cell? ⟨g, j * 3 + 1, none⟩ = some (.int .i64 i.2) ∧ w.cell? ⟨g, j * 3 + 2, none⟩ = some (.slice e.d.A e.d.len e.d.cap) ∧ RB w e.d e.bs := by
  obtain ⟨g, e1, hlt, hc⟩ := h.1.at (by omega)
  have hf := fun a (ha : a < 3) => flat_at encCH_len ch0 T j a hj ha
  rw [he] at hf
  have hm : (i, e) ∈ T := by rw [← he]; exact getD_mem _ _ _ hj
  refine ⟨g, e1, hlt, ?_, ?_, ?_, h.2 (i, e) hm⟩
  · have := hf 0 (by omega)
    rw [Nat.add_zero] at this
    rw [hc (j * 3) (by omega), this]
    rfl
  · rw [hc (j * 3 + 1) (by omega), hf 1 (by omega)]
    rfl
  · rw [hc (j * 3 + 2) (by omega), hf 2 (by omega)]
    rfl
/-- Manifests whose IDs are read. -/
def msOb (rs : List MR) (ms : List Man) : Ob where
  own := fun _ => False
  rd := fun i => ∃ j, j < ms.length ∧ 0 < (ms.getD j man0).ids.length ∧ ∃ o, (rs.getD j mr0).A = some ⟨i, o, none⟩
  holds := fun w => rs.length = ms.length ∧ ∀ j, j < ms.length → Link w w.heap.size (rs.getD j mr0) (ms.getD j man0)
  stable := fun w w' h hs hk => by
    obtain ⟨h2, h3⟩ := h
    refine ⟨h2, fun j hj => ?_⟩
    obtain ⟨l1, l2, l3, l4⟩ := h3 j hj
    refine ⟨l1, l2, l3, fun hp => ?_⟩
    obtain ⟨b, o, e, hb, _, hc⟩ := l4 hp
    have hB := hk b (.inr ⟨j, hj, hp, o, e⟩)
    refine ⟨b, o, e, Nat.lt_of_lt_of_le hb hs.2.2.2, by have := hs.2.2.2; omega, fun j hj i v hv => ?_⟩
    rw [← hc j hj i v hv]
    simp [World.cell?, hB]
section
variable {b : Nat} {w0 w w' : World} {l t : List Ob} {o o' : Ob}
theorem SW.noMans (h : SW b w0 l w) : SW b w0 (msOb [] [] :: l) w := SW.fuse (pre := []) h ⟨rfl, fun j hj => by cases hj⟩ (fun _ h => h) (fun i hi => by
  obtain ⟨j, hj, _⟩ := hi
  cases hj)
theorem SW.fuseM {B : Option Addr} {ids : List ID} {rs : List MR} {ms : List Man} (h : SW b w0 (riOb B ids :: msOb rs ms :: l) w) (z : Int) (c : Nat) (hc : ids.length ≤ c) : SW b w0 (msOb (rs ++ [⟨z, B, ids.length, c⟩]) (ms ++ [⟨z, ids⟩]) :: l) w := by
  have hm : (msOb rs ms).holds w := h.get 1 (o := msOb rs ms) rfl
  refine SW.fuse (pre := [riOb B ids, msOb rs ms]) h ⟨by rw [List.length_append, List.length_append, hm.1]; rfl, fun j hj => ?_⟩ (fun _ h => h) (fun i hi => ?_)
  · rw [List.length_append] at hj
    by_cases hlt : j < ms.length
    · rw [getD_snoc_lt _ _ _ _ hlt, getD_snoc_lt _ _ _ _ (by rw [hm.1]; exact hlt)]
      exact hm.2 j hlt
    · have e : j = ms.length := by simp at hj; omega
      rw [getD_snoc_eq _ _ _ _ e, getD_snoc_eq _ _ _ _ (by rw [hm.1]; exact e)]
      exact ⟨rfl, rfl, hc, rdID_of (h.get 0 (o := riOb B ids) rfl)⟩
  · obtain ⟨j, hj, hp, o, e⟩ := hi
    rw [List.length_append] at hj
    by_cases hlt : j < ms.length
    · rw [getD_snoc_lt _ _ _ _ hlt] at hp
      rw [getD_snoc_lt _ _ _ _ (by rw [hm.1]; exact hlt)] at e
      exact ⟨msOb rs ms, by simp, .inr ⟨j, hlt, hp, o, e⟩⟩
    · have ej : j = ms.length := by simp at hj; omega
      rw [getD_snoc_eq _ _ _ _ (by rw [hm.1]; exact ej)] at e
      rw [getD_snoc_eq _ _ _ _ ej] at hp
      have hri : (riOb B ids).holds w := h.get 0 (o := riOb B ids) rfl
      refine ⟨riOb B ids, by simp, .inr ?_⟩
      obtain ⟨g, e2, _⟩ := hri.2 _ e
      injection e2 with e2 e3
      show B = some ⟨i, 0, none⟩
      have e : B = some ⟨i, o, none⟩ := e
      rw [e, e3]
end
/-- Manifests that are read. -/
def imOb (A : Option Addr) (rs : List MR) (ms : List Man) : Ob where
  own := fun _ => False
  rd := fun i => (0 < rs.length ∧ ∃ o, A = some ⟨i, o, none⟩) ∨ ∃ j, j < ms.length ∧ 0 < (ms.getD j man0).ids.length ∧ ∃ o, (rs.getD j mr0).A = some ⟨i, o, none⟩
  holds := fun w => Rd encMR 2 mr0 w w.heap.size A rs ∧ rs.length = ms.length ∧ ∀ j, j < ms.length → Link w w.heap.size (rs.getD j mr0) (ms.getD j man0)
  stable := fun w w' h hs hk => by
    obtain ⟨h1, h2, h3⟩ := h
    refine ⟨fun hp => ?_, h2, fun j hj => ?_⟩
    · obtain ⟨b, o, rfl, hb, _, hc⟩ := h1 hp
      have hB := hk b (.inr (.inl ⟨hp, o, rfl⟩))
      refine ⟨b, o, rfl, Nat.lt_of_lt_of_le hb hs.2.2.2, by have := hs.2.2.2; omega, fun j hj i v hv => ?_⟩
      rw [← hc j hj i v hv]
      simp [World.cell?, hB]
    · obtain ⟨l1, l2, l3, l4⟩ := h3 j hj
      refine ⟨l1, l2, l3, fun hp => ?_⟩
      obtain ⟨b, o, e, hb, _, hc⟩ := l4 hp
      have hB := hk b (.inr (.inr ⟨j, hj, hp, o, e⟩))
      refine ⟨b, o, e, Nat.lt_of_lt_of_le hb hs.2.2.2, by have := hs.2.2.2; omega, fun j hj i v hv => ?_⟩
      rw [← hc j hj i v hv]
      simp [World.cell?, hB]
section
variable {b : Nat} {w0 w w' : World} {l t : List Ob} {o o' : Ob}
theorem SW.fuseIm {A : Option Addr} {c : Nat} {rs : List MR} {ms : List Man} (h : SW b w0 (rowOb 33 2 (.slice A ms.length c) ms.length (rs.flatMap encMR) :: msOb rs ms :: l) w) : SW b w0 (imOb A rs ms :: l) w := by
  have hm : (msOb rs ms).holds w := h.get 1 (o := msOb rs ms) rfl
  have hr : w.ownsRow 0 33 2 (.slice A ms.length c) ms.length (rs.flatMap encMR) := h.get 0 rfl
  have hrd : Rd encMR 2 mr0 w w.heap.size A rs := by
    intro hp
    have hx : ∀ g, A = some ⟨g, 0, none⟩ → g < w.heap.size := fun g e => (hr.lt g (by rw [e]; rfl)).2
    rcases hr.2 with ⟨hv, h0⟩ | ⟨g, cap, cur, hv, _⟩
    · have := hm.1
      omega
    · injection hv with e1 e2 e3
      subst e1
      subst e3
      refine ⟨g, 0, rfl, hx g rfl, by have := hx g rfl; omega, fun j hj i v hi => ?_⟩
      have hi2 : i < 2 := by
        have := (List.getElem?_eq_some_iff.1 hi).1
        rwa [encMR_len] at this
      rw [Nat.zero_add, hr.cellAt (j * 2 + i) (by rw [← hm.1]; omega), flat_at encMR_len mr0 rs j i hj hi2]
      exact hi
  refine SW.fuse (pre := [rowOb 33 2 (.slice A ms.length c) ms.length (rs.flatMap encMR), msOb rs ms]) h ⟨hrd, hm.1, hm.2⟩ (fun _ h => h) (fun i hi => ?_)
  rcases hi with ⟨hp, o, e⟩ | hi
  · refine ⟨_, List.mem_cons_self .., .inl ?_⟩
    show (Value.slice A ms.length c).ownBlock = some i
    rw [e]
    rfl
  · exact ⟨msOb rs ms, by simp, .inr hi⟩
theorem rd_src {x : Nat} {A : Option Addr} {ids : List ID} (h : RdID w x A ids) : 0 < ids.length → ∃ ad, A = some ad ∧ ∀ j u, (ids.flatMap encID)[j]? = some u → w.cell? (ad.add j) = some u := fun hp => by
  obtain ⟨q, o, rfl, _, _, _⟩ := h hp
  exact ⟨_, rfl, (Rd.opt encID_len (by omega) h).2 _ rfl⟩
theorem own_slL {e : TypeId} {size n : Nat} {v : Value} {xs : List Value} (h : w.ownsRow 0 e size v n xs) : ∃ A c, v = .slice A n c := by
  rcases h.2 with ⟨hv, h2⟩ | ⟨g, cap, cur, hv, _⟩
  · exact ⟨none, 0, by rw [hv, h2]⟩
  · exact ⟨some ⟨g, 0, none⟩, cap, hv⟩
theorem rd_top {x : Nat} {A : Option Addr} {ids : List ID} (h : RdID w x A ids) : RdID w w.heap.size A ids := fun hp => by
  obtain ⟨q, o, e, hb, _, hc⟩ := h hp
  exact ⟨q, o, e, hb, by omega, hc⟩
theorem SW.fuseCk {A : Option Addr} {c : Nat} {K : List CH} (h : SW b w0 (rowOb 42 3 (.slice A K.length c) K.length (K.flatMap encCH) :: bufsOb (K.map (·.2)) :: l) w) : SW b w0 (ckOb A K :: l) w := by
  have hb : ∀ e ∈ K.map (fun x : CH => x.2), RB w e.d e.bs := h.get 1 (o := bufsOb (K.map (fun x : CH => x.2))) rfl
  have hr : w.ownsRow 0 42 3 (.slice A K.length c) K.length (K.flatMap encCH) := h.get 0 rfl
  have hv : RowV w 42 3 A K.length (K.flatMap encCH) := by
    refine ⟨hr.1, ?_⟩
    rcases hr.2 with ⟨_, h0⟩ | ⟨g, cap, cur, hv, _, hh, _, _, _, htk⟩
    · exact .inl h0
    · injection hv with e1
      exact .inr ⟨g, cur, e1, hh, htk⟩
  refine SW.fuse (pre := [rowOb 42 3 (.slice A K.length c) K.length (K.flatMap encCH), bufsOb (K.map (fun x : CH => x.2))]) h ⟨hv, fun e he => hb _ (List.mem_map.2 ⟨e, he, rfl⟩)⟩ (fun _ h => h) (fun i hi => ?_)
  rcases hi with ⟨hp, e⟩ | ⟨e, he, hbk⟩
  · refine ⟨_, List.mem_cons_self .., .inl ?_⟩
    show (Value.slice A K.length c).ownBlock = some i
    rw [e]
    rfl
  · exact ⟨bufsOb (K.map (fun x : CH => x.2)), by simp, .inr ⟨e.2, List.mem_map.2 ⟨e, he, rfl⟩, hbk⟩⟩
end
end Go.Proofs.YtmiknfneeipkeaaGreat
namespace Go.Proofs.YtmiknfneeipkeaaGreat
open Go.RowKit Go.MapKept Go.ChangeMaps Go.Shelf Go.Sort
/-- Equal neighbours once. -/
def dd (l : List ID) : List ID := l.foldl (fun a x => if a.getLast? = some x then a else a ++ [x]) []
theorem dd_snoc (l : List ID) (x : ID) : dd (l ++ [x]) = if (dd l).getLast? = some x then dd l else dd l ++ [x] := by
  unfold dd
  rw [List.foldl_append]
  rfl
theorem snocRec {p : List ID → Prop} (h0 : p []) (h1 : ∀ l x, p l → p (l ++ [x])) (l : List ID) : p l := by
  have h : ∀ l : List ID, p l.reverse := fun l => by
    induction l with
    | nil => exact h0
    | cons x l ih =>
      rw [List.reverse_cons]
      exact h1 _ _ ih
  have := h l.reverse
  rwa [List.reverse_reverse] at this
theorem dd_last (l : List ID) : (dd l).getLast? = l.getLast? := by
  refine snocRec (p := fun l => (dd l).getLast? = l.getLast?) rfl (fun l x ih => ?_) l
  show (dd (l ++ [x])).getLast? = _
  rw [dd_snoc]
  split
  · rename_i h
    rw [h]
    simp
  · simp
theorem dd_mem (l : List ID) (i : ID) : i ∈ dd l ↔ i ∈ l := by
  refine snocRec (p := fun l => i ∈ dd l ↔ i ∈ l) (by simp [dd]) (fun l x ih => ?_) l
  show i ∈ dd (l ++ [x]) ↔ _
  rw [dd_snoc]
  split
  · rename_i h
    have hx : x ∈ l := by
      rw [dd_last] at h
      exact List.mem_of_getLast? h
    rw [ih]
    simp only [List.mem_append, List.mem_singleton]
    exact ⟨.inl, fun h => h.elim id (fun e => e ▸ hx)⟩
  · rw [List.mem_append, ih, List.mem_append]
theorem dd_len (l : List ID) : (dd l).length ≤ l.length := by
  refine snocRec (p := fun l => (dd l).length ≤ l.length) (Nat.le_refl _) (fun l x ih => ?_) l
  show (dd (l ++ [x])).length ≤ _
  rw [dd_snoc]
  split
  · simp; omega
  · simp; omega
theorem dd_snoc_same {l : List ID} {x : ID} (h : l.getLast? = some x) : dd (l ++ [x]) = dd l := by rw [dd_snoc, dd_last, if_pos h]
theorem dd_snoc_other {l : List ID} {x : ID} (h : l.getLast? ≠ some x) : dd (l ++ [x]) = dd l ++ [x] := by rw [dd_snoc, dd_last, if_neg h]
/-- Of what is in order only ascending elements remain. -/
theorem dd_strict {l : List ID} : l.Pairwise (fun a b => ltOf cmpID b a = false) → (dd l).Pairwise (fun a b => ltID a b = true) := by
  refine snocRec (p := fun l => l.Pairwise (fun a b => ltOf cmpID b a = false) → (dd l).Pairwise (fun a b => ltID a b = true)) (fun _ => List.Pairwise.nil) (fun l x ih h => ?_) l
  · obtain ⟨h1, _, h3⟩ := List.pairwise_append.1 h
    show (dd (l ++ [x])).Pairwise _
    rw [dd_snoc]
    split
    · exact ih h1
    · rename_i hne
      refine List.pairwise_append.2 ⟨ih h1, List.pairwise_singleton _ _, fun a ha b hb => ?_⟩
      rw [List.mem_singleton.1 hb]
      have ha' := (dd_mem l a).1 ha
      have hle := h3 a ha' x (by simp)
      rw [lt_cmpID] at hle
      refine ltID_tri hle (fun e => ?_)
      -- x = a: then a is the last one
      subst e
      obtain ⟨b, hb⟩ : ∃ b, l.getLast? = some b := by
        cases hl : l.getLast? with
        | none => rw [List.getLast?_eq_none_iff] at hl; subst hl; cases ha'
        | some b => exact ⟨b, rfl⟩
      have hb2 := h3 b (List.mem_of_getLast? hb) x (by simp)
      rw [lt_cmpID] at hb2
      -- b is not above x, and x, which is in the list, is not above b
      have : ltID b x = false := by
        obtain ⟨l', rfl⟩ : ∃ l', l = l' ++ [b] := by
          rw [List.getLast?_eq_some_iff] at hb
          exact hb
        rcases List.mem_append.1 ha' with hm | hm
        · have := (List.pairwise_append.1 h1).2.2 x hm b (by simp)
          rwa [lt_cmpID] at this
        · rw [List.mem_singleton.1 hm]
          exact ltID_irrefl b
      rw [dd_last, hb] at hne
      refine hne ?_
      by_cases e : b = x
      · rw [e]
      · have := ltID_tri this e
        rw [this] at hb2
        cases hb2
theorem zero36 (w : World) : (zeroValue 36).run Tryz.prog w = .ok (.agg #[.int .u64 0, .int .i64 0]) w := by kernel_rfl
theorem clear2 (w : World) (b o n c : Nat) (ty : TypeId) (hn : 0 < n) (hc : ∀ j, j < n * 2 → (w.cell? ⟨b, o + j, none⟩).isSome = true) (hf : ∀ j, j < n * 2 → w.frozen? ⟨b, o + j, none⟩ = false) :
    ∃ L : List Value, (Builtin.clear_ #[31] ty #[.slice (some ⟨b, o, none⟩) n c]).run Tryz.prog w = .ok (.tuple #[]) (w.setCells b o L) := by
  refine ⟨(Builtin.zeroCells #[.int .u64 0, .int .i64 0] n).toList, ?_⟩
  have hlen : (Builtin.zeroCells #[.int .u64 0, .int .i64 0] n).toList.length = n * 2 := by simp [Builtin.zeroCells]
  have h1 : ∀ v ∈ (Builtin.zeroCells #[.int .u64 0, .int .i64 0] n).toList, v.oneCell' = true := by
    intro v hv
    simp [Builtin.zeroCells] at hv
    obtain ⟨i, hi, rfl⟩ := hv
    have : i % 2 = 0 ∨ i % 2 = 1 := by omega
    rcases this with h | h <;> simp [h, Value.oneCell']
  have hst := run_storeCells_cells (P := Tryz.prog) b o (Builtin.zeroCells #[.int .u64 0, .int .i64 0] n).toList 0 w (by rw [hlen]; simpa using hc) (by rw [hlen]; simpa using hf) h1
  simp only [Nat.add_zero] at hst
  obtain ⟨m, rfl⟩ : ∃ m, n = m + 1 := ⟨n - 1, by omega⟩
  simp [Builtin.clear_, run_underlying Tryz.underlying31, Result.andThen, Value.cells, hst]
theorem grown_setCells {a : World} {g : Nat} : ∀ (vs : List Value) (o : Nat) (w : World), a.grownBy w (some g) → a.grownBy (w.setCells g o vs) (some g)
  | [], _, _, h => h
  | v :: r, o, _, h => grown_setCells r (o + 1) _ (g_set (p := ⟨g, o, none⟩) h (.inl rfl) v)
theorem isB_setCells {g : Nat} {t : TypeId} : ∀ (vs : List Value) (o : Nat) (w : World) (cs : Array Value), IsB w g t cs → ∃ cs', IsB (w.setCells g o vs) g t cs' ∧ cs'.size = cs.size
  | [], _, _, cs, h => ⟨cs, h, rfl⟩
  | v :: r, o, _, cs, h => by
    obtain ⟨cs', h1, h2⟩ := isB_setCells r (o + 1) _ _ (h.set_ o v)
    exact ⟨cs', h1, h2.trans (by simp)⟩
/-- Behind the first k the row is cleared. -/
theorem RowI.cleared {w : World} {g : Nat} {X : List ID} (h : RowI w g X) {k : Nat} (hk : k ≤ X.length) (L : List Value) : RowI (w.setCells g (k * 2) L) g (X.take k) := by
  obtain ⟨cur, h1, h2, h3⟩ := h
  obtain ⟨cs', h4, h5⟩ := isB_setCells L (k * 2) w cur h1
  refine ⟨cs', h4, by rw [List.length_take, h5]; omega, fun j hj => ?_⟩
  rw [List.length_take] at hj
  have e1 : (X.take k).getD j id0 = X.getD j id0 := by rw [List.getD_eq_getElem?_getD, List.getElem?_take_of_lt (by omega), List.getD_eq_getElem?_getD]
  rw [e1]
  obtain ⟨c0, c1⟩ := h3 j (by omega)
  rw [← h4.cell, ← h4.cell, World.cell?_setCells_out g L (k * 2) w _ (fun _ _ => .inl (by simp only; omega)), World.cell?_setCells_out g L (k * 2) w _ (fun _ _ => .inl (by simp only; omega)), h1.cell, h1.cell]
  exact ⟨c0, c1⟩
theorem take_last {l : List ID} {k : Nat} (hk : k < l.length) : (l.take (k + 1)).getLast? = some (l.getD k id0) := by
  rw [take_snoc _ id0 _ hk]
  simp
set_option maxRecDepth 100000 in
set_option maxHeartbeats 8000000 in
theorem compact_any (g c : Nat) (xs : List ID) (w : World) (h : RowI w g xs) (hn : xs.length ≤ 4294967296) (hg : g < w.heap.size) (hc : xs.length ≤ c) :
    Calls Tryz.prog 83 #[.slice (some ⟨g, 0, none⟩) xs.length c] w (fun e w' => e = .returned (.slice (some ⟨g, 0, none⟩) (dd xs).length c) ∧ RowI w' g (dd xs) ∧ w.grownBy w' (some g)) := by
  have H := Lib.hid h
  clear h
  by_cases h2 : xs.length < 2
  · have hd : dd xs = xs := by
      match xs, h2 with
      | [], _ => rfl
      | [a], _ => rfl
      | a :: b :: l, h2 => simp at h2; omega
    rw [hd]
    clear hd
    generalize hN : xs.length = N at *
    go_enter Tryz.func83, Tryz.ntmps83
    go_wp2_with fail
    go_ret
    exact ⟨rfl, H.out, g_refl _ _⟩
  · have h2n : decide ((xs.length : Int) < 2) = false := decide_eq_false (by omega)
    go_enter Tryz.func83, Tryz.ntmps83
    go_wp2_with fail
    go_loopw [3] (fun v wr => ∃ k : Nat, 1 ≤ k ∧ k ≤ xs.length ∧ v = .int .i64 (k : Int) ∧ Hid (dd (xs.take k) = xs.take k) ∧ RowI wr g xs ∧ w.grownBy wr (some g)) (fun v _ => xs.length - (intOf v).toNat)
    case atStart =>
      refine ⟨1, Nat.le_refl _, by omega, rfl, ?_, H.out, g_refl _ _⟩
      match xs, h2 with
      | [], h2 => simp at h2
      | a :: l, _ => rfl
    case round =>
      obtain ⟨k, hk1, hk, rfl, HD, hr, hgr⟩ := hrel
      have RR := Lib.hid hr
      have GG := Lib.hid hgr
      clear hr hgr
      by_cases hlt : k < xs.length
      · obtain ⟨m, rfl⟩ : ∃ m, k = m + 1 := ⟨k - 1, by omega⟩
        obtain ⟨x, HX⟩ : ∃ x, Hid (xs.getD (m + 1) id0 = x) := ⟨_, rfl⟩
        obtain ⟨y, HY⟩ : ∃ y, Hid (xs.getD m id0 = y) := ⟨_, rfl⟩
        obtain ⟨a0, a1, _, _⟩ := RR.out.cells hlt HX.out
        obtain ⟨b0, b1, _, _⟩ := RR.out.cells (j := m) (by omega) HY.out
        have HLA : Hid ((xs.take (m + 1)).getLast? = some y) := by rw [Hid, take_last (by omega), HY.out]
        have HTS : Hid (xs.take (m + 1 + 1) = xs.take (m + 1) ++ [x]) := by rw [Hid, take_snoc _ id0 _ hlt, HX.out]
        by_cases he : x = y
        · subst he
          have HS : Hid (dd (xs.take (m + 1 + 1)) = xs.take (m + 1)) := by
            rw [Hid, HTS.out, dd_snoc_same HLA.out, HD.out]
          have hm0 : (m : Int) + 1 < (xs.length : Int) := by omega
          have hck : ¬ c = m + 1 := by omega
          go_wp2_with fail
          go_quiet (fail)
          have RR2 : Hid (RowI (wr.drewN nq) g xs) := RR.out.on (bdrewN (Below.refl _ _) _)
          have GG2 : Hid (w.grownBy (wr.drewN nq) (some g)) := g_drewN GG.out _
          clear a0 a1 b0 b1 RR GG
          generalize wr.drewN nq = wz at RR2 GG2 ⊢
          go_wp2_with fail
          rename World => wa
          go_loopw [3, 5] (fun v3 v5 wr => ∃ (p q : Nat) (X : List ID), m + 1 + (p + 1) ≤ xs.length ∧ v5 = .int .i64 ((p : Int) + 1) ∧ v3 = .int .i64 (q : Int) ∧ q ≤ m + 1 + p ∧ X.length = xs.length ∧ Hid (X.take q = dd (xs.take (m + 1 + (p + 1))) ∧ (dd (xs.take (m + 1 + (p + 1)))).length = q) ∧ Hid (∀ j, m + 1 + p ≤ j → j < xs.length → X.getD j id0 = xs.getD j id0) ∧ RowI wr g X ∧ w.grownBy wr (some g)) (fun _ v _ => xs.length - (intOf v).toNat)
          case atStart => exact ⟨0, m + 1, xs, by omega, rfl, by go_num, by omega, rfl, ⟨HS.out.symm, by rw [HS.out, List.length_take]; omega⟩, fun _ _ _ => rfl, RR2.out, GG2.out⟩
          case round =>
            obtain ⟨p, q, X, hp, rfl, rfl, hq, hX, HT, HO, hr, hgr⟩ := hrel
            have R3 := Lib.hid hr
            have G3 := Lib.hid hgr
            have HXL := Lib.hid hX
            clear hr hgr RR2 GG2
            by_cases hlt2 : m + 1 + (p + 1) < xs.length
            · obtain ⟨y2, HY2⟩ : ∃ y2, Hid (xs.getD (m + 1 + (p + 1)) id0 = y2) := ⟨_, rfl⟩
              obtain ⟨z2, HZ2⟩ : ∃ z2, Hid (xs.getD (m + 1 + p) id0 = z2) := ⟨_, rfl⟩
              obtain ⟨a0, a1, _, _⟩ := R3.out.cells (j := m + 1 + (p + 1)) (by omega) ((HO.out _ (by omega) hlt2).trans HY2.out)
              obtain ⟨b0, b1, _, _⟩ := R3.out.cells (j := m + 1 + p) (by omega) ((HO.out _ (by omega) (by omega)).trans HZ2.out)
              have HLA2 : Hid ((xs.take (m + 1 + (p + 1))).getLast? = some z2) := by
                rw [Hid, show m + 1 + (p + 1) = m + 1 + p + 1 by omega, take_last (by omega), HZ2.out]
              have HTS2 : Hid (xs.take (m + 1 + (p + 1 + 1)) = xs.take (m + 1 + (p + 1)) ++ [y2]) := by
                rw [Hid, show m + 1 + (p + 1 + 1) = m + 1 + (p + 1) + 1 by omega, take_snoc _ id0 _ hlt2, HY2.out]
              rw [show (m + 1 + (p + 1)) * 2 = (m + 1) * 2 + (p + 1) * 2 by omega] at a0 a1
              rw [show (m + 1 + p) * 2 = (m + 1) * 2 + p * 2 by omega] at b0 b1
              have hi1 : (p : Int) + 1 < ((xs.length - (m + 1) : Nat) : Int) := by omega
              have hi2 : (p : Int) < ((xs.length - (m + 1) : Nat) : Int) := by omega
              clear hX
              by_cases he : y2 = z2
              · subst he
                have HT2 : Hid (X.take q = dd (xs.take (m + 1 + (p + 1 + 1))) ∧ (dd (xs.take (m + 1 + (p + 1 + 1)))).length = q) := by
                  rw [Hid, HTS2.out, dd_snoc_same HLA2.out]
                  exact HT.out
                go_wp2_with fail
                go_quiet (fail)
                go_wp2_with fail
                go_roundw
                case rel => exact ⟨p + 1, q, X, by omega, by go_num, rfl, by omega, HXL.out, HT2, fun j h1 h2 => HO.out j (by omega) h2, R3.out.on (bdrewN (Below.refl _ _) _), g_drewN G3.out _⟩
                case measure => simp [intOf]; omega
              · have HT2 : Hid ((X.set q y2).take (q + 1) = dd (xs.take (m + 1 + (p + 1 + 1))) ∧ (dd (xs.take (m + 1 + (p + 1 + 1)))).length = q + 1) := by
                  rw [Hid, HTS2.out, dd_snoc_other (by rw [HLA2.out]; intro e; injection e with e; exact he e.symm)]
                  refine ⟨?_, by rw [List.length_append, HT.out.2]; rfl⟩
                  rw [take_snoc _ id0 _ (by rw [List.length_set, HXL.out]; omega), List.take_set_of_le (Nat.le_refl _), HT.out.1, List.getD_eq_getElem?_getD, List.getElem?_set_self (by rw [HXL.out]; omega)]
                  rfl
                have hcase : (y2.1 == z2.1) = false ∨ ((y2.1 == z2.1) = true ∧ (y2.2 == z2.2) = false) := by
                  by_cases e0 : y2.1 = z2.1
                  · refine .inr ⟨beq_iff_eq.2 e0, beq_eq_false_iff_ne.2 (fun e1 => he (Prod.ext e0 e1))⟩
                  · exact .inl (beq_eq_false_iff_ne.2 e0)
                clear he
                rcases hcase with hne | ⟨hne1, hne⟩
                all_goals (
                  go_wp2_with fail
                  go_quiet (fail)
                  have R4 : Hid (RowI (wr.drewN nq) g X) := R3.out.on (bdrewN (Below.refl _ _) _)
                  have G4 : Hid (w.grownBy (wr.drewN nq) (some g)) := g_drewN G3.out _
                  clear a0 a1 b0 b1 R3 G3
                  generalize wr.drewN nq = wy at R4 G4 ⊢
                  obtain ⟨a0, a1, _, _⟩ := R4.out.cells (j := m + 1 + (p + 1)) (by rw [HXL.out]; omega) ((HO.out _ (by omega) hlt2).trans HY2.out)
                  obtain ⟨d0, d1, f0, f1⟩ := R4.out.cells (j := q) (by rw [HXL.out]; omega) rfl
                  rw [show (m + 1 + (p + 1)) * 2 = (m + 1) * 2 + (p + 1) * 2 by omega] at a0 a1
                  have hi3 : (q : Int) < (xs.length : Int) := by omega
                  go_wp2_with fail
                  go_roundw
                  case rel =>
                    refine ⟨p + 1, q + 1, X.set q y2, by omega, by go_num, by go_num, by omega, by rw [List.length_set]; exact HXL.out, HT2, fun j h1 h2 => ?_, R4.out.put q (by rw [HXL.out]; omega) y2, ?_⟩
                    · have := HO.out j (by omega) h2
                      rw [List.getD_eq_getElem?_getD, List.getElem?_set_ne (by omega), ← List.getD_eq_getElem?_getD]
                      exact this
                    · have hgg := g_set (p := ⟨g, q * 2 + 1, none⟩) (g_set (p := ⟨g, q * 2, none⟩) G4.out (.inl rfl) (.int .u64 y2.1)) (.inl rfl) (.int .i64 y2.2)
                      exact ⟨hgg.os, hgg.tape, hgg.output, hgg.size, hgg.block⟩
                  case measure => simp [intOf]; omega)
            · obtain hpe : m + 1 + (p + 1) = xs.length := by omega
              have hT := HT.out
              rw [hpe, List.take_length] at hT
              have HT3 := Lib.hid hT
              have hi2 : ¬ ((p : Int) + 1 < ((xs.length - (m + 1) : Nat) : Int)) := by omega
              clear hT hX
              have hcq : ¬ c = q := by omega
              obtain ⟨L, hL⟩ := clear2 wr g (q * 2) (xs.length - q) (c - q) 0 (by omega) (fun j hj => by
                obtain ⟨c0, c1, _, _⟩ := R3.out.cells (j := q + j / 2) (by rw [HXL.out]; omega) rfl
                have : j % 2 = 0 ∨ j % 2 = 1 := by omega
                rcases this with e | e
                · rw [show q * 2 + j = (q + j / 2) * 2 by omega, c0]; rfl
                · rw [show q * 2 + j = (q + j / 2) * 2 + 1 by omega, c1]; rfl) (fun j hj => by
                obtain ⟨_, _, c0, c1⟩ := R3.out.cells (j := q + j / 2) (by rw [HXL.out]; omega) rfl
                have : j % 2 = 0 ∨ j % 2 = 1 := by omega
                rcases this with e | e
                · rw [show q * 2 + j = (q + j / 2) * 2 by omega, c0]
                · rw [show q * 2 + j = (q + j / 2) * 2 + 1 by omega, c1])
              have hcl2 : ∀ ty, (Builtin.clear_ #[31] ty #[.slice (some ⟨g, q * 2, none⟩) (xs.length - q) (c - q)]).run Tryz.prog wr = .ok (.tuple #[]) (wr.setCells g (q * 2) L) := fun _ => hL
              have RC : Hid (RowI (wr.setCells g (q * 2) L) g (dd xs)) := by
                have := R3.out.cleared (k := q) (by rw [HXL.out]; omega) L
                rwa [HT3.out.1] at this
              have GC : Hid (w.grownBy (wr.setCells g (q * 2) L) (some g)) := grown_setCells _ _ _ G3.out
              have hql : q ≤ xs.length := by omega
              have hqc : q ≤ c := by omega
              clear hL
              go_wp2_with fail
              go_ret
              exact ⟨by rw [HT3.out.2]; rfl, RC.out, GC.out⟩
        · have HN : Hid (dd (xs.take (m + 1 + 1)) = xs.take (m + 1 + 1)) := by
            rw [Hid, HTS.out, dd_snoc_other (by rw [HLA.out]; intro e; injection e with e; exact he e.symm), HD.out]
          have hcase : (x.1 == y.1) = false ∨ ((x.1 == y.1) = true ∧ (x.2 == y.2) = false) := by
            by_cases e0 : x.1 = y.1
            · refine .inr ⟨beq_iff_eq.2 e0, beq_eq_false_iff_ne.2 (fun e1 => he (Prod.ext e0 e1))⟩
            · exact .inl (beq_eq_false_iff_ne.2 e0)
          clear he
          have hm0 : (m : Int) + 1 < (xs.length : Int) := by omega
          rcases hcase with hne | ⟨hne1, hne⟩
          all_goals (
            go_wp2_with fail
            go_quiet (fail)
            go_wp2_with fail
            go_roundw
            case rel => exact ⟨m + 1 + 1, by omega, by omega, by go_num, HN, RR.out.on (bdrewN (Below.refl _ _) _), g_drewN GG.out _⟩
            case measure => simp [intOf]; omega)
      · obtain rfl : k = xs.length := by omega
        have hd := HD.out
        rw [List.take_length] at hd
        have HD2 := Lib.hid hd
        clear hd
        go_wp2_with fail
        go_ret
        exact ⟨by rw [HD2.out]; rfl, by rw [HD2.out]; exact RR.out, GG.out⟩
end Go.Proofs.YtmiknfneeipkeaaGreat
