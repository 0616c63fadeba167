/- Contracts of the walk, part 23. -/
import Derived.RangeFuncNested
import Derived.RangeFuncBound
import Derived.RangeFuncCalls
import Derived.RangeFuncLeaves
import Derived.Shelf.Abstract
import Derived.Shelf.RegionOpen
import Derived.WalkKit
import Derived.OwnWalkIn
import Derived.TacticsInMore
import Derived.LoopNIn
import Derived.LoopIn
import Derived.IntWalk
import Derived.Laws.MakeOwn
import Derived.Test.YtmiknfneeipkeaaGreatQ22
import Derived.Test.YtmiknfneeipkeaaGreatQ03
import Derived.Test.YtmiknfneeipkeaaGreatQ05
import Derived.Test.YtmiknfneeipkeaaGreatQ19
import Derived.Test.YtmiknfneeipkeaaGreatQ01
import Derived.Test.YtmiknfneeipkeaaGreatQ11
namespace Go.Proofs.YtmiknfneeipkeaaGreat
open Go.RowKit Go.MapKept Go.ChangeMaps Go.Shelf Go.Sort
def rightB (i : ID) (e : CH) : Bool := decide (e.1 = i ∧ fpOf e.2.bs = i)
def firstR (T : List CH) (i : ID) : Option CH := T.find? (rightB i)
def pickStep (ids : List ID) (acc : List CH) (e : CH) : List CH := if e.1 ∈ ids ∧ fpOf e.2.bs = e.1 ∧ e.1 ∉ acc.map (·.1) then acc ++ [e] else acc
def pickL (ids : List ID) (T : List CH) : List CH := T.foldl (pickStep ids) []
def AllR (ids : List ID) (T : List CH) : Prop := ∀ i ∈ ids, (firstR T i).isSome = true
def selR (ids : List ID) (T : List CH) : List CH := ids.map (fun i => (firstR T i).getD ch0)
theorem pick_snoc (ids : List ID) (T : List CH) (e : CH) : pickL ids (T ++ [e]) = pickStep ids (pickL ids T) e := by simp [pickL]
theorem firstR_snoc (T : List CH) (e : CH) (i : ID) : firstR (T ++ [e]) i = (firstR T i).or (if rightB i e then some e else none) := by
  unfold firstR
  rw [List.find?_append]
  congr 1
  cases h : rightB i e <;> simp [h]
theorem firstR_id {T : List CH} {i : ID} {e : CH} (h : firstR T i = some e) : e.1 = i ∧ fpOf e.2.bs = i ∧ e ∈ T := by
  have h1 := List.find?_some h
  have h2 := List.mem_of_find?_eq_some h
  have : e.1 = i ∧ fpOf e.2.bs = i := by simpa [rightB] using h1
  exact ⟨this.1, this.2, h2⟩
theorem pick_spec (ids : List ID) (T : List CH) : ((pickL ids T).map (·.1)).Nodup ∧ (∀ e ∈ pickL ids T, e.1 ∈ ids ∧ firstR T e.1 = some e) ∧ ∀ i ∈ ids, ∀ e, firstR T i = some e → e ∈ pickL ids T := by
  refine snocInd (P := fun T => ((pickL ids T).map (·.1)).Nodup ∧ (∀ e ∈ pickL ids T, e.1 ∈ ids ∧ firstR T e.1 = some e) ∧ ∀ i ∈ ids, ∀ e, firstR T i = some e → e ∈ pickL ids T) ⟨.nil, (fun e he => by cases he), (fun i _ e he => by cases he)⟩ (fun T e ih => ?_) T
  obtain ⟨h1, h2, h3⟩ := ih
  rw [pick_snoc, pickStep]
  by_cases hc : e.1 ∈ ids ∧ fpOf e.2.bs = e.1 ∧ e.1 ∉ (pickL ids T).map (·.1)
  · rw [if_pos hc]
    obtain ⟨c1, c2, c3⟩ := hc
    have hno : firstR T e.1 = none := by
      cases hf : firstR T e.1 with
      | none => rfl
      | some e' =>
        have := h3 _ c1 e' hf
        exact absurd (List.mem_map.2 ⟨e', this, (firstR_id hf).1⟩) c3
    refine ⟨?_, fun x hx => ?_, fun i hi x hx => ?_⟩
    · rw [List.map_append, List.nodup_append]
      refine ⟨h1, by simp, fun a ha b hb hab => ?_⟩
      simp only [List.map_cons, List.map_nil, List.mem_singleton] at hb
      subst hb
      subst hab
      exact c3 ha
    · rcases List.mem_append.1 hx with h | h
      · obtain ⟨a1, a2⟩ := h2 x h
        exact ⟨a1, by rw [firstR_snoc, a2]; rfl⟩
      · rw [List.mem_singleton.1 h]
        refine ⟨c1, ?_⟩
        rw [firstR_snoc, hno, if_pos (by simp [rightB, c2])]
        rfl
    · rw [firstR_snoc] at hx
      cases hf : firstR T i with
      | some y =>
        rw [hf] at hx
        have hx : y = x := by simpa using hx
        subst hx
        exact List.mem_append_left _ (h3 i hi y hf)
      | none =>
        rw [hf] at hx
        by_cases hr : rightB i e = true
        · rw [if_pos hr] at hx
          simp only [Option.none_or, Option.some.injEq] at hx
          subst hx
          exact List.mem_append_right _ (.head _)
        · rw [if_neg hr] at hx
          cases hx
  · rw [if_neg hc]
    refine ⟨h1, fun x hx => ?_, fun i hi x hx => ?_⟩
    · obtain ⟨a1, a2⟩ := h2 x hx
      exact ⟨a1, by rw [firstR_snoc, a2]; rfl⟩
    · rw [firstR_snoc] at hx
      cases hf : firstR T i with
      | some y =>
        rw [hf] at hx
        have hx : y = x := by simpa using hx
        subst hx
        exact h3 i hi y hf
      | none =>
        rw [hf] at hx
        by_cases hr : rightB i e = true
        · have hr' : e.1 = i ∧ fpOf e.2.bs = i := by simpa [rightB] using hr
          exfalso
          refine hc ⟨by rw [hr'.1]; exact hi, by rw [hr'.1]; exact hr'.2, fun hm => ?_⟩
          obtain ⟨y, hy1, hy2⟩ := List.mem_map.1 hm
          have := (h2 y hy1).2
          rw [hy2, hr'.1, hf] at this
          cases this
        · rw [if_neg hr] at hx
          cases hx
theorem nodup_len {α : Type} [DecidableEq α] : ∀ {a b : List α}, a.Nodup → (∀ x ∈ a, x ∈ b) → a.length ≤ b.length
  | [], _, _, _ => Nat.zero_le _
  | x :: a, b, hn, hs => by
    obtain ⟨h1, h2⟩ := List.nodup_cons.1 hn
    have hx := hs x (.head _)
    have := nodup_len (a := a) (b := b.erase x) h2 (fun y hy => (List.mem_erase_of_ne (fun (e : y = x) => h1 (e ▸ hy))).2 (hs y (List.mem_cons_of_mem _ hy)))
    rw [List.length_erase_of_mem hx] at this
    have hp : 0 < b.length := List.length_pos_of_mem hx
    rw [List.length_cons]
    omega
theorem nodup_all {α : Type} [DecidableEq α] {a b : List α} (hn : a.Nodup) (hs : ∀ x ∈ a, x ∈ b) (hl : b.length ≤ a.length) : ∀ x ∈ b, x ∈ a := by
  intro x hx
  refine Classical.byContradiction (fun h => ?_)
  have := nodup_len (a := x :: a) (b := b) (List.nodup_cons.2 ⟨h, hn⟩) (fun y hy => by
    rcases List.mem_cons.1 hy with e | hy
    · rw [e]; exact hx
    · exact hs y hy)
  rw [List.length_cons] at this
  omega
theorem pick_len (ids : List ID) (T : List CH) : (pickL ids T).length ≤ ids.length := by
  obtain ⟨h1, h2, _⟩ := pick_spec ids T
  have := nodup_len h1 (b := ids) (fun x hx => by
    obtain ⟨e, he, rfl⟩ := List.mem_map.1 hx
    exact (h2 e he).1)
  simpa using this
theorem asc_nodup {ids : List ID} (h : AscI ids) : ids.Nodup := h.imp (fun {a b} hab e => by rw [e, ltID_irr] at hab; cases hab)
theorem all_iff (ids : List ID) (T : List CH) (ha : AscI ids) : AllR ids T ↔ (pickL ids T).length = ids.length := by
  obtain ⟨h1, h2, h3⟩ := pick_spec ids T
  constructor
  · intro h
    have := nodup_len (asc_nodup ha) (b := (pickL ids T).map (·.1)) (fun i hi => by
      obtain ⟨e, he⟩ := Option.isSome_iff_exists.1 (h i hi)
      exact List.mem_map.2 ⟨e, h3 i hi e he, (firstR_id he).1⟩)
    have h4 := pick_len ids T
    simp at this
    omega
  · intro h i hi
    have := nodup_all h1 (b := ids) (fun x hx => by
      obtain ⟨e, he, rfl⟩ := List.mem_map.1 hx
      exact (h2 e he).1) (by simp; omega) i hi
    obtain ⟨e, he, rfl⟩ := List.mem_map.1 this
    rw [(h2 e he).2]
    rfl
/-- The sorted pick is one chunk for each ID. -/
theorem pick_sorted {ids : List ID} {T S : List CH} (ha : AscI ids) (hp : S.Perm (pickL ids T)) (hs : S.Pairwise (fun a b => ltID b.1 a.1 = false)) (hall : AllR ids T) : S = selR ids T := by
  obtain ⟨h1, h2, h3⟩ := pick_spec ids T
  have hn : (S.map (·.1)).Nodup := (hp.map (·.1)).nodup_iff.2 h1
  have hst : (S.map (·.1)).Pairwise (fun a b => ltID a b = true) := by
    rw [List.pairwise_map]
    have hn' := List.pairwise_map.1 hn
    refine (hs.and hn').imp (fun {a b} ⟨x, y⟩ => ?_)
    cases h : ltID a.1 b.1 with
    | true => rfl
    | false => exact absurd (ltID_tot h x) y
  have hmem : ∀ i, i ∈ S.map (·.1) ↔ i ∈ ids := fun i => by
    constructor
    · intro hi
      obtain ⟨e, he, rfl⟩ := List.mem_map.1 hi
      exact (h2 e (hp.mem_iff.1 he)).1
    · intro hi
      obtain ⟨e, he⟩ := Option.isSome_iff_exists.1 (hall i hi)
      exact List.mem_map.2 ⟨e, hp.mem_iff.2 (h3 i hi e he), (firstR_id he).1⟩
  have hk : S.map (·.1) = ids := sorted_uniq hst ha hmem
  unfold selR
  rw [← hk, List.map_map]
  refine (List.map_id _).symm.trans (List.map_congr_left (fun e he => ?_))
  have := (h2 e (hp.mem_iff.1 he)).2
  simp [this]
end Go.Proofs.YtmiknfneeipkeaaGreat
namespace Go.Proofs.YtmiknfneeipkeaaGreat
open Go.RowKit Go.MapKept Go.ChangeMaps Go.Shelf Go.Sort
attribute [local go_sem] wext_cell
/-- Bytes that are read. -/
def BSok (w : World) (e : BS) : Prop := RS w e.d.A e.bs ∧ e.d.len = e.bs.length ∧ e.d.len ≤ e.d.cap
theorem BSok.keep {w w' : World} {e : BS} (h : BSok w e) (hk : ∀ i, (0 < e.bs.length ∧ ∃ o, e.d.A = some ⟨i, o, none⟩) → w'.heap[i]? = w.heap[i]?) : BSok w' e := by
  obtain ⟨⟨h1, h2⟩, h3⟩ := h
  refine ⟨⟨h1, fun ad e1 hp => ?_⟩, h3⟩
  obtain ⟨g, o, rfl, hc⟩ := h2 ad e1 hp
  refine ⟨g, o, rfl, fun j hj => ?_⟩
  rw [← hc j hj]
  have := hk g ⟨by omega, o, e1⟩
  simp [World.cell?, this]
/-- A list of chunks that is read, at any place. -/
def cxOb (A : Option Addr) (T : List CH) : Ob where
  own := fun _ => False
  rd := fun i => (0 < T.length ∧ ∃ o, A = some ⟨i, o, none⟩) ∨ ∃ e ∈ T, 0 < e.2.bs.length ∧ ∃ o, e.2.d.A = some ⟨i, o, none⟩
  holds := fun w => Rd encCH 3 ch0 w w.heap.size A T ∧ ∀ e ∈ T, BSok w e.2
  stable := fun w w' h hs hk => by
    obtain ⟨h1, h2⟩ := h
    refine ⟨fun hp => ?_, fun e he => (h2 e he).keep (fun i hi => hk i (.inr (.inr ⟨e, he, hi⟩)))⟩
    obtain ⟨b, o, rfl, hb, _, hc⟩ := h1 hp
    have hB := hk b (.inr (.inl ⟨hp, o, rfl⟩))
    refine ⟨b, o, rfl, Nat.lt_of_lt_of_le hb hs.2.2.2, by have := hs.2.2.2; omega, fun j hj i v hv => ?_⟩
    rw [← hc j hj i v hv]
    simp [World.cell?, hB]
theorem cx_at {w : World} {A : Option Addr} {T : List CH} (h : (cxOb A T).holds w) {j : Nat} (hj : j < T.length) {i : ID} {e : BS} (he : T.getD j ch0 = (i, e)) : ∃ g o, A = some ⟨g, o, none⟩ ∧ g < w.heap.size ∧ w.cell? ⟨g, o + j * 3, none⟩ = some (.int .u64 i.1) ∧ w.cell? ⟨g, o + j * 3 + 1, none⟩ = some (.int .i64 i.2) ∧ w.cell? ⟨g, o + j * 3 + 2, none⟩ = some (.slice e.d.A e.bs.length e.d.cap) ∧ BSok w e := by
  obtain ⟨g, o, hA, hg, _, hc⟩ := h.1 (by omega)
  have hm : (i, e) ∈ T := by rw [← he]; exact getD_mem _ _ _ hj
  have hb := h.2 _ hm
  refine ⟨g, o, hA, hg, ?_, ?_, ?_, hb⟩
  · have := hc j hj 0 _ (by rw [he]; rfl)
    exact this
  · exact hc j hj 1 _ (by rw [he]; rfl)
  · rw [← hb.2.1]
    exact hc j hj 2 _ (by rw [he]; rfl)
instance : Inhabited CH := ⟨ch0⟩
def cmpCH (x y : CH) : Int := cmpID x.1 y.1
theorem swoCH : SWO (ltOf cmpCH) where
  irrefl x := swoID.irrefl x.1
  trans x y z h1 h2 := swoID.trans x.1 y.1 z.1 h1 h2
  ntrans x y z h1 h2 := swoID.ntrans x.1 y.1 z.1 h1 h2
set_option maxHeartbeats 1000000 in
theorem closure88 (x y : CH) (W : World) : Calls Tryz.prog 88 #[.agg (encCH x).toArray, .agg (encCH y).toArray] W fun e w' => e = .returned (.int .i64 (cmpCH x y)) ∧ ∃ q os', w' = grow (W.drewN q) os' := by
  obtain ⟨⟨x1, x2⟩, ⟨⟨x3, x4, x5⟩, x6⟩⟩ := x
  obtain ⟨⟨y1, y2⟩, ⟨⟨y3, y4, y5⟩, y6⟩⟩ := y
  have H := Lib.hid (fun W' => acmp_grow x1 x2 y1 y2 W')
  unfold cmpCH
  simp only [encCH, vBS]
  generalize cmpID (x1, x2) (y1, y2) = r at H ⊢
  go_enter Tryz.func88, Tryz.ntmps88
  go_wp2_with fail
  refine (H.out _).mono ?_
  rintro e w' ⟨rfl, q, os, rfl⟩
  go_wp2_with fail
  go_ret
  exact ⟨rfl, q, _, grow_grow2 W _ _ q os⟩
theorem sortCH_own (base g n cap : Nat) (xs : List CH) (w : World) (h : w.ownsRow base 42 3 (.slice (some ⟨g, 0, none⟩) n cap) n (xs.flatMap encCH)) (hn : xs.length ≤ 4294967296) :
    Calls Tryz.prog 87 #[.slice (some ⟨g, 0, none⟩) n cap, .func (.func 88) #[] #[]] w (SortOwn encCH 3 cmpCH base g n cap 42 xs w) := by
  have hg := h.lt g rfl
  have eg : ∀ args w, (callFunc 88 args).run Tryz.prog w = .ok (.enter 88 args) w := enters_of Tryz.func88 (by kernel_rfl) rfl
  exact sort_own encCH_len h (by omega) (AnyQ.slices_SortFunc Tryz.lay87 3 Tryz.isAgg42 Tryz.sizeOf42 encCH (fun _ => rfl) encCH_one cmpCH swoCH 88 #[] g 0 cap xs.toArray w eg
    (fun _ _ _ _ x y => closure88 x y _) (holdsK_of_own encCH_len (by omega) h) hg.2 (by simp; omega))
theorem sortCH_none (p : Option Addr) (cap : Nat) (w : World) : Calls Tryz.prog 87 #[.slice p 0 cap, .func (.func 88) #[] #[]] w fun e w' => e = .returned (.tuple #[]) ∧ w' = w :=
  AnyF.slices_SortFunc_none { Tryz.lay87 with } p cap _ w
section
variable {b : Nat} {w0 w w' : World} {l : List Ob}
theorem SW.sortCH {v : Value} {xs : List CH} (h : SW b w0 (rowOb 42 3 v xs.length (xs.flatMap encCH) :: l) w) (hn : xs.length ≤ 4294967296) :
    Calls Tryz.prog 87 #[v, .func (.func 88) #[] #[]] w (fun e w' => e = .returned (.tuple #[]) ∧ ∃ ys : List CH, ys.Perm xs ∧ ys.Pairwise (fun a b => ltOf cmpCH b a = false) ∧ SW b w0 (rowOb 42 3 v ys.length (ys.flatMap encCH) :: l) w') := by
  have hh : w.ownsRow 0 42 3 v xs.length (xs.flatMap encCH) := h.get 0 rfl
  by_cases h0 : v = .slice none 0 0
  · subst h0
    refine (sortCH_none none 0 w).mono ?_
    rintro e w' ⟨rfl, rfl⟩
    have hx : xs = [] := by
      rcases hh.2 with ⟨_, h2⟩ | ⟨g, cap, cur, hv, _⟩
      · exact List.eq_nil_of_length_eq_zero h2
      · cases hv
    subst hx
    exact ⟨rfl, [], List.Perm.refl _, List.Pairwise.nil, h⟩
  · obtain ⟨g, cap, rfl⟩ : ∃ g cap, v = .slice (some ⟨g, 0, none⟩) xs.length cap := by
      rcases hh.2 with ⟨hv, _⟩ | ⟨g, cap, cur, hv, _⟩
      · exact absurd hv h0
      · exact ⟨g, cap, hv⟩
    refine (sortCH_own 0 g _ cap xs w hh hn).mono ?_
    rintro e w' ⟨rfl, ys, hp, hs, hown, hg⟩
    refine ⟨rfl, ys, hp, hs, ?_⟩
    have := h.row (w' := w') 0 rfl hown hg (.inl rfl)
    rw [hp.length_eq]
    exact this
end
end Go.Proofs.YtmiknfneeipkeaaGreat
namespace Go.Proofs.YtmiknfneeipkeaaGreat
open Go.RowKit Go.MapKept Go.ChangeMaps
attribute [local go_sem] wext_cell
/-- A revision. -/
structure Rv where
  p : ByteArray
  n : Int
  c : Int
  a : Int
  tb : Int
  f1 : Bool
  f2 : Bool
  f3 : Bool
  sm : Int
  sz : Int
  fp : ByteArray
  fn : Int
/-- Its cells. -/
def Rv.enc (r : Rv) : List Value := [.string r.p, .int .i64 r.n, .int .i64 r.c, .int .i64 r.a, .int .i64 r.tb, .bool r.f1, .bool r.f2, .bool r.f3, .int .u64 r.sm, .int .i64 r.sz, .string r.fp, .int .i64 r.fn]
abbrev Rv.val (r : Rv) : Value := .agg #[.string r.p, .int .i64 r.n, .int .i64 r.c, .int .i64 r.a, .int .i64 r.tb, .bool r.f1, .bool r.f2, .bool r.f3, .int .u64 r.sm, .int .i64 r.sz, .string r.fp, .int .i64 r.fn]
theorem Rv.enc_len (r : Rv) : r.enc.length = 12 := rfl
def Rv.id (r : Rv) : ID := (r.sm, r.sz)
def Rv.fi (r : Rv) : Fi := (r.p, r.n)
def okR (r : Rv) : Prop := okID r.id ∧ okF r.fi
/-- A revision that may be a key. -/
structure RvO where
  r : Rv
  ok : okR r
def RvO.enc (r : RvO) : List Value := r.1.enc
theorem RvO.enc_len (r : RvO) : r.enc.length = 12 := rfl
/-- The members from the last one on, each with the number of those behind it. -/
def backL (ms : List RvO) : List (Nat × RvO) := ms.reverse.zipIdx.map (fun x => (x.2, x.1))
theorem backL_len (ms : List RvO) : (backL ms).length = ms.length := by simp [backL]
theorem backL_at (ms : List RvO) {k : Nat} (h : k < ms.length) : (backL ms)[k]? = some (k, ms[ms.length - 1 - k]'(by omega)) := by
  simp [backL, List.getElem?_map, List.getElem?_zipIdx, List.getElem?_reverse h, List.getElem?_eq_getElem (show ms.length - 1 - k < ms.length by omega)]
/-- What a round keeps: whatever is cells lies as it lay. -/
def KpC (W W' : World) : Prop := W.heap.size ≤ W'.heap.size ∧ ∀ (k : Nat) (o : Obj), W.heap[k]? = some o → o.isCells = true → W'.heap[k]? = some o
theorem KpC.trans {A B C : World} (h : KpC A B) (k : KpC B C) : KpC A C := ⟨Nat.le_trans h.1 k.1, fun i o hi ho => k.2 i o (h.2 i o hi ho) ho⟩
theorem KpC.refl (W : World) : KpC W W := ⟨Nat.le_refl _, fun _ _ h _ => h⟩
theorem kpC_b {w : World} (W : World) (l : Nat) (o o' : Obj) (_ : w.heap.size ≤ l) (h : W.heap[l]? = some o) (hc : o.isCells = false) (_ : o.isWalk = false) : KpC W (W.putObj l o') := by
  refine ⟨by simp, fun k x hk hx => ?_⟩
  rw [World.putObj_heap_other (fun e => ?_)]
  · exact hk
  · subst e
    rw [h] at hk
    injection hk with hk
    subst hk
    rw [hc] at hx
    cases hx
theorem KpC.isB {W W' : World} (h : KpC W W') {g : Nat} {t : TypeId} {cs : Array Value} (hi : IsB W g t cs) : IsB W' g t cs := h.2 g _ hi rfl
theorem KpC.rowV {W W' : World} (h : KpC W W') {t : TypeId} {sz n : Nat} {A : Option Addr} {xs : List Value} (hr : RowV W t sz A n xs) : RowV W' t sz A n xs := by
  refine ⟨hr.1, ?_⟩
  rcases hr.2 with h2 | ⟨g, cur, e, hi, hx⟩
  · exact .inl h2
  · exact .inr ⟨g, cur, e, h.isB hi, hx⟩
theorem grown_of {W W' : World} (h : Below W.heap.size W W') : W.grownBy W' none := ⟨h.os, h.tape, h.output, h.size, fun k hk _ => h.block k hk⟩
theorem KpC.of_below {W W' : World} (h : Below W.heap.size W W') : KpC W W' := ⟨h.size, fun k o hk _ => (h.block k (Array.getElem?_eq_some_iff.1 hk).1).trans hk⟩
/-- A member's cells in a row that is read. -/
theorem rvs_at {w : World} {A : Option Addr} {ms : List RvO} {j : Nat} (h : RowV w 111 12 A ms.length (ms.flatMap RvO.enc)) (hj : j < ms.length) : ∃ g, A = some ⟨g, 0, none⟩ ∧ g < w.heap.size ∧ ∀ c, c < 12 → w.cell? ⟨g, j * 12 + c, none⟩ = ((ms[j]'hj).1.enc)[c]? := by
  obtain ⟨g, e, hlt, hc⟩ := h.at (by omega)
  refine ⟨g, e, hlt, fun c hc12 => ?_⟩
  rw [hc _ (by omega), flat_at RvO.enc_len (ms[j]'hj) ms j c hj hc12]
  rw [List.getD_eq_getElem?_getD, List.getElem?_eq_getElem hj]
  rfl
attribute [local go_sem] Oper.semAt_some
set_option maxRecDepth 100000 in
set_option maxHeartbeats 4000000 in
/-- The iterator, if it can be said what the line's members are. -/
theorem back_stops (n : Nat) (g1 g2 : Nat) (w : World) (D0 D1 : Value) (p : ByteArray) (k : Int) (ms : List RvO) (hlen : ms.length ≤ maxLen)
    (h1 : IsB w g1 96 #[D0, D1]) (h2 : IsB w g2 168 #[.string p, .int .i64 k])
    (HL : ∀ W, Below w.heap.size w W → Calls Tryz.prog 142 #[.agg #[D0, D1], vF (p, k)] W (fun e W' => ∃ A c, e = .returned (.slice A ms.length c) ∧ RowV W' 111 12 A ms.length (ms.flatMap RvO.enc) ∧ Below W.heap.size W W')) :
    SeqStopsK Fence.wide (n + 1) Tryz.prog 141 #[vPtr g1, vPtr g2] (fun x : Nat × RvO => #[.int .i64 (x.1 : Int), x.2.1.val]) KpC (fun xs => xs = backL ms) (fun pre => pre <+: backL ms) ms.length w := by
  intro l J Jx W hW hJ hJx hY h0
  refine callsIn_of_wp Tryz.func141 rfl trivial ?_ rfl
  simp only [Tryz.ntmps141, List.size_toArray, List.length_cons, List.length_nil, Nat.reduceAdd, Nat.reduceSub, Array.replicate_succ, Array.replicate_zero, List.push_toArray, List.append_toArray, List.nil_append, List.cons_append]
  have i1 := h1.on hW
  have i2 := h2.on hW
  have c0 : W.cell? ⟨g1, 0, none⟩ = some D0 := i1.cell 0
  have c1 : W.cell? ⟨g1, 1, none⟩ = some D1 := i1.cell 1
  have d0 : W.cell? ⟨g2, 0, none⟩ = some (.string p) := i2.cell 0
  have d1 : W.cell? ⟨g2, 1, none⟩ = some (.int .i64 k) := i2.cell 1
  have HLW := Lib.hid (HL W hW)
  have HY := Lib.hid hY
  have HJ := Lib.hid hJ
  clear hY hJ hJx HL h1 h2
  gi_wp2_with (refine ⟨trivial, ?_⟩; gi_at_call 142; (with_reducible refine (callsIn_wide.2 HLW.out).mono ?_); refine halt_ ?_)
  rintro e W1 A c rfl hr hb
  have hJ1 := Lib.hid (HJ.out [] W W1 none h0 (grown_of hb) (fun r e => by cases e))
  have HR := Lib.hid hr
  clear hr c0 c1 d0 d1 i1 i2 HLW h0
  obtain ⟨N, hN⟩ : ∃ N, Hid (ms.length = N) := ⟨_, rfl⟩
  rw [hN.out] at hlen HY HR ⊢
  gi_wp2
  gi_loopw [11] (fun s11 wr => ∃ j : Nat, s11 = .int .i64 (j : Int) ∧ j ≤ N ∧ J ((backL ms).take j) wr ∧ RowV wr 111 12 A N (ms.flatMap RvO.enc)) (fun s11 _ => N - (intOf s11).toNat)
  case atStart => exact ⟨0, rfl, Nat.zero_le _, hJ1.out, HR.out⟩
  case round =>
    obtain ⟨j, rfl, hjN, hJs, hrs⟩ := hrel
    have HJs := Lib.hid hJs
    have HRs := Lib.hid hrs
    clear hJs hrs HR hJ1
    by_cases hlt : j < N
    · have hjm : j < ms.length := by rw [hN.out]; exact hlt
      obtain ⟨q, hq⟩ : ∃ q, N - 1 - j = q := ⟨_, rfl⟩
      have hqm : q < ms.length := by rw [hN.out]; omega
      have hb0 := backL_at ms hjm
      simp only [hN.out, hq] at hb0
      obtain ⟨r, hr⟩ : ∃ r, ms[q]'hqm = r := ⟨_, rfl⟩
      rw [hr] at hb0
      obtain ⟨g, hA, hg, hc⟩ := rvs_at (ms := ms) (w := wr) (A := A) (by rw [hN.out]; exact HRs.out) hqm
      rw [hr] at hc
      subst hA
      have b0 : wr.cell? ⟨g, q * 12, none⟩ = some (.string r.1.p) := hc 0 (by omega)
      have b1 : wr.cell? ⟨g, q * 12 + 1, none⟩ = some (.int .i64 r.1.n) := hc 1 (by omega)
      have b2 : wr.cell? ⟨g, q * 12 + 2, none⟩ = some (.int .i64 r.1.c) := hc 2 (by omega)
      have b3 : wr.cell? ⟨g, q * 12 + 3, none⟩ = some (.int .i64 r.1.a) := hc 3 (by omega)
      have b4 : wr.cell? ⟨g, q * 12 + 4, none⟩ = some (.int .i64 r.1.tb) := hc 4 (by omega)
      have b5 : wr.cell? ⟨g, q * 12 + 5, none⟩ = some (.bool r.1.f1) := hc 5 (by omega)
      have b6 : wr.cell? ⟨g, q * 12 + 6, none⟩ = some (.bool r.1.f2) := hc 6 (by omega)
      have b7 : wr.cell? ⟨g, q * 12 + 7, none⟩ = some (.bool r.1.f3) := hc 7 (by omega)
      have b8 : wr.cell? ⟨g, q * 12 + 8, none⟩ = some (.int .u64 r.1.sm) := hc 8 (by omega)
      have b9 : wr.cell? ⟨g, q * 12 + 9, none⟩ = some (.int .i64 r.1.sz) := hc 9 (by omega)
      have b10 : wr.cell? ⟨g, q * 12 + 10, none⟩ = some (.string r.1.fp) := hc 10 (by omega)
      have b11 : wr.cell? ⟨g, q * 12 + 11, none⟩ = some (.int .i64 r.1.fn) := hc 11 (by omega)
      clear hc
      have hlen2 : ((backL ms).take j).length < N := by
        rw [List.length_take, backL_len, hN.out]; omega
      obtain ⟨fn, tmps, assign, body, hy, hR⟩ := HY.out ((backL ms).take j) (j, r) wr HJs.out hlen2
      have hi1 : ((N : Int) - 1 - (j : Int)) = (q : Int) := by omega
      have hqN : q < N := by omega
      unfold maxLen at hlen
      have hnx : (backL ms).take j ++ [(j, r)] = (backL ms).take (j + 1) := by
        rw [List.take_add_one, hb0]
        rfl
      rw [hnx] at hR
      have HR2 := Lib.hid hR
      clear hb0 hlen2 hq hjm hnx hR
      gi_wp2
      refine HR2.out.mono ?_
      rintro e W2 (⟨rfl, hJ2, hk⟩ | ⟨rfl, hJx2⟩)
      · have HJ2 := Lib.hid hJ2
        have HK := Lib.hid (hk.rowV HRs.out)
        clear hJ2 hk b0 b1 b2 b3 b4 b5 b6 b7 b8 b9 b10 b11 hy HR2
        gi_wp2
        go_roundw
        case rel => exact ⟨j + 1, by go_num, by omega, HJ2.out, HK.out⟩
        case measure => simp [intOf]; omega
      · have HJ2 := Lib.hid hJx2
        clear hJx2 b0 b1 b2 b3 b4 b5 b6 b7 b8 b9 b10 b11 hy HR2
        gi_wp2
        refine bodyPost_ret (v := .tuple #[]) (results_none rfl _ _ _) rfl ?_
        exact ⟨⟨_, rfl⟩, .inr ⟨_, List.take_prefix _ _, HJ2.out⟩⟩
    · have e : (backL ms).take j = backL ms := by
        rw [List.take_of_length_le (by rw [backL_len, hN.out]; omega)]
      have HF := HJs.out
      rw [e] at HF
      gi_wp2
      go_end0
      exact ⟨⟨_, rfl⟩, .inl ⟨_, rfl, HF⟩⟩
end Go.Proofs.YtmiknfneeipkeaaGreat
namespace Go.Proofs.YtmiknfneeipkeaaGreat
open Go.RowKit Go.MapKept Go.ChangeMaps
attribute [local go_sem] wext_cell
/-- A row that is read, as a thing. -/
def vsOb (t : TypeId) (sz : Nat) (A : Option Addr) (n : Nat) (xs : List Value) : Ob where
  own := fun _ => False
  rd := fun i => 0 < n ∧ A = some ⟨i, 0, none⟩
  holds := fun w => RowV w t sz A n xs
  stable := fun w w' h hs hk => h.same (fun i h1 h2 => hk i (.inr ⟨h1, h2⟩))
/-- Marks of loops over functions among the calls that a function has deferred. -/
def dfOb (L : List Nat) : Ob where
  own := fun i => i ∈ L
  rd := fun _ => False
  holds := fun w => ∀ i ∈ L, w.heap[i]? = some (.deferred (some []))
  stable := fun w w' h hs hk i hi => (hk i (.inl hi)).trans (h i hi)
def marks (L : List Nat) : List Deferred := L.map (fun i => { target := .collected i, args := #[] })
def stayB (kp bf : Int) (kept : List (ID × Bool)) (x : Nat × RvO) : Bool := decide (bf ≤ x.2.1.c) || (decide ((x.1 : Int) < kp) || inS kept x.2.1.id)
abbrev Sel := List (ID × Bool) × List (Fi × Bool)
/-- A member is looked at. -/
def selStep (kp bf : Int) (kept : List (ID × Bool)) (s : Sel) (x : Nat × RvO) : Sel :=
  if x.2.1.a = 3 then s else if stayB kp bf kept x then (setL s.1 x.2.1.id true, s.2) else (s.1, setL s.2 x.2.1.fi true)
def selLine (kp bf : Int) (kept : List (ID × Bool)) (s : Sel) (ms : List RvO) : Sel := (backL ms).foldl (selStep kp bf kept) s
def selAll (kp bf : Int) (kept : List (ID × Bool)) (mem : Fi → List RvO) (fs : List Fi) : Sel := fs.foldl (fun s f => selLine kp bf kept s (mem f)) ([], [])
def keptOf (ks : List ID) : List (ID × Bool) := ks.foldl (fun L i => setL L i true) []
def selIs (s : Sel) (r : Rv) : Bool := inS s.2 r.fi && !inS s.1 r.id
def selOf (s : Sel) (rs : List Rv) : List Rv := rs.filter (selIs s)
def encF (f : Fi) : List Value := [.string f.1, .int .i64 f.2]
theorem encF_len (f : Fi) : (encF f).length = 2 := rfl
theorem keptOf_in (ks : List ID) (i : ID) : inS (keptOf ks) i = decide (i ∈ ks) := by
  have key : ∀ (ks : List ID) (L : List (ID × Bool)), inS (ks.foldl (fun L i => setL L i true) L) i = (decide (i ∈ ks) || inS L i) := by
    intro ks
    induction ks with
    | nil => intro L; simp
    | cons k ks ih =>
      intro L
      rw [List.foldl_cons, ih, inS_set]
      by_cases e : k = i
      · subst e
        simp
      · have : i ≠ k := fun h => e h.symm
        simp [e, this]
  rw [keptOf, key]
  simp [inS_nil]
theorem selOf_no {s : Sel} {rs : List Rv} {j : Nat} {r : Rv} (h : rs[j]? = some r) (hn : selIs s r = false) : selOf s (rs.take (j + 1)) = selOf s (rs.take j) := by
  unfold selOf
  rw [List.take_add_one, h, List.filter_append]
  simp [hn]
theorem selOf_yes {s : Sel} {rs : List Rv} {j : Nat} {r : Rv} (h : rs[j]? = some r) (hn : selIs s r = true) : selOf s (rs.take (j + 1)) = selOf s (rs.take j) ++ [r] := by
  unfold selOf
  rw [List.take_add_one, h, List.filter_append]
  simp [hn]
section
variable {b : Nat} {w0 w : World} {l : List Ob}
/-- Things that lie ahead of B abide what is grown from B on. -/
theorem SW.growB {B : Nat} {w' : World} (h : SW b w0 l w) (hl : ∀ o ∈ l, ∀ i, (o.own i ∨ o.rd i) → i < B) (hb : b ≤ B) {row : Option Nat} (hg : w.grownBy w' row) (hr : ∀ r, row = some r → B ≤ r) : SW b w0 l w' := by
  have hk : ∀ o ∈ l, ∀ i, (o.own i ∨ o.rd i) → w'.heap[i]? = w.heap[i]? := fun o ho i hi => by
    have h1 := hl o ho i hi
    have h2 : i < w.heap.size := by
      rcases hi with hi | hi
      · exact (h.1.own o ho i hi).2
      · exact h.1.rd o ho i hi
    exact hg.block i h2 (fun e => by have := hr i e.symm; omega)
  refine ⟨⟨Nat.le_trans h.1.base hg.size, fun y hy => y.stable _ _ (h.1.holds y hy) ⟨hg.os, hg.tape, hg.output, hg.size⟩ (fun i hi => hk y hy i hi), fun y hy i hi => ⟨(h.1.own y hy i hi).1, Nat.lt_of_lt_of_le (h.1.own y hy i hi).2 hg.size⟩, fun y hy i hi => Nat.lt_of_lt_of_le (h.1.rd y hy i hi) hg.size, h.1.apart⟩, h.2.trans ⟨hg.os, hg.tape, hg.output, hg.size, fun k hk => ?_⟩⟩
  by_cases e : k < w.heap.size
  · exact hg.block k e (fun e => by have := hr k e.symm; omega)
  · have := h.1.base
    omega
theorem SW.ownFrom {β : Type} {B : Nat} {L : β → List Ob} (hl : ∀ s, ∀ o ∈ L s, ∀ i, (o.own i ∨ o.rd i) → i < B) (hb : b ≤ B) : OwnFrom B (fun s W => SW b w0 (L s) W) :=
  fun s _ _ _ hs hg hr => hs.growB (hl s) hb hg (fun r e => (hr r e).1)
theorem SW.inside (h : SW b w0 l w) : ∀ o ∈ l, ∀ i, (o.own i ∨ o.rd i) → i < w.heap.size := fun o ho i hi => by
  rcases hi with hi | hi
  · exact (h.1.own o ho i hi).2
  · exact h.1.rd o ho i hi
/-- Marks are struck. -/
theorem SW.unmark {w' : World} {L : List Nat} (h : SW b w0 (dfOb L :: l) w) (hk : ∀ k, k ∉ L → w'.heap[k]? = w.heap[k]?) (hs : w'.heap.size = w.heap.size) (h1 : w'.os = w.os) (h2 : w'.tape = w.tape) (h3 : w'.output = w.output) : SW b w0 l w' := by
  have ha := List.pairwise_cons.1 h.1.apart
  have hn : ∀ o ∈ l, ∀ i, (o.own i ∨ o.rd i) → i ∉ L := fun o ho i hi hL => by
    rcases hi with hi | hi
    · exact ((ha.1 o ho).1 i hL).1 hi
    · exact ((ha.1 o ho).1 i hL).2 hi
  refine ⟨⟨by rw [hs]; exact h.1.base, fun y hy => y.stable _ _ (h.1.holds y (List.mem_cons_of_mem _ hy)) ⟨h1, h2, h3, by rw [hs]; exact Nat.le_refl _⟩ (fun i hi => hk i (hn y hy i hi)), fun y hy i hi => by rw [hs]; exact h.1.own y (List.mem_cons_of_mem _ hy) i hi, fun y hy i hi => by rw [hs]; exact h.1.rd y (List.mem_cons_of_mem _ hy) i hi, ha.2⟩, h.2.trans ⟨h1, h2, h3, by rw [hs]; exact Nat.le_refl _, fun k hkb => hk k (fun hL => ?_)⟩⟩
  have := (h.1.own (dfOb L) (List.mem_cons_self ..) k hL).1
  omega
/-- The marks that a function leaves with. -/
theorem leaves_marks {P : Program} {F : Fence} {n : Nat} {fn : Func} {tmps : Array Value} {R : Ending → World → Prop} : ∀ (L : List Nat) (w : World), L.Nodup → (∀ i ∈ L, w.heap[i]? = some (.deferred (some []))) →
    (∀ w', (∀ k, k ∉ L → w'.heap[k]? = w.heap[k]?) → w'.heap.size = w.heap.size → w'.os = w.os → w'.tape = w.tape → w'.output = w.output → LeavesIn F n P fn tmps R [] .returning w') → LeavesInM F n P fn tmps R (marks L) .returning w
  | [], w, _, _, h => h w (fun _ _ => rfl) rfl rfl rfl rfl
  | i :: L, w, hn, hd, h => by
    have hi := hd i (by simp)
    have hlt := (Array.getElem?_eq_some_iff.1 hi).1
    refine ⟨by simp, .inl ⟨i, _, rfl, run_takeDeferred hi, ?_⟩⟩
    refine leaves_marks L _ (List.nodup_cons.1 hn).2 (fun j hj => ?_) (fun w' hk hs h1 h2 h3 => h w' (fun k hkn => ?_) (by rw [hs]; simp) h1 h2 h3)
    · rw [World.putObj_heap_other (fun e => (List.nodup_cons.1 hn).1 (by rw [← e]; exact hj))]
      exact hd j (List.mem_cons_of_mem _ hj)
    · rw [hk k (fun h => hkn (List.mem_cons_of_mem _ h)), World.putObj_heap_other (fun e => hkn (by rw [e]; simp))]
end
/-- archive.fileOf (104). -/
theorem fileOf_all (r : Rv) (w : World) : Calls Tryz.prog 104 #[r.val] w (fun e w' => e = .returned (vF r.fi) ∧ Below w.heap.size w w') := by
  go_enter Tryz.func104, Tryz.ntmps104
  go_wp2_with fail
  refine bodyPost_ret (v := vF r.fi) ?_ rfl ⟨rfl, ((Below.refl _ _).alloc (Nat.le_refl _) _).alloc (by simp) _⟩
  simp [results, Tryz.results104, go_sem, Rv.fi]
/-- archive.backwards (103). -/
theorem backwards_any (w : World) (D0 D1 : Value) (p : ByteArray) (k : Int) : Calls Tryz.prog 103 #[.agg #[D0, D1], vF (p, k)] w (fun e w' => e = .returned (.func (.func 141) #[] #[vPtr w.heap.size, vPtr (w.heap.size + 1)]) ∧ w' = (w.alloc (.cells #[D0, D1] 96)).alloc (.cells #[.string p, .int .i64 k] 168)) := by
  go_enter Tryz.func103, Tryz.ntmps103
  go_wp2_with fail
  go_ret
  exact ⟨rfl, rfl⟩
end Go.Proofs.YtmiknfneeipkeaaGreat
namespace Go.Proofs.YtmiknfneeipkeaaGreat
open Go.RowKit Go.MapKept Go.ChangeMaps Go.Shelf Go.Sort
/-- Fold. -/
def foldI (v n : Int) : Int := if n ≤ 1 then 0 else if v.tmod n < 0 then v.tmod n + n else v.tmod n
theorem foldI_in (v n : Int) : 0 ≤ foldI v n ∧ (1 < n → foldI v n < n) := by
  unfold foldI
  split
  · omega
  · have t1 := tmod_lt' v n (by omega)
    have t2 := tmod_gt' v n (by omega)
    split <;> omega
set_option maxHeartbeats 400000 in
theorem Fold_x (v n : Int) (w : World) (hn : n ≤ 4294967296) : Calls Tryz.prog 29 #[.int .i64 v, .int .i64 n] w (fun e w' => e = .returned (.int .i64 (foldI v n)) ∧ w = w') := by
  by_cases h1 : n ≤ 1
  · have e : foldI v n = 0 := if_pos h1
    rw [e]
    go_enter Tryz.func29, Tryz.ntmps29
    go_wp2
    go_ret
    exact ⟨rfl, rfl⟩
  · have t1 := tmod_lt' v n (by omega)
    have t2 := tmod_gt' v n (by omega)
    have e : foldI v n = if v.tmod n < 0 then v.tmod n + n else v.tmod n := if_neg h1
    rw [e]
    obtain ⟨t, ht⟩ : ∃ t, v.tmod n = t := ⟨_, rfl⟩
    rw [ht] at t1 t2 ⊢
    have hn0 : (n == 0) = false := by rw [beq_eq_false_iff_ne]; omega
    have hnm : (n == -1) = false := by rw [beq_eq_false_iff_ne]; omega
    by_cases h2 : t < 0
    · rw [if_pos h2]
      go_enter Tryz.func29, Tryz.ntmps29
      go_wp2
      go_ret
      exact ⟨rfl, rfl⟩
    · rw [if_neg h2]
      go_enter Tryz.func29, Tryz.ntmps29
      go_wp2
      go_ret
      exact ⟨rfl, rfl⟩
/-- What lies on the tape at a place. -/
def tapeV (L : List Int) (n : Nat) : Int := if n < L.length then L.getD n 0 else ((n : Int) * 7).tmod 11
def tnext (L : List Int) (n : Nat) (k : Int) : Int := foldI (tapeV L n) k
theorem tnext_in (L : List Int) (n : Nat) (k : Int) : 0 ≤ tnext L n k ∧ (1 < k → tnext L n k < k) := foldI_in _ _
/-- The tape's numbers. -/
def RdL (w : World) (g : Nat) (A : Option Addr) (L : List Int) : Prop := 0 < L.length → ∃ b o, A = some ⟨b, o, none⟩ ∧ b < w.heap.size ∧ b ≠ g ∧ ∀ j, j < L.length → w.cell? ⟨b, o + j, none⟩ = some (.int .i64 (L.getD j 0))
/-- A tape at place n. -/
def tpOb (g : Nat) (A : Option Addr) (c : Nat) (L : List Int) (n : Nat) : Ob where
  own := fun i => i = g
  rd := fun i => 0 < L.length ∧ ∃ o, A = some ⟨i, o, none⟩
  holds := fun w => IsB w g 26 #[.slice A L.length c, .int .i64 n] ∧ RdL w g A L ∧ L.length ≤ 9223372036854775807
  stable := fun w w' h hs hk => by
    refine ⟨(hk g (.inl rfl)).trans h.1, fun hp => ?_, h.2.2⟩
    obtain ⟨b, o, e, hlt, hne, hc⟩ := h.2.1 hp
    have h2 := hk b (.inr ⟨hp, o, e⟩)
    refine ⟨b, o, e, Nat.lt_of_lt_of_le hlt hs.2.2.2, hne, fun j hj => ?_⟩
    rw [← hc j hj]
    simp [World.cell?, h2]
section
variable {b : Nat} {w0 w : World} {l : List Ob} {g : Nat} {A : Option Addr} {c : Nat} {L : List Int} {n : Nat}
/-- One more number is read. -/
theorem SW.tick (h : SW b w0 l w) (k : Nat) (hk : l[k]? = some (tpOb g A c L n)) : SW b w0 (l.set k (tpOb g A c L (n + 1))) (w.setCell ⟨g, 1, none⟩ (.int .i64 ((n : Int) + 1))) := by
  have hh := h.get k hk
  have hgr : w.grownBy (w.setCell ⟨g, 1, none⟩ (.int .i64 ((n : Int) + 1))) (some g) := g_set (p := ⟨g, 1, none⟩) (g_refl _ _) (.inl rfl) _
  have hlt := hh.1.lt
  have hsz : (w.setCell ⟨g, 1, none⟩ (.int .i64 ((n : Int) + 1))).heap.size = w.heap.size := by simp [World.setCell]
  have hnew : (tpOb g A c L (n + 1)).holds (w.setCell ⟨g, 1, none⟩ (.int .i64 ((n : Int) + 1))) := by
    refine ⟨by simpa using hh.1.set_ 1 (.int .i64 ((n : Int) + 1)), fun hp => ?_, hh.2.2⟩
    obtain ⟨b', o, e, hl, hne, hc⟩ := hh.2.1 hp
    exact ⟨b', o, e, by rw [hsz]; exact hl, hne, fun j hj => (g_cell hgr hl hne).trans (hc j hj)⟩
  have := h.1.stepAt k hk (o' := tpOb g A c L (n + 1)) (Fr.grown hgr rfl (fun i hi => .inl hi)) (fun i hi => .inr (.inl hi)) hnew (fun i hi => by
    rw [hsz]
    rcases hi with hi | ⟨hp, o, e⟩
    · have hi : i = g := hi
      rw [hi]
      exact hlt
    · obtain ⟨b', o', e', hl, _⟩ := hh.2.1 hp
      rw [e] at e'
      injection e' with e'
      injection e' with e' _
      rw [e']
      exact hl)
  exact ⟨this.1, h.2.trans this.2⟩
set_option maxRecDepth 100000 in
set_option maxHeartbeats 1000000 in
theorem Next_x (h : SW b w0 l w) (k : Nat) (hk : l[k]? = some (tpOb g A c L n)) (m : Int) (hm : m ≤ 4294967296) (hn : n ≤ 1000000) :
    Calls Tryz.prog 9 #[vPtr g, .int .i64 m] w (fun e w' => e = .returned (.int .i64 (tnext L n m)) ∧ SW b w0 (l.set k (tpOb g A c L (n + 1))) w') := by
  have hh := h.get k hk
  have hc0 : w.cell? ⟨g, 0, none⟩ = some (.slice A L.length c) := hh.1.cell 0
  have hc1 : w.cell? ⟨g, 1, none⟩ = some (.int .i64 n) := hh.1.cell 1
  have hf1 : w.frozen? ⟨g, 1, none⟩ = false := hh.1.frozen 1
  have H1 := Lib.hid (fun q : Nat => (h.on (bdrewN (Below.refl _ _) q)).tick k hk)
  have h3 := hh.2.2
  by_cases hlt : n < L.length
  · obtain ⟨b', o, rfl, hb, _, hc⟩ := hh.2.1 (by omega)
    have hcl : w.cell? ⟨b', o + n, none⟩ = some (.int .i64 (L.getD n 0)) := hc n hlt
    have et : tapeV L n = L.getD n 0 := if_pos hlt
    unfold tnext
    rw [et]
    clear hc hh h et
    obtain ⟨v, Hv⟩ : ∃ v, Hid (L.getD n 0 = v) := ⟨_, rfl⟩
    rw [Hv.out] at hcl ⊢
    have hltb : decide (n < L.length) = true := by simp; omega
    go_enter Tryz.func9, Tryz.ntmps9
    go_wp2_with fail
    go_quiet (fail)
    go_wp2_with fail
    go_quiet (fail)
    go_wp2_with fail
    refine (Fold_x v m _ hm).mono ?_
    rintro e w1 ⟨rfl, rfl⟩
    go_wp2_with fail
    go_ret
    exact ⟨rfl, H1.out _⟩
  · have et : tapeV L n = ((n : Int) * 7).tmod 11 := if_neg hlt
    unfold tnext
    rw [et]
    clear hh h et
    have hltb : decide (n < L.length) = false := by simp; omega
    go_enter Tryz.func9, Tryz.ntmps9
    go_wp2_with fail
    go_quiet (fail)
    go_wp2_with fail
    refine (Fold_x _ m _ hm).mono ?_
    rintro e w1 ⟨rfl, rfl⟩
    go_wp2_with fail
    go_ret
    exact ⟨rfl, H1.out _⟩
end
end Go.Proofs.YtmiknfneeipkeaaGreat
namespace Go.Proofs.YtmiknfneeipkeaaGreat
open Go.RowKit

/-- One byte in a new block. -/
theorem sb_one (w : World) (x : UInt8) (v : Int) (hv : ((x.toNat : Nat) : Int) = v) : SB (w.alloc (.cells #[.int .u8 v] 5)) (some ⟨w.heap.size, 0, none⟩) [x] := by
  refine ⟨(fun e => by cases e), fun ad e j u hu => ?_⟩
  injection e with e
  subst e
  have hj : j = 0 := by
    have := (List.getElem?_eq_some_iff.1 hu).1
    simp at this
    exact this
  subst hj
  simp [encU] at hu
  subst hu
  rw [lit_add, (IsB.new w 5 #[.int .u8 v]).cell, ← hv]
  rfl
theorem le8_take (v k : Nat) (hk : k < 8) : (le8 v).take (k + 1) = (le8 v).take k ++ [UInt8.ofNat (v / 2 ^ (8 * k))] := by
  rw [List.take_succ_eq_append_getElem (by rw [le8_len]; exact hk)]
  congr 2
  simp [le8]
/-- Bytes that can be appended to: those of a block of bytes, or full ones at whatever place. -/
def RX (w : World) (d : BD) (bs : List UInt8) : Prop := RB w d bs ∨ (bs.length = d.len ∧ d.len = d.cap ∧ 0 < d.len ∧ SB w d.A bs)
theorem RX.of {w : World} {d : BD} {bs : List UInt8} (h : RB w d bs) : RX w d bs := .inl h
theorem RX.on {w w' : World} {d : BD} {bs : List UInt8} (h : RX w d bs) (hb : Below w.heap.size w w') : RX w' d bs := by
  rcases h with h | ⟨h1, h2, h3, h4⟩
  · exact .inl (h.on hb)
  · exact .inr ⟨h1, h2, h3, h4.on hb h4.lt⟩
theorem run_append_full (w : World) (ty : TypeId) (d : BD) (bs : List UInt8) (hl : bs.length = d.len) (hc : d.len = d.cap) (h0 : 0 < d.len) (hs : SB w d.A bs) (A : Option Addr) (c : Nat) (ns : List UInt8) (hsn : SB w A ns) (hp : 0 < ns.length) (hb : bs.length + ns.length ≤ 1099511627776) :
    ∃ d' w', (Builtin.append_ #[40, 40] ty #[vB d, .slice A ns.length c]).run Tryz.prog w = .ok (vB d') w' ∧ d'.len = d.len + ns.length ∧ AppB w d (bs ++ ns) d' w' := by
  obtain ⟨i0, hi, hz0, hz1, hz2⟩ := info_parts info5
  cases hA : A with
  | none =>
    have := hsn.1 hA
    omega
  | some a =>
    cases hd : d.A with
    | none =>
      have := hs.1 hd
      omega
    | some ad =>
      have hv : vB d = .slice (some ad) d.len d.cap := by simp [vB, hd]
      have hlo : (bs.map encU).length = d.len * i0.size := by rw [hz1, List.length_map, Nat.mul_one, hl]
      have hln : (ns.map encU).length = ns.length * i0.size := by rw [hz1, List.length_map, Nat.mul_one]
      have hr := run_append_grow (P := Tryz.prog) w 40 ty 5 i0 _ Tryz.underlying40 hi hz0 ad d.len d.cap (bs.map encU) hlo (fun j u hu => hs.2 ad hd j u hu) a ns.length c (ns.map encU) hln (hsn.2 a hA) (by omega) (by omega) (growslice_fits (by omega) (by rw [hz2]; omega))
      have hge := grownCap_ge w (d.len + ns.length) d.cap 5
      refine ⟨⟨some ⟨w.heap.size, 0, none⟩, d.len + ns.length, grownCap w (d.len + ns.length) d.cap 5⟩, _, by rw [hv]; exact hr, rfl, ?_, .inr ⟨w.heap.size, rfl, Nat.le_refl _, (Below.refl w.heap.size w).drew.alloc (by simp) _⟩⟩
      refine new_bytes w.drew _ _ _ _ _ (by simp) (by simp; omega) hge ?_ (fun j u hu => ?_)
      · rw [Array.size_append, Array.size_append, List.size_toArray, List.size_toArray, size_zeroCells]
        simp [Value.cells]
        omega
      · rw [List.map_append] at hu
        have hj := (List.getElem?_eq_some_iff.1 hu).1
        rw [Array.getElem?_append_left (by simpa using hj), List.append_toArray, List.getElem?_toArray]
        exact hu
theorem wpList_append_rx {w : World} {ops : Array Oper} {rest : List Oper} {o : Oper} {a : Act} {Q : Exit → Act → World → Prop} (hgd : o.guard = none) (s x : Operand) (ho : o.op = .call { callee := .builtin .append, args := #[s, x], argTypes := #[40, 40] }) (d : BD) (bs : List UInt8) (hs : a.eval s = vB d) (h : RX w d bs)
    (A : Option Addr) (c : Nat) (ns : List UInt8) (hx : a.eval x = .slice A ns.length c) (hsrc : SB w A ns) (hp : 0 < ns.length) (hb : bs.length + ns.length ≤ 1099511627776)
    (hK : ∀ d' w', d'.len = d.len + ns.length → AppB w d (bs ++ ns) d' w' → wpList Tryz.prog ops Q rest (a.put o.dst (vB d')) w') : wpList Tryz.prog ops Q (o :: rest) a w := by
  rcases h with h | ⟨h1, h2, h3, h4⟩
  · exact wpList_append_bytes hgd s x ho d bs hs h A c ns hx hsrc hb hK
  · refine wpList_plain hgd fun K hK' => ?_
    obtain ⟨d', w', hr, h5, h6⟩ := run_append_full w o.type d bs h1 h2 h3 h4 A c ns hsrc hp hb
    unfold Oper.wp execOp
    simp only [ho, resolve, invoke, builtin, Sem.run_bind, Sem.run_pure, Result.andThen_ok, List.map_toArray, List.map_cons, List.map_nil, hs, hx, hr]
    exact hK' _ _ (hK d' w' h5 h6)
def uSize (v : Nat) : Nat := (putU v).length
set_option maxRecDepth 100000 in
set_option maxHeartbeats 1000000 in
theorem uintSize_any (v : Nat) (w : World) (hv : v < 18446744073709551616) : Calls Tryz.prog 93 #[.int .u64 (v : Int)] w fun e w' => (∃ n : Nat, e = .returned (.int .i64 n) ∧ n ≤ 100) ∧ w = w' := by
  go_enter Tryz.func93, Tryz.ntmps93
  go_wp2_with fail
  go_loop [0, 3] (fun x n => ∃ (k u : Nat), k ≤ 64 ∧ n = .int .i64 ((k : Nat) : Int) ∧ x = .int .u64 ((u : Nat) : Int) ∧ u * 2 ^ k ≤ v) (fun x _ => (intOf x).toNat)
  case atStart => exact ⟨1, v / 128, by omega, rfl, by go_num, by omega⟩
  case round =>
    obtain ⟨k, u, hk, rfl, rfl, hu⟩ := hrel
    by_cases hp : 0 < u
    · have hk2 : k < 64 := by
        rcases Nat.lt_or_ge k 64 with h | h
        · exact h
        · exfalso
          have : 2 ^ 64 ≤ 2 ^ k := Nat.pow_le_pow_right (by omega) h
          have h2 : 1 * 2 ^ k ≤ u * 2 ^ k := Nat.mul_le_mul_right _ hp
          omega
      have hu2 : Hid (u / 128 * 2 ^ (k + 1) ≤ v) := by
        rw [Hid, Nat.pow_succ]
        have h1 : u / 128 * (2 ^ k * 2) = u / 128 * 2 * 2 ^ k := by rw [Nat.mul_comm (2 ^ k) 2, ← Nat.mul_assoc]
        rw [h1]
        exact Nat.le_trans (Nat.mul_le_mul_right _ (by omega)) hu
      clear hu
      go_wp2_with fail
      go_round
      case rel => exact ⟨k + 1, u / 128, by omega, by go_num, by go_num, hu2.out⟩
      case measure => simp [intOf]; omega
    · clear hu
      go_wp2_with fail
      go_ret
      exact ⟨⟨k, rfl, by omega⟩, rfl⟩
end Go.Proofs.YtmiknfneeipkeaaGreat
