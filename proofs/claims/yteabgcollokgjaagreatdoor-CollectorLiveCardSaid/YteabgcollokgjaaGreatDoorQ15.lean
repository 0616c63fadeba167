/- TP OB LW FA FR R3 in one text. -/
import Derived.Test.YteabgcollokgjaaGreatDoorQ14
import Derived.Test.YteabgcollokgjaaGreatDoorQ01
import Derived.Test.YteabgcollokgjaaGreatDoorQ12
import Derived.Test.YteabgcollokgjaaGreatDoorQ13
import Derived.Test.YteabgcollokgjaaGreatDoorQ11
import Derived.Deep.CutRange
import Derived.Deep.CutBlock
set_option linter.unusedSimpArgs false
set_option linter.unusedVariables false
namespace Go.Proofs.YteabgcollokgjaaGreatDoor
open Go.RowKit Go.MapKept Go.ChangeMaps Go.Shelf Go.Sort

/-- Fold. -/
def foldI (v n : Int) : Int := if n ≤ 1 then 0 else if v.tmod n < 0 then v.tmod n + n else v.tmod n
theorem foldI_in (v n : Int) : 0 ≤ foldI v n ∧ (1 < n → foldI v n < n) := by
 unfold foldI
 split
 · omega
 · have t1 := tmod_lt' v n (by omega)
   have t2 := tmod_gt' v n (by omega)
   split <;> omega
set_option maxHeartbeats 400000 in
theorem Fold_x (v n : Int) (w : World) (hn : n ≤ 4294967296) : Calls Tryz.prog 24 #[.int .i64 v, .int .i64 n] w (fun e w' => e = .returned (.int .i64 (foldI v n)) ∧ w = w') := by
 by_cases h1 : n ≤ 1
 · have e : foldI v n = 0 := if_pos h1
   rw [e]
   go_enter Tryz.func24, Tryz.ntmps24
   go_wp2
   go_ret
   exact ⟨rfl, rfl⟩
 · have t1 := tmod_lt' v n (by omega)
   have t2 := tmod_gt' v n (by omega)
   have e : foldI v n = if v.tmod n < 0 then v.tmod n + n else v.tmod n := if_neg h1
   rw [e]
   obtain ⟨t, ht⟩ : ∃ t, v.tmod n = t := ⟨_, rfl⟩
   rw [ht] at t1 t2 ⊢
   have hn0 : (n == 0) = false := by rw [beq_eq_false_iff_ne]; omega
   have hnm : (n == -1) = false := by rw [beq_eq_false_iff_ne]; omega
   by_cases h2 : t < 0
   · rw [if_pos h2]
     go_enter Tryz.func24, Tryz.ntmps24
     go_wp2
     go_ret
     exact ⟨rfl, rfl⟩
   · rw [if_neg h2]
     go_enter Tryz.func24, Tryz.ntmps24
     go_wp2
     go_ret
     exact ⟨rfl, rfl⟩
/-- What lies on the tape at a place. -/
def tapeV (L : List Int) (n : Nat) : Int := if n < L.length then L.getD n 0 else ((n : Int) * 7).tmod 11
def tnext (L : List Int) (n : Nat) (k : Int) : Int := foldI (tapeV L n) k
theorem tnext_in (L : List Int) (n : Nat) (k : Int) : 0 ≤ tnext L n k ∧ (1 < k → tnext L n k < k) := foldI_in _ _
/-- The tape's numbers. -/
def RdL (w : World) (g : Nat) (A : Option Addr) (L : List Int) : Prop := 0 < L.length → ∃ b o, A = some ⟨b, o, none⟩ ∧ b < w.heap.size ∧ b ≠ g ∧ ∀ j, j < L.length → w.cell? ⟨b, o + j, none⟩ = some (.int .i64 (L.getD j 0))
/-- A tape at place n. -/
def tpOb (g : Nat) (A : Option Addr) (c : Nat) (L : List Int) (n : Nat) : Ob where
 own := fun i => i = g
 rd := fun i => 0 < L.length ∧ ∃ o, A = some ⟨i, o, none⟩
 holds := fun w => IsB w g 50 #[.slice A L.length c, .int .i64 n] ∧ RdL w g A L ∧ L.length ≤ 9223372036854775807
 stable := fun w w' h hs hk => by
  refine ⟨(hk g (.inl rfl)).trans h.1, fun hp => ?_, h.2.2⟩
  obtain ⟨b, o, e, hlt, hne, hc⟩ := h.2.1 hp
  have h2 := hk b (.inr ⟨hp, o, e⟩)
  refine ⟨b, o, e, Nat.lt_of_lt_of_le hlt hs.2.2.2, hne, fun j hj => ?_⟩
  rw [← hc j hj]
  simp [World.cell?, h2]
section
variable {b : Nat} {w0 w : World} {l : List Ob} {g : Nat} {A : Option Addr} {c : Nat} {L : List Int} {n : Nat}
/-- One more number is read. -/
theorem SW.tick (h : SW b w0 l w) (k : Nat) (hk : l[k]? = some (tpOb g A c L n)) : SW b w0 (l.set k (tpOb g A c L (n + 1))) (w.setCell ⟨g, 1, none⟩ (.int .i64 ((n : Int) + 1))) := by
 have hh := h.get k hk
 have hgr : w.grownBy (w.setCell ⟨g, 1, none⟩ (.int .i64 ((n : Int) + 1))) (some g) := g_set (p := ⟨g, 1, none⟩) (g_refl _ _) (.inl rfl) _
 have hlt := hh.1.lt
 have hsz : (w.setCell ⟨g, 1, none⟩ (.int .i64 ((n : Int) + 1))).heap.size = w.heap.size := by simp [World.setCell]
 have hnew : (tpOb g A c L (n + 1)).holds (w.setCell ⟨g, 1, none⟩ (.int .i64 ((n : Int) + 1))) := by
  refine ⟨by simpa using hh.1.set_ 1 (.int .i64 ((n : Int) + 1)), fun hp => ?_, hh.2.2⟩
  obtain ⟨b', o, e, hl, hne, hc⟩ := hh.2.1 hp
  exact ⟨b', o, e, by rw [hsz]; exact hl, hne, fun j hj => (g_cell hgr hl hne).trans (hc j hj)⟩
 have := h.1.stepAt k hk (o' := tpOb g A c L (n + 1)) (Fr.grown hgr rfl (fun i hi => .inl hi)) (fun i hi => .inr (.inl hi)) hnew (fun i hi => by
  rw [hsz]
  rcases hi with hi | ⟨hp, o, e⟩
  · have hi : i = g := hi
    rw [hi]
    exact hlt
  · obtain ⟨b', o', e', hl, _⟩ := hh.2.1 hp
    rw [e] at e'
    injection e' with e'
    injection e' with e' _
    rw [e']
    exact hl)
 exact ⟨this.1, h.2.trans this.2⟩
set_option maxRecDepth 100000 in
set_option maxHeartbeats 1000000 in
theorem Next_x (h : SW b w0 l w) (k : Nat) (hk : l[k]? = some (tpOb g A c L n)) (m : Int) (hm : m ≤ 4294967296) (hn : n ≤ 1000000) :
 Calls Tryz.prog 33 #[vPtr g, .int .i64 m] w (fun e w' => e = .returned (.int .i64 (tnext L n m)) ∧ SW b w0 (l.set k (tpOb g A c L (n + 1))) w') := by
 have hh := h.get k hk
 have hc0 : w.cell? ⟨g, 0, none⟩ = some (.slice A L.length c) := hh.1.cell 0
 have hc1 : w.cell? ⟨g, 1, none⟩ = some (.int .i64 n) := hh.1.cell 1
 have hf1 : w.frozen? ⟨g, 1, none⟩ = false := hh.1.frozen 1
 have H1 := Lib.hid (fun q : Nat => (h.on (bdrewN (Below.refl _ _) q)).tick k hk)
 have h3 := hh.2.2
 by_cases hlt : n < L.length
 · obtain ⟨b', o, rfl, hb, _, hc⟩ := hh.2.1 (by omega)
   have hcl : w.cell? ⟨b', o + n, none⟩ = some (.int .i64 (L.getD n 0)) := hc n hlt
   have et : tapeV L n = L.getD n 0 := if_pos hlt
   unfold tnext
   rw [et]
   clear hc hh h et
   obtain ⟨v, Hv⟩ : ∃ v, Hid (L.getD n 0 = v) := ⟨_, rfl⟩
   rw [Hv.out] at hcl ⊢
   have hltb : decide (n < L.length) = true := by simp; omega
   go_enter Tryz.func33, Tryz.ntmps33
   go_wp2_with fail
   go_quiet (fail)
   go_wp2_with fail
   go_quiet (fail)
   go_wp2_with fail
   refine (Fold_x v m _ hm).mono ?_
   rintro e w1 ⟨rfl, rfl⟩
   go_wp2_with fail
   go_ret
   exact ⟨rfl, H1.out _⟩
 · have et : tapeV L n = ((n : Int) * 7).tmod 11 := if_neg hlt
   unfold tnext
   rw [et]
   clear hh h et
   have hltb : decide (n < L.length) = false := by simp; omega
   go_enter Tryz.func33, Tryz.ntmps33
   go_wp2_with fail
   go_quiet (fail)
   go_wp2_with fail
   refine (Fold_x _ m _ hm).mono ?_
   rintro e w1 ⟨rfl, rfl⟩
   go_wp2_with fail
   go_ret
   exact ⟨rfl, H1.out _⟩
end
end Go.Proofs.YteabgcollokgjaaGreatDoor
namespace Go.Proofs.YteabgcollokgjaaGreatDoor
open Go.RowKit Go.MapKept Go.ChangeMaps Go.Shelf Go.Sort

theorem set_self {α : Type} : ∀ (L : List α) (i : Nat) (v : α), L[i]? = some v → L.set i v = L
 | [], _, _, h => by simp at h
 | x :: L, 0, v, h => by
  have h : x = v := by simpa using h
  rw [List.set_cons_zero, h]
 | x :: L, i + 1, v, h => by rw [List.set_cons_succ, set_self L i v (by simpa using h)]
section
variable {b : Nat} {w0 w w' : World} {l t : List Ob} {o o' : Ob}
theorem pair_all {l : List Ob} (h : l.Pairwise Apart) {x y : Ob} (hx : x ∈ l) (hy : y ∈ l) (hne : x ≠ y) : Apart x y := by
 induction l with
 | nil => cases hx
 | cons z l ih =>
  obtain ⟨h1, h2⟩ := List.pairwise_cons.1 h
  rcases List.mem_cons.1 hx with rfl | hx
  · rcases List.mem_cons.1 hy with rfl | hy
    · exact absurd rfl hne
    · exact h1 y hy
  · rcases List.mem_cons.1 hy with rfl | hy
    · exact (h1 x (by assumption)).symm
    · exact ih h2 (by assumption) (by assumption)
/-- What was owned is only read from now on. -/
theorem SW.asRead (h : SW b w0 (o :: t) w) (hh : o'.holds w) (ho : ∀ i, ¬ o'.own i) (hr : ∀ i, o'.rd i → o.own i) : SW b w0 (o' :: t) w := by
 have ha := List.pairwise_cons.1 h.1.apart
 refine ⟨⟨h.1.base, fun y hy => ?_, fun y hy i hi => ?_, fun y hy i hi => ?_, List.pairwise_cons.2 ⟨fun y hy => ⟨fun i hi => absurd hi (ho i), fun i hi hr' => ?_⟩, ha.2⟩⟩, h.2⟩
 · rcases List.mem_cons.1 hy with rfl | hy
   · exact hh
   · exact h.1.holds y (List.mem_cons_of_mem _ hy)
 · rcases List.mem_cons.1 hy with rfl | hy
   · exact absurd hi (ho i)
   · exact h.1.own y (List.mem_cons_of_mem _ hy) i hi
 · rcases List.mem_cons.1 hy with rfl | hy
   · exact (h.1.own _ (List.mem_cons_self ..) i (hr i hi)).2
   · exact h.1.rd y (List.mem_cons_of_mem _ hy) i hi
 · exact ((ha.1 y hy).1 i (hr i hr')).1 hi
/-- One more reader of what is read already, or of nothing that is written. -/
theorem SW.also (h : SW b w0 l w) (hh : o'.holds w) (ho : ∀ i, ¬ o'.own i) (hlt : ∀ i, o'.rd i → i < w.heap.size) (hr : ∀ i, o'.rd i → ∀ y ∈ l, ¬ y.own i) : SW b w0 (o' :: l) w := by
 refine ⟨⟨h.1.base, fun y hy => ?_, fun y hy i hi => ?_, fun y hy i hi => ?_, List.pairwise_cons.2 ⟨fun y hy => ⟨fun i hi => absurd hi (ho i), fun i hi hr' => hr i hr' y hy hi⟩, h.1.apart⟩⟩, h.2⟩
 · rcases List.mem_cons.1 hy with rfl | hy
   · exact hh
   · exact h.1.holds y hy
 · rcases List.mem_cons.1 hy with rfl | hy
   · exact absurd hi (ho i)
   · exact h.1.own y hy i hi
 · rcases List.mem_cons.1 hy with rfl | hy
   · exact hlt i hi
   · exact h.1.rd y hy i hi
/-- Nobody owns what a pure reader reads. -/
theorem SW.noOwn (h : SW b w0 l w) (ho : o ∈ l) (hn : ∀ i, ¬ o.own i) {i : Nat} (hi : o.rd i) : ∀ y ∈ l, ¬ y.own i := fun y hy hw => by
 by_cases e : y = o
 · subst e
   exact hn i hw
 · exact ((pair_all h.1.apart hy ho e).1 i hw).2 hi
theorem few_rest (idx : List Nat) (n : Nat) (hd : idx.Nodup) (hl : ∀ i ∈ idx, i < n) : ∃ rest : List Nat, (idx ++ rest).Perm (List.range n) := by
 refine ⟨(List.range n).filter (fun i => !idx.contains i), ?_⟩
 refine (List.perm_ext_iff_of_nodup ?_ List.nodup_range).2 (fun i => ?_)
 · refine List.nodup_append.2 ⟨hd, List.nodup_range.filter _, fun a ha c hc e => ?_⟩
   subst e
   have := (List.mem_filter.1 hc).2
   simp [ha] at this
 · simp only [List.mem_append, List.mem_filter, List.mem_range]
   constructor
   · rintro (h1 | h1)
     · exact hl i h1
     · exact h1.1
   · intro h1
     by_cases e : i ∈ idx
     · exact .inl e
     · exact .inr ⟨h1, by simp [e]⟩
/-- Of the first things only these are wanted, in this order. -/
theorem SW.few {pre t : List Ob} (h : SW b w0 (pre ++ t) w) (idx : List Nat) {n : Nat} (hn : pre.length = n) (hd : idx.Nodup) (hl : ∀ i ∈ idx, i < n) : SW b w0 (idx.filterMap (fun i => pre[i]?) ++ t) w := by
 obtain ⟨rest, hp⟩ := few_rest idx n hd hl
 have h1 := h.front (idx ++ rest) hn hp
 rw [List.filterMap_append, List.append_assoc] at h1
 refine h1.sub ?_
 exact (List.Sublist.refl _).append (List.sublist_append_right _ _)
end
section
variable {b : Nat} {w0 w w' : World} {l t : List Ob}
theorem SW.rowRi {A : Option Addr} {cap : Nat} {F : List ID} (h : SW b w0 (rowOb 31 2 (.slice A F.length cap) F.length (F.flatMap encID) :: t) w) : SW b w0 (riOb A F :: t) w := by
 have hh : w.ownsRow 0 31 2 (.slice A F.length cap) F.length (F.flatMap encID) := h.get 0 (o := rowOb 31 2 (.slice A F.length cap) F.length (F.flatMap encID)) rfl
 refine h.asRead (o' := riOb A F) ?_ (fun i hi => hi) (fun i hi => ?_)
 · by_cases hF : F.length = 0
   · have hF' : F = [] := List.eq_nil_of_length_eq_zero hF
     subst hF'
     refine ⟨fun _ => rfl, fun ad e => ?_⟩
     rcases hh.2 with ⟨hv, _⟩ | ⟨g, cap', cur, hv, _⟩
     · injection hv with hv
       rw [e] at hv
       cases hv
     · subst e
       injection hv with h1
       injection h1 with h1
       subst h1
       obtain ⟨_, h2, h3, _⟩ := own_rowI hh
       exact ⟨g, rfl, h2, h3⟩
   · obtain ⟨g, c', e⟩ := own_some hh hF
     injection e with e1 e2 e3
     subst e1
     obtain ⟨_, h2, h3, _⟩ := own_rowI hh
     exact ⟨(fun e => by cases e), fun ad e => by injection e with e; exact ⟨g, e.symm, h2, h3⟩⟩
 · have hi : A = some ⟨i, 0, none⟩ := hi
   show (Value.slice A F.length cap).ownBlock = some i
   rw [hi]
   rfl
end
end Go.Proofs.YteabgcollokgjaaGreatDoor
namespace Go.Proofs.YteabgcollokgjaaGreatDoor
open Go.RowKit Go.MapKept Go.ChangeMaps Go.Shelf Go.Sort

/-- Equal neighbours once. -/
def dd (l : List ID) : List ID := l.foldl (fun a x => if a.getLast? = some x then a else a ++ [x]) []
theorem dd_snoc (l : List ID) (x : ID) : dd (l ++ [x]) = if (dd l).getLast? = some x then dd l else dd l ++ [x] := by
 unfold dd
 rw [List.foldl_append]
 rfl
theorem snocRec {p : List ID → Prop} (h0 : p []) (h1 : ∀ l x, p l → p (l ++ [x])) (l : List ID) : p l := by
 have h : ∀ l : List ID, p l.reverse := fun l => by
  induction l with
  | nil => exact h0
  | cons x l ih =>
   rw [List.reverse_cons]
   exact h1 _ _ ih
 have := h l.reverse
 rwa [List.reverse_reverse] at this
theorem dd_last (l : List ID) : (dd l).getLast? = l.getLast? := by
 refine snocRec (p := fun l => (dd l).getLast? = l.getLast?) rfl (fun l x ih => ?_) l
 show (dd (l ++ [x])).getLast? = _
 rw [dd_snoc]
 split
 · rename_i h
   rw [h]
   simp
 · simp
theorem dd_mem (l : List ID) (i : ID) : i ∈ dd l ↔ i ∈ l := by
 refine snocRec (p := fun l => i ∈ dd l ↔ i ∈ l) (by simp [dd]) (fun l x ih => ?_) l
 show i ∈ dd (l ++ [x]) ↔ _
 rw [dd_snoc]
 split
 · rename_i h
   have hx : x ∈ l := by
    rw [dd_last] at h
    exact List.mem_of_getLast? h
   rw [ih]
   simp only [List.mem_append, List.mem_singleton]
   exact ⟨.inl, fun h => h.elim id (fun e => e ▸ hx)⟩
 · rw [List.mem_append, ih, List.mem_append]
theorem dd_snoc_same {l : List ID} {x : ID} (h : l.getLast? = some x) : dd (l ++ [x]) = dd l := by rw [dd_snoc, dd_last, if_pos h]
theorem dd_snoc_other {l : List ID} {x : ID} (h : l.getLast? ≠ some x) : dd (l ++ [x]) = dd l ++ [x] := by rw [dd_snoc, dd_last, if_neg h]
/-- Of what is in order only ascending elements remain. -/
theorem dd_strict {l : List ID} : l.Pairwise (fun a b => ltOf cmpID b a = false) → (dd l).Pairwise (fun a b => ltID a b = true) := by
 refine snocRec (p := fun l => l.Pairwise (fun a b => ltOf cmpID b a = false) → (dd l).Pairwise (fun a b => ltID a b = true)) (fun _ => List.Pairwise.nil) (fun l x ih h => ?_) l
 · obtain ⟨h1, _, h3⟩ := List.pairwise_append.1 h
   show (dd (l ++ [x])).Pairwise _
   rw [dd_snoc]
   split
   · exact ih h1
   · rename_i hne
     refine List.pairwise_append.2 ⟨ih h1, List.pairwise_singleton _ _, fun a ha b hb => ?_⟩
     rw [List.mem_singleton.1 hb]
     have ha' := (dd_mem l a).1 ha
     have hle := h3 a ha' x (by simp)
     rw [lt_cmpID] at hle
     refine ltID_tri hle (fun e => ?_)
     -- x = a: then a is the last one
     subst e
     obtain ⟨b, hb⟩ : ∃ b, l.getLast? = some b := by
      cases hl : l.getLast? with
      | none => rw [List.getLast?_eq_none_iff] at hl; subst hl; cases ha'
      | some b => exact ⟨b, rfl⟩
     have hb2 := h3 b (List.mem_of_getLast? hb) x (by simp)
     rw [lt_cmpID] at hb2
     -- b is not above x, and x, which is in the list, is not above b
     have : ltID b x = false := by
      obtain ⟨l', rfl⟩ : ∃ l', l = l' ++ [b] := by
       rw [List.getLast?_eq_some_iff] at hb
       exact hb
      rcases List.mem_append.1 ha' with hm | hm
      · have := (List.pairwise_append.1 h1).2.2 x hm b (by simp)
        rwa [lt_cmpID] at this
      · rw [List.mem_singleton.1 hm]
        exact ltID_irrefl b
     rw [dd_last, hb] at hne
     refine hne ?_
     by_cases e : b = x
     · rw [e]
     · have := ltID_tri this e
       rw [this] at hb2
       cases hb2
theorem clear2 (w : World) (b o n c : Nat) (ty : TypeId) (hn : 0 < n) (hc : ∀ j, j < n * 2 → (w.cell? ⟨b, o + j, none⟩).isSome = true) (hf : ∀ j, j < n * 2 → w.frozen? ⟨b, o + j, none⟩ = false) :
 ∃ L : List Value, (Builtin.clear_ #[38] ty #[.slice (some ⟨b, o, none⟩) n c]).run Tryz.prog w = .ok (.tuple #[]) (w.setCells b o L) := by
 refine ⟨(Builtin.zeroCells #[.int .u64 0, .int .i64 0] n).toList, ?_⟩
 have hlen : (Builtin.zeroCells #[.int .u64 0, .int .i64 0] n).toList.length = n * 2 := by simp [Builtin.zeroCells]
 have h1 : ∀ v ∈ (Builtin.zeroCells #[.int .u64 0, .int .i64 0] n).toList, v.oneCell' = true := by
  intro v hv
  simp [Builtin.zeroCells] at hv
  obtain ⟨i, hi, rfl⟩ := hv
  have : i % 2 = 0 ∨ i % 2 = 1 := by omega
  rcases this with h | h <;> simp [h, Value.oneCell']
 have hst := run_storeCells_cells (P := Tryz.prog) b o (Builtin.zeroCells #[.int .u64 0, .int .i64 0] n).toList 0 w (by rw [hlen]; simpa using hc) (by rw [hlen]; simpa using hf) h1
 simp only [Nat.add_zero] at hst
 obtain ⟨m, rfl⟩ : ∃ m, n = m + 1 := ⟨n - 1, by omega⟩
 simp [Builtin.clear_, run_underlying Tryz.underlying38, Result.andThen, Value.cells, hst]
theorem grown_setCells {a : World} {g : Nat} : ∀ (vs : List Value) (o : Nat) (w : World), a.grownBy w (some g) → a.grownBy (w.setCells g o vs) (some g)
 | [], _, _, h => h
 | v :: r, o, _, h => grown_setCells r (o + 1) _ (g_set (p := ⟨g, o, none⟩) h (.inl rfl) v)
theorem isB_setCells {g : Nat} {t : TypeId} : ∀ (vs : List Value) (o : Nat) (w : World) (cs : Array Value), IsB w g t cs → ∃ cs', IsB (w.setCells g o vs) g t cs' ∧ cs'.size = cs.size
 | [], _, _, cs, h => ⟨cs, h, rfl⟩
 | v :: r, o, _, cs, h => by
  obtain ⟨cs', h1, h2⟩ := isB_setCells r (o + 1) _ _ (h.set_ o v)
  exact ⟨cs', h1, h2.trans (by simp)⟩
/-- Behind the first k the row is cleared. -/
theorem RowI.cleared {w : World} {g : Nat} {X : List ID} (h : RowI w g X) {k : Nat} (hk : k ≤ X.length) (L : List Value) : RowI (w.setCells g (k * 2) L) g (X.take k) := by
 obtain ⟨cur, h1, h2, h3⟩ := h
 obtain ⟨cs', h4, h5⟩ := isB_setCells L (k * 2) w cur h1
 refine ⟨cs', h4, by rw [List.length_take, h5]; omega, fun j hj => ?_⟩
 rw [List.length_take] at hj
 have e1 : (X.take k).getD j id0 = X.getD j id0 := by rw [List.getD_eq_getElem?_getD, List.getElem?_take_of_lt (by omega), List.getD_eq_getElem?_getD]
 rw [e1]
 obtain ⟨c0, c1⟩ := h3 j (by omega)
 rw [← h4.cell, ← h4.cell, World.cell?_setCells_out g L (k * 2) w _ (fun _ _ => .inl (by simp only; omega)), World.cell?_setCells_out g L (k * 2) w _ (fun _ _ => .inl (by simp only; omega)), h1.cell, h1.cell]
 exact ⟨c0, c1⟩
theorem take_last {l : List ID} {k : Nat} (hk : k < l.length) : (l.take (k + 1)).getLast? = some (l.getD k id0) := by
 rw [take_snoc _ id0 _ hk]
 simp
set_option maxRecDepth 100000 in
set_option maxHeartbeats 8000000 in
theorem compact_any (g c : Nat) (xs : List ID) (w : World) (h : RowI w g xs) (hn : xs.length ≤ 4294967296) (hg : g < w.heap.size) (hc : xs.length ≤ c) :
 Calls Tryz.prog 126 #[.slice (some ⟨g, 0, none⟩) xs.length c] w (fun e w' => e = .returned (.slice (some ⟨g, 0, none⟩) (dd xs).length c) ∧ RowI w' g (dd xs) ∧ w.grownBy w' (some g)) := by
 have H := Lib.hid h
 clear h
 by_cases h2 : xs.length < 2
 · have hd : dd xs = xs := by
    match xs, h2 with
    | [], _ => rfl
    | [a], _ => rfl
    | a :: b :: l, h2 => simp at h2; omega
   rw [hd]
   clear hd
   generalize hN : xs.length = N at *
   go_enter Tryz.func126, Tryz.ntmps126
   go_wp2_with fail
   go_ret
   exact ⟨rfl, H.out, g_refl _ _⟩
 · have h2n : decide ((xs.length : Int) < 2) = false := decide_eq_false (by omega)
   go_enter Tryz.func126, Tryz.ntmps126
   go_wp2_with fail
   go_loopw [3] (fun v wr => ∃ k : Nat, 1 ≤ k ∧ k ≤ xs.length ∧ v = .int .i64 (k : Int) ∧ Hid (dd (xs.take k) = xs.take k) ∧ RowI wr g xs ∧ w.grownBy wr (some g)) (fun v _ => xs.length - (intOf v).toNat)
   case atStart =>
    refine ⟨1, Nat.le_refl _, by omega, rfl, ?_, H.out, g_refl _ _⟩
    match xs, h2 with
    | [], h2 => simp at h2
    | a :: l, _ => rfl
   case round =>
    obtain ⟨k, hk1, hk, rfl, HD, hr, hgr⟩ := hrel
    have RR := Lib.hid hr
    have GG := Lib.hid hgr
    clear hr hgr
    by_cases hlt : k < xs.length
    · obtain ⟨m, rfl⟩ : ∃ m, k = m + 1 := ⟨k - 1, by omega⟩
      obtain ⟨x, HX⟩ : ∃ x, Hid (xs.getD (m + 1) id0 = x) := ⟨_, rfl⟩
      obtain ⟨y, HY⟩ : ∃ y, Hid (xs.getD m id0 = y) := ⟨_, rfl⟩
      obtain ⟨a0, a1, _, _⟩ := RR.out.cells hlt HX.out
      obtain ⟨b0, b1, _, _⟩ := RR.out.cells (j := m) (by omega) HY.out
      have HLA : Hid ((xs.take (m + 1)).getLast? = some y) := by rw [Hid, take_last (by omega), HY.out]
      have HTS : Hid (xs.take (m + 1 + 1) = xs.take (m + 1) ++ [x]) := by rw [Hid, take_snoc _ id0 _ hlt, HX.out]
      by_cases he : x = y
      · subst he
        have HS : Hid (dd (xs.take (m + 1 + 1)) = xs.take (m + 1)) := by
         rw [Hid, HTS.out, dd_snoc_same HLA.out, HD.out]
        have hm0 : (m : Int) + 1 < (xs.length : Int) := by omega
        have hck : ¬ c = m + 1 := by omega
        go_wp2_with fail
        go_quiet (fail)
        have RR2 : Hid (RowI (wr.drewN nq) g xs) := RR.out.on (bdrewN (Below.refl _ _) _)
        have GG2 : Hid (w.grownBy (wr.drewN nq) (some g)) := g_drewN GG.out _
        clear a0 a1 b0 b1 RR GG
        generalize wr.drewN nq = wz at RR2 GG2 ⊢
        go_wp2_with fail
        rename World => wa
        go_loopw [3, 5] (fun v3 v5 wr => ∃ (p q : Nat) (X : List ID), m + 1 + (p + 1) ≤ xs.length ∧ v5 = .int .i64 ((p : Int) + 1) ∧ v3 = .int .i64 (q : Int) ∧ q ≤ m + 1 + p ∧ X.length = xs.length ∧ Hid (X.take q = dd (xs.take (m + 1 + (p + 1))) ∧ (dd (xs.take (m + 1 + (p + 1)))).length = q) ∧ Hid (∀ j, m + 1 + p ≤ j → j < xs.length → X.getD j id0 = xs.getD j id0) ∧ RowI wr g X ∧ w.grownBy wr (some g)) (fun _ v _ => xs.length - (intOf v).toNat)
        case atStart => exact ⟨0, m + 1, xs, by omega, rfl, by go_num, by omega, rfl, ⟨HS.out.symm, by rw [HS.out, List.length_take]; omega⟩, fun _ _ _ => rfl, RR2.out, GG2.out⟩
        case round =>
         obtain ⟨p, q, X, hp, rfl, rfl, hq, hX, HT, HO, hr, hgr⟩ := hrel
         have R3 := Lib.hid hr
         have G3 := Lib.hid hgr
         have HXL := Lib.hid hX
         clear hr hgr RR2 GG2
         by_cases hlt2 : m + 1 + (p + 1) < xs.length
         · obtain ⟨y2, HY2⟩ : ∃ y2, Hid (xs.getD (m + 1 + (p + 1)) id0 = y2) := ⟨_, rfl⟩
           obtain ⟨z2, HZ2⟩ : ∃ z2, Hid (xs.getD (m + 1 + p) id0 = z2) := ⟨_, rfl⟩
           obtain ⟨a0, a1, _, _⟩ := R3.out.cells (j := m + 1 + (p + 1)) (by omega) ((HO.out _ (by omega) hlt2).trans HY2.out)
           obtain ⟨b0, b1, _, _⟩ := R3.out.cells (j := m + 1 + p) (by omega) ((HO.out _ (by omega) (by omega)).trans HZ2.out)
           have HLA2 : Hid ((xs.take (m + 1 + (p + 1))).getLast? = some z2) := by
            rw [Hid, show m + 1 + (p + 1) = m + 1 + p + 1 by omega, take_last (by omega), HZ2.out]
           have HTS2 : Hid (xs.take (m + 1 + (p + 1 + 1)) = xs.take (m + 1 + (p + 1)) ++ [y2]) := by
            rw [Hid, show m + 1 + (p + 1 + 1) = m + 1 + (p + 1) + 1 by omega, take_snoc _ id0 _ hlt2, HY2.out]
           rw [show (m + 1 + (p + 1)) * 2 = (m + 1) * 2 + (p + 1) * 2 by omega] at a0 a1
           rw [show (m + 1 + p) * 2 = (m + 1) * 2 + p * 2 by omega] at b0 b1
           have hi1 : (p : Int) + 1 < ((xs.length - (m + 1) : Nat) : Int) := by omega
           have hi2 : (p : Int) < ((xs.length - (m + 1) : Nat) : Int) := by omega
           clear hX
           by_cases he : y2 = z2
           · subst he
             have HT2 : Hid (X.take q = dd (xs.take (m + 1 + (p + 1 + 1))) ∧ (dd (xs.take (m + 1 + (p + 1 + 1)))).length = q) := by
              rw [Hid, HTS2.out, dd_snoc_same HLA2.out]
              exact HT.out
             go_wp2_with fail
             go_quiet (fail)
             go_wp2_with fail
             go_roundw
             case rel => exact ⟨p + 1, q, X, by omega, by go_num, rfl, by omega, HXL.out, HT2, fun j h1 h2 => HO.out j (by omega) h2, R3.out.on (bdrewN (Below.refl _ _) _), g_drewN G3.out _⟩
             case measure => simp [intOf]; omega
           · have HT2 : Hid ((X.set q y2).take (q + 1) = dd (xs.take (m + 1 + (p + 1 + 1))) ∧ (dd (xs.take (m + 1 + (p + 1 + 1)))).length = q + 1) := by
              rw [Hid, HTS2.out, dd_snoc_other (by rw [HLA2.out]; intro e; injection e with e; exact he e.symm)]
              refine ⟨?_, by rw [List.length_append, HT.out.2]; rfl⟩
              rw [take_snoc _ id0 _ (by rw [List.length_set, HXL.out]; omega), List.take_set_of_le (Nat.le_refl _), HT.out.1, List.getD_eq_getElem?_getD, List.getElem?_set_self (by rw [HXL.out]; omega)]
              rfl
             have hcase : (y2.1 == z2.1) = false ∨ ((y2.1 == z2.1) = true ∧ (y2.2 == z2.2) = false) := by
              by_cases e0 : y2.1 = z2.1
              · refine .inr ⟨beq_iff_eq.2 e0, beq_eq_false_iff_ne.2 (fun e1 => he (Prod.ext e0 e1))⟩
              · exact .inl (beq_eq_false_iff_ne.2 e0)
             clear he
             rcases hcase with hne | ⟨hne1, hne⟩
             all_goals (
              go_wp2_with fail
              go_quiet (fail)
              have R4 : Hid (RowI (wr.drewN nq) g X) := R3.out.on (bdrewN (Below.refl _ _) _)
              have G4 : Hid (w.grownBy (wr.drewN nq) (some g)) := g_drewN G3.out _
              clear a0 a1 b0 b1 R3 G3
              generalize wr.drewN nq = wy at R4 G4 ⊢
              obtain ⟨a0, a1, _, _⟩ := R4.out.cells (j := m + 1 + (p + 1)) (by rw [HXL.out]; omega) ((HO.out _ (by omega) hlt2).trans HY2.out)
              obtain ⟨d0, d1, f0, f1⟩ := R4.out.cells (j := q) (by rw [HXL.out]; omega) rfl
              rw [show (m + 1 + (p + 1)) * 2 = (m + 1) * 2 + (p + 1) * 2 by omega] at a0 a1
              have hi3 : (q : Int) < (xs.length : Int) := by omega
              go_wp2_with fail
              go_roundw
              case rel =>
               refine ⟨p + 1, q + 1, X.set q y2, by omega, by go_num, by go_num, by omega, by rw [List.length_set]; exact HXL.out, HT2, fun j h1 h2 => ?_, R4.out.put q (by rw [HXL.out]; omega) y2, ?_⟩
               · have := HO.out j (by omega) h2
                 rw [List.getD_eq_getElem?_getD, List.getElem?_set_ne (by omega), ← List.getD_eq_getElem?_getD]
                 exact this
               · have hgg := g_set (p := ⟨g, q * 2 + 1, none⟩) (g_set (p := ⟨g, q * 2, none⟩) G4.out (.inl rfl) (.int .u64 y2.1)) (.inl rfl) (.int .i64 y2.2)
                 exact ⟨hgg.os, hgg.tape, hgg.output, hgg.size, hgg.block⟩
              case measure => simp [intOf]; omega)
         · obtain hpe : m + 1 + (p + 1) = xs.length := by omega
           have hT := HT.out
           rw [hpe, List.take_length] at hT
           have HT3 := Lib.hid hT
           have hi2 : ¬ ((p : Int) + 1 < ((xs.length - (m + 1) : Nat) : Int)) := by omega
           clear hT hX
           have hcq : ¬ c = q := by omega
           obtain ⟨L, hL⟩ := clear2 wr g (q * 2) (xs.length - q) (c - q) 0 (by omega) (fun j hj => by
            obtain ⟨c0, c1, _, _⟩ := R3.out.cells (j := q + j / 2) (by rw [HXL.out]; omega) rfl
            have : j % 2 = 0 ∨ j % 2 = 1 := by omega
            rcases this with e | e
            · rw [show q * 2 + j = (q + j / 2) * 2 by omega, c0]; rfl
            · rw [show q * 2 + j = (q + j / 2) * 2 + 1 by omega, c1]; rfl) (fun j hj => by
            obtain ⟨_, _, c0, c1⟩ := R3.out.cells (j := q + j / 2) (by rw [HXL.out]; omega) rfl
            have : j % 2 = 0 ∨ j % 2 = 1 := by omega
            rcases this with e | e
            · rw [show q * 2 + j = (q + j / 2) * 2 by omega, c0]
            · rw [show q * 2 + j = (q + j / 2) * 2 + 1 by omega, c1])
           have hcl2 : ∀ ty, (Builtin.clear_ #[38] ty #[.slice (some ⟨g, q * 2, none⟩) (xs.length - q) (c - q)]).run Tryz.prog wr = .ok (.tuple #[]) (wr.setCells g (q * 2) L) := fun _ => hL
           have RC : Hid (RowI (wr.setCells g (q * 2) L) g (dd xs)) := by
            have := R3.out.cleared (k := q) (by rw [HXL.out]; omega) L
            rwa [HT3.out.1] at this
           have GC : Hid (w.grownBy (wr.setCells g (q * 2) L) (some g)) := grown_setCells _ _ _ G3.out
           have hql : q ≤ xs.length := by omega
           have hqc : q ≤ c := by omega
           clear hL
           go_wp2_with fail
           go_ret
           exact ⟨by rw [HT3.out.2]; rfl, RC.out, GC.out⟩
      · have HN : Hid (dd (xs.take (m + 1 + 1)) = xs.take (m + 1 + 1)) := by
         rw [Hid, HTS.out, dd_snoc_other (by rw [HLA.out]; intro e; injection e with e; exact he e.symm), HD.out]
        have hcase : (x.1 == y.1) = false ∨ ((x.1 == y.1) = true ∧ (x.2 == y.2) = false) := by
         by_cases e0 : x.1 = y.1
         · refine .inr ⟨beq_iff_eq.2 e0, beq_eq_false_iff_ne.2 (fun e1 => he (Prod.ext e0 e1))⟩
         · exact .inl (beq_eq_false_iff_ne.2 e0)
        clear he
        have hm0 : (m : Int) + 1 < (xs.length : Int) := by omega
        rcases hcase with hne | ⟨hne1, hne⟩
        all_goals (
         go_wp2_with fail
         go_quiet (fail)
         go_wp2_with fail
         go_roundw
         case rel => exact ⟨m + 1 + 1, by omega, by omega, by go_num, HN, RR.out.on (bdrewN (Below.refl _ _) _), g_drewN GG.out _⟩
         case measure => simp [intOf]; omega)
    · obtain rfl : k = xs.length := by omega
      have hd := HD.out
      rw [List.take_length] at hd
      have HD2 := Lib.hid hd
      clear hd
      go_wp2_with fail
      go_ret
      exact ⟨by rw [HD2.out]; rfl, by rw [HD2.out]; exact RR.out, GG.out⟩
end Go.Proofs.YteabgcollokgjaaGreatDoor
namespace Go.Proofs.YteabgcollokgjaaGreatDoor
open Go.RowKit Go.MapKept Go.ChangeMaps

/-- A buffer of its own. -/
def bufOb (d : BD) (bs : List UInt8) : Ob where
 own := fun i => blk d = some i
 rd := fun _ => False
 holds := fun w => RB w d bs
 stable := fun w w' h hs hk => by
  have hc : Ch w w' (fun i => ¬ blk d = some i) [] := ⟨hs.1, hs.2.1, hs.2.2.1, hs.2.2.2, fun i _ hn _ => hk i (.inl (Classical.not_not.1 hn)), by simp⟩
  exact h.ch hc (fun g hg hn => hn hg) (by simp)
/-- Bytes that are only read. -/
def rsOb (A : Option Addr) (bs : List UInt8) : Ob where
 own := fun _ => False
 rd := fun i => 0 < bs.length ∧ ∃ o, A = some ⟨i, o, none⟩
 holds := fun w => RS w A bs
 stable := fun w w' h hs hk => by
  refine ⟨h.1, fun ad e => ?_⟩
  obtain ⟨g, o, rfl, hc⟩ := h.2 ad e
  refine ⟨g, o, rfl, fun j hj => ?_⟩
  have h2 := hk g (.inr ⟨by omega, o, e⟩)
  rw [← hc j hj]
  simp [World.cell?, h2]
theorem AppB.fr {w w' : World} {d d' : BD} {bs bs' : List UInt8} (h : AppB w d bs' d' w') (hr : RB w d bs) : Fr w w' (bufOb d bs).own (bufOb d' bs').own := by
 obtain ⟨_, ⟨e1, _, _, hc⟩ | ⟨H, e1, e2, hb⟩⟩ := h
 · refine ⟨hc.os, hc.tape, hc.output, hc.size, fun i hi hn => hc.block i hi (fun h => h) (fun p hp he => hn ?_), fun i hi => .inl ?_⟩
   · obtain ⟨A, n, c⟩ := d
     cases A with
     | none => simp [room] at hp
     | some ad =>
      obtain ⟨g, cur, rfl, _⟩ := hr.2.2.2 ad rfl
      simp [room] at hp
      obtain ⟨_, rfl⟩ := hp
      show blk _ = some i
      rw [← he]
      rfl
   · show blk d = some i
     rw [← e1]
     exact hi
 · exact Fr.new hb (fun i hi => .inr (by
    have h1 : blk d' = some i := hi
    rw [e1] at h1
    injection h1 with h1
    omega))
/-- Bytes are appended to a buffer. -/
theorem Sep.app {b : Nat} {w w' : World} {l : List Ob} (h : Sep b w l) (k : Nat) {d d' : BD} {bs bs' : List UInt8} (hk : l[k]? = some (bufOb d bs)) (ha : AppB w d bs' d' w') : Sep b w' (l.set k (bufOb d' bs')) ∧ Below b w w' := by
 have hr : RB w d bs := h.get hk
 refine h.stepAt k hk (ha.fr hr) (fun i hi => hi.elim) ha.1 (fun i hi => ?_)
 rcases hi with hi | hi
 · exact ha.1.lt hi
 · exact hi.elim
/-- A place is noted. -/
theorem Sep.note {b : Nat} {w w' : World} {l : List Ob} (h : Sep b w l) (k : Nat) {cm : Nat} {C : Chs} (hk : l[k]? = some (chOb cm C)) {i : ID} {o : Nat} (hm : MapIs okID vID vPl w' cm (setL C i (.at o))) (hg : w.grownBy w' (some cm)) : Sep b w' (l.set k (chOb cm (setL C i (.at o)))) ∧ Below b w w' := by
 have hh := h.get hk
 have hmem : ∀ c ∈ setL C i (.at o), c = (i, .at o) ∨ c ∈ C := (setL_pairwise (R := fun _ _ => True) hh.1.nodup (List.pairwise_of_forall (by simp)) i (Pl.at o) (by simp) (by simp)).2
 have hpend : ∀ id d' bs', (id, Pl.pend d' bs') ∈ setL C i (.at o) → (id, Pl.pend d' bs') ∈ C := by
  intro id d' bs' hc
  rcases hmem _ hc with e | e
  · injection e with e1 e2
    cases e2
  · exact e
 refine h.stepAt k hk (Fr.grown hg rfl (fun _ hi => .inl hi)) (fun j hj => ?_) ⟨hm, fun id d' bs' hc => ?_⟩ (fun j hj => ?_)
 · obtain ⟨id, d', bs', hc, hbk⟩ := hj
   exact .inr (.inl ⟨id, d', bs', hpend _ _ _ hc, hbk⟩)
 · have := hh.2 id d' bs' (hpend _ _ _ hc)
   exact ⟨this.1.gone hh.1 hg, this.2⟩
 · rcases hj with hj | ⟨id, d', bs', hc, hbk⟩
   · have e : j = cm := hj
     rw [e]
     exact hm.lt
   · exact Nat.lt_of_lt_of_le ((hh.2 id d' bs' (hpend _ _ _ hc)).1.lt hbk) hg.size
end Go.Proofs.YteabgcollokgjaaGreatDoor
namespace Go.Proofs.YteabgcollokgjaaGreatDoor
open Go.RowKit

set_option maxRecDepth 100000 in
set_option maxHeartbeats 1000000 in
theorem rplus_any (a b : Nat) (w : World) (ha : a ≤ 2305843009213693951) (hb : b ≤ 2305843009213693951) : Calls Tryz.prog 186 #[.int .u64 (a : Int), .int .u64 (b : Int)] w fun e w' => e = .returned (.int .u64 (((a + b) % pP : Nat) : Int)) ∧ w = w' := by
 by_cases h : a + b < 2305843009213693951
 · have e1 : Hid ((a + b) % pP = a + b) := Nat.mod_eq_of_lt h
   have h' : ¬ (2305843009213693951 ≤ (a : Int) + b) := by omega
   go_enter Tryz.func186, Tryz.ntmps186
   go_wp2
   go_ret
   exact rint_u (q := a + b) e1.out rfl
 · have h' : 2305843009213693951 ≤ (a : Int) + b := by omega
   by_cases h2 : a + b - 2305843009213693951 < 2305843009213693951
   · have e1 : Hid ((a + b) % pP = a + b - 2305843009213693951) := by
      rw [Hid, Nat.mod_eq_sub_mod (by unfold pP; omega)]
      exact Nat.mod_eq_of_lt (by unfold pP; omega)
     have h2' : ¬ (2305843009213693951 ≤ (a : Int) + b - 2305843009213693951) := by omega
     obtain ⟨r, hr⟩ : ∃ r, r = (a + b) % pP := ⟨_, rfl⟩
     rw [← hr]
     have E2 : Hid (((r : Nat) : Int) = (a : Int) + b - 2305843009213693951) := by rw [Hid, hr, e1.out]; omega
     clear hr e1
     go_enter Tryz.func186, Tryz.ntmps186
     go_wp2
     go_ret
     rw [E2.out]
     exact ⟨rfl, rfl⟩
   · obtain rfl : a = 2305843009213693951 := by omega
     obtain rfl : b = 2305843009213693951 := by omega
     obtain ⟨r, hr⟩ : ∃ r, r = (2305843009213693951 + 2305843009213693951) % pP := ⟨_, rfl⟩
     have hr0 : r = 0 := by
      rw [hr]
      unfold pP
      omega
     rw [← hr, hr0]
     clear hr hr0
     go_enter Tryz.func186, Tryz.ntmps186
     go_wp2
     go_ret
     exact ⟨rfl, rfl⟩
theorem rmul_lo (m : Nat) : bits .and .u64 ((m : Int) % 18446744073709551616) 2305843009213693951 = ((m % 18446744073709551616 % 2305843009213693952 : Nat) : Int) := by
 have e : (m : Int) % 18446744073709551616 = ((m % 18446744073709551616 : Nat) : Int) := by omega
 rw [e, mask61 _ (Nat.mod_lt _ (by omega))]
set_option maxRecDepth 100000 in
set_option maxHeartbeats 1000000 in
theorem rmul_any (a b : Nat) (w : World) (ha : a < 2305843009213693951) (hb : b < 2305843009213693951) : Calls Tryz.prog 187 #[.int .u64 (a : Int), .int .u64 (b : Int)] w fun e w' => e = .returned (.int .u64 (((a * b) % pP : Nat) : Int)) ∧ w = w' := by
 have HP := Lib.hid (prod_lt ha hb)
 go_enter Tryz.func187, Tryz.ntmps187
 go_wp2_with (first | (go_at_call 185; refine (Tryz.bits_Mul64 a b (by omega) (by omega) _).mono ?_; rintro e w' ⟨rfl, hw⟩; rw [hw]) | (go_at_call 186; refine halt_q ?_))
 have e1 := rmul_lo (a * b)
 have e2 := mul_hi (a * b) HP.out
 rw [Int.natCast_mul] at e1 e2
 rw [e2, e1]
 have hh := mul_high _ HP.out
 refine (rplus_any (a * b % 18446744073709551616 % 2305843009213693952) (a * b / 18446744073709551616 * 8 + a * b % 18446744073709551616 / 2305843009213693952) w (by omega) (by omega)).mono ?_
 rintro e w' ⟨rfl, rfl⟩
 rw [mul_words _ HP.out]
 clear e1 e2 hh
 go_wp2_with fail
 go_ret
 exact ⟨rfl, rfl⟩
set_option maxRecDepth 100000 in
set_option maxHeartbeats 2000000 in
theorem rSum_any (A : Option Addr) (c : Nat) (bs : List UInt8) (w : World) (h : RS w A bs) (hn : bs.length ≤ 1099511627776) : Calls Tryz.prog 148 #[.slice A bs.length c] w fun e w' => e = .returned (.int .u64 ((fpSum bs : Nat) : Int)) ∧ Below w.heap.size w w' := by
 have H := Lib.hid h
 clear h
 go_enter Tryz.func148, Tryz.ntmps148
 go_wp2_with fail
 go_loopw [3, 4] (fun v i wr => ∃ (k : Nat), k ≤ bs.length ∧ i = .int .i64 k ∧ v = .int .u64 ((fpSum (bs.take k) : Nat) : Int) ∧ Below w.heap.size w wr) (fun _ i _ => bs.length - (intOf i).toNat)
 case atStart => exact ⟨0, Nat.zero_le _, rfl, by rw [List.take_zero, fpSum_nil]; rfl, Below.refl _ _⟩
 case round =>
  obtain ⟨k, hk, rfl, rfl, hbl⟩ := hrel
  have HB := Lib.hid hbl
  have HR := Lib.hid (H.out.on hbl)
  clear hbl
  by_cases hlt : k < bs.length
  · cases A with
    | none => exact absurd (H.out.1 rfl) (by omega)
    | some ad =>
     obtain ⟨g, o, rfl, hc⟩ := HR.out.2 ad rfl
     have hcl : wr.cell? ⟨g, o + k, none⟩ = some (.int .u8 (((bs.getD k 0).toNat : Nat) : Int)) := hc k hlt
     have HT : Hid ((fpSum (bs.take k) * 747382712868975713 % pP + ((bs.getD k 0).toNat + 1)) % pP = fpSum (bs.take (k + 1))) := by rw [Hid, take_snocU bs k hlt, ← fp_byte]
     have hf := fpSum_lt (bs.take k)
     have HF : Hid (fpSum (bs.take k) < pP) := hf
     clear hc hf
     generalize hx : bs.getD k 0 = x at *
     have hx2 := x.toNat_lt
     have HX := Lib.hid hx
     clear hx
     generalize fpSum (bs.take k) = sm at *
     generalize hs' : fpSum (bs.take (k + 1)) = sm' at *
     have HS := Lib.hid hs'
     clear hs'
     have hm := fun w => rmul_any sm 747382712868975713 w HF.out (by omega)
     have hmt : sm * 747382712868975713 % pP < pP := Nat.mod_lt _ pP_pos
     generalize sm * 747382712868975713 % pP = t at *
     have ha := fun w => rplus_any t (x.toNat + 1) w (by unfold pP at hmt; omega) (by omega)
     rw [HT.out] at ha
     simp only [Int.natCast_add, Int.natCast_one] at ha
     have HM : Hid (∀ w, Calls Tryz.prog 187 #[.int .u64 ((sm : Nat) : Int), .int .u64 747382712868975713] w fun e w' => e = .returned (.int .u64 ((t : Nat) : Int)) ∧ w' = w) := fun w => (hm w).mono fun _ _ h => ⟨h.1, h.2.symm⟩
     have HA : Hid (∀ w, Calls Tryz.prog 186 #[.int .u64 ((t : Nat) : Int), .int .u64 (((x.toNat : Nat) : Int) + 1)] w fun e w' => e = .returned (.int .u64 ((sm' : Nat) : Int)) ∧ w' = w) := fun w => (ha w).mono fun _ _ h => ⟨h.1, h.2.symm⟩
     clear hm ha hmt
     go_wp2_with fail
     go_quiet ((first | (go_at_call 187; exact Calls.quiet_of_same (HM.out _)) | (go_at_call 186; exact Calls.quiet_of_same (HA.out _))))
     go_wp2_with fail
     go_roundw
     case rel => exact ⟨k + 1, by omega, by go_num, by rw [HS.out], bdrewN HB.out _⟩
     case measure => simp [intOf]; omega
  · obtain rfl : k = bs.length := by omega
    rw [List.take_length]
    go_wp2_with fail
    go_ret
    exact ⟨rfl, HB.out⟩
set_option maxRecDepth 100000 in
set_option maxHeartbeats 1000000 in
theorem rOf_any (A : Option Addr) (c : Nat) (bs : List UInt8) (w : World) (h : RS w A bs) (hn : bs.length ≤ 1099511627776) : Calls Tryz.prog 94 #[.slice A bs.length c] w fun e w' => e = .returned (.agg #[.int .u64 (fpOf bs).1, .int .i64 (fpOf bs).2]) ∧ Below w.heap.size w w' := by
 have H := Lib.hid (fun W (hW : RS W A bs) => rSum_any A c bs W hW hn)
 have H1 := Lib.hid (h.on ((Below.refl _ w).alloc (Nat.le_refl _) (.cells #[.int .u64 0, .int .i64 0] 31)))
 have B1 : Hid (IsB (w.alloc (.cells #[.int .u64 0, .int .i64 0] 31)) w.heap.size 31 #[.int .u64 0, .int .i64 0]) := IsB.new _ _ _
 clear h
 simp only [fpOf]
 generalize fpSum bs = sm at *
 go_enter Tryz.func94, Tryz.ntmps94
 go_wp2_with (go_at_call 148; refine (H.out _ H1.out).mono ?_; rintro e w' ⟨rfl, hb⟩; have HB := Lib.hid hb; have hc0 := (B1.out.on hb).cell 0; have hc1 := (B1.out.on hb).cell 1; have hf0 := (B1.out.on hb).frozen 0; have hf1 := (B1.out.on hb).frozen 1; clear hb)
 refine bodyPost_ret (v := .agg #[.int .u64 ((sm : Nat) : Int), .int .i64 ((bs.length : Nat) : Int)]) ?_ rfl ⟨rfl, ?_⟩
 · simp [results, Tryz.results94, go_sem, hc0, hc1]
 · exact ((((Below.refl _ w).alloc (Nat.le_refl _) _).trans (HB.out.mono (by simp))).setCell (p := ⟨w.heap.size, 0, none⟩) (Nat.le_refl _) _).setCell (p := ⟨w.heap.size, 1, none⟩) (Nat.le_refl _) _
end Go.Proofs.YteabgcollokgjaaGreatDoor
namespace Go.Proofs.YteabgcollokgjaaGreatDoor
open Go.RowKit Go.MapKept Go.ChangeMaps Go.Shelf Go.Sort
attribute [local go_sem] wext_cell

/-- A row that is read: its first values. -/
def RowV (w : World) (t : TypeId) (sz : Nat) (A : Option Addr) (n : Nat) (xs : List Value) : Prop :=
 xs.length = n * sz ∧ (n = 0 ∨ ∃ g cur, A = some ⟨g, 0, none⟩ ∧ IsB w g t cur ∧ cur.toList.take (n * sz) = xs)
section
variable {w w' : World} {t : TypeId} {sz : Nat} {A : Option Addr} {n : Nat} {xs : List Value}
theorem RowV.same (h : RowV w t sz A n xs) (hk : ∀ i, 0 < n → A = some ⟨i, 0, none⟩ → w'.heap[i]? = w.heap[i]?) : RowV w' t sz A n xs := by
 refine ⟨h.1, ?_⟩
 rcases h.2 with h2 | ⟨g, cur, e, hi, hx⟩
 · exact .inl h2
 · by_cases hn : n = 0
   · exact .inl hn
   · exact .inr ⟨g, cur, e, (hk g (by omega) e).trans hi, hx⟩
theorem RowV.lt (h : RowV w t sz A n xs) {i : Nat} (hn : 0 < n) (e : A = some ⟨i, 0, none⟩) : i < w.heap.size := by
 rcases h.2 with h2 | ⟨g, cur, e2, hi, _⟩
 · omega
 · rw [e] at e2
   injection e2 with e2
   injection e2 with e2
   rw [e2]
   exact hi.lt
theorem RowV.at (h : RowV w t sz A n xs) (hn : 0 < n) : ∃ g, A = some ⟨g, 0, none⟩ ∧ g < w.heap.size ∧ ∀ j, j < n * sz → w.cell? ⟨g, j, none⟩ = xs[j]? := by
 rcases h.2 with h2 | ⟨g, cur, e2, hi, hx⟩
 · omega
 · refine ⟨g, e2, hi.lt, fun j hj => ?_⟩
   rw [hi.cell, ← hx, List.getElem?_take_of_lt hj, Array.getElem?_toList]
theorem RowV.of_own {c : Nat} (h : w.ownsRow 0 t sz (.slice A n c) n xs) : RowV w t sz A n xs ∧ n ≤ c := by
 refine ⟨⟨h.1, ?_⟩, ?_⟩
 · rcases h.2 with ⟨hv, h2⟩ | ⟨g, cap, cur, hv, _, hh, hc1, hcs, hcs2, htk⟩
   · exact .inl h2
   · injection hv with e1 e2 e3
     exact .inr ⟨g, cur, e1, hh, htk⟩
 · rcases h.2 with ⟨hv, h2⟩ | ⟨g, cap, cur, hv, _, hh, hc1, hcs, hcs2, htk⟩
   · omega
   · injection hv with e1 e2 e3
     omega
end
theorem SW.start {w : World} {o : Ob} (h : o.holds w) (ho : ∀ i, ¬ o.own i) (hr : ∀ i, o.rd i → i < w.heap.size) : SW w.heap.size w [o] w :=
 (SW.refl (Sep.nil w (Nat.le_refl _))).also h ho hr (fun _ _ y hy => by cases hy)
/-- Things that are no longer written are read as one. -/
theorem SW.fuse {b : Nat} {w0 w : World} {pre t : List Ob} {o' : Ob} (h : SW b w0 (pre ++ t) w) (hh : o'.holds w) (ho : ∀ i, ¬ o'.own i) (hr : ∀ i, o'.rd i → ∃ o ∈ pre, o.own i ∨ o.rd i) : SW b w0 (o' :: t) w := by
 obtain ⟨_, hpt, hap⟩ := List.pairwise_append.1 h.1.apart
 refine ⟨⟨h.1.base, fun y hy => ?_, fun y hy i hi => ?_, fun y hy i hi => ?_, List.pairwise_cons.2 ⟨fun y hy => ⟨fun i hi => absurd hi (ho i), fun i hi hr' => ?_⟩, hpt⟩⟩, h.2⟩
 · rcases List.mem_cons.1 hy with rfl | hy
   · exact hh
   · exact h.1.holds y (List.mem_append_right _ hy)
 · rcases List.mem_cons.1 hy with rfl | hy
   · exact absurd hi (ho i)
   · exact h.1.own y (List.mem_append_right _ hy) i hi
 · rcases List.mem_cons.1 hy with rfl | hy
   · obtain ⟨o, hm, h1 | h1⟩ := hr i hi
     · exact (h.1.own o (List.mem_append_left _ hm) i h1).2
     · exact h.1.rd o (List.mem_append_left _ hm) i h1
   · exact h.1.rd y (List.mem_append_right _ hy) i hi
 · obtain ⟨o, hm, h1 | h1⟩ := hr i hr'
   · exact ((hap o hm y hy).1 i h1).1 hi
   · exact (hap o hm y hy).2 i hi h1
end Go.Proofs.YteabgcollokgjaaGreatDoor
