/- Contracts of the walk, part 20. -/
import Derived.Test.YtmiknfneeipkeaaGreatQ16
import Derived.Test.YtmiknfneeipkeaaGreatQ15
import Derived.Test.YtmiknfneeipkeaaGreatQ19
namespace Go.Proofs.YtmiknfneeipkeaaGreat
open Go.RowKit Go.MapKept Go.ChangeMaps Go.Shelf Go.Sort
attribute [local go_sem] wext_cell
theorem ltI_trans {a b c : ID} (h1 : ltID a b = true) (h2 : ltID b c = true) : ltID a c = true := by
  simp only [ltID, decide_eq_true_eq] at *
  omega
theorem ltI_irr (a : ID) : ltID a a = false := by simp [ltID]
theorem ltI_asym {a b : ID} (h1 : ltID a b = true) : ltID b a = false := by
  simp only [ltID, decide_eq_true_eq, decide_eq_false_iff_not] at *
  omega
theorem ltI_tri {a b : ID} (h1 : ltID a b = false) (h2 : a ≠ b) : ltID b a = true := by
  obtain ⟨a1, a2⟩ := a
  obtain ⟨b1, b2⟩ := b
  simp only [ltID, decide_eq_true_eq, decide_eq_false_iff_not] at *
  have : ¬ (a1 = b1 ∧ a2 = b2) := fun h => h2 (by rw [h.1, h.2])
  omega
/-- Lists that ascend strictly and have the same members are one. -/
theorem sorted_uniq : ∀ {a b : List ID}, a.Pairwise (fun x y => ltID x y = true) → b.Pairwise (fun x y => ltID x y = true) → (∀ i, i ∈ a ↔ i ∈ b) → a = b
  | [], [], _, _, _ => rfl
  | [], y :: b, _, _, h => absurd ((h y).2 (List.mem_cons_self ..)) (by simp)
  | x :: a, [], _, _, h => absurd ((h x).1 (List.mem_cons_self ..)) (by simp)
  | x :: a, y :: b, ha, hb, h => by
    obtain ⟨a1, a2⟩ := List.pairwise_cons.1 ha
    obtain ⟨b1, b2⟩ := List.pairwise_cons.1 hb
    have exy : x = y := by
      rcases List.mem_cons.1 ((h x).1 (List.mem_cons_self ..)) with e | hx
      · exact e
      · rcases List.mem_cons.1 ((h y).2 (List.mem_cons_self ..)) with e | hy
        · exact e.symm
        · have := ltI_asym (b1 x hx)
          rw [a1 y hy] at this
          cases this
    subst exy
    have : a = b := sorted_uniq a2 b2 (fun i => ⟨fun hi => by
      rcases List.mem_cons.1 ((h i).1 (List.mem_cons_of_mem _ hi)) with e | h1
      · have := a1 i hi
        rw [e, ltI_irr] at this
        cases this
      · exact h1, fun hi => by
      rcases List.mem_cons.1 ((h i).2 (List.mem_cons_of_mem _ hi)) with e | h1
      · have := b1 i hi
        rw [e, ltI_irr] at this
        cases this
      · exact h1⟩)
    rw [this]
/-- The IDs of a list in ascending order, each once. -/
def setR (l : List ID) : List ID := (allR [] l).map (·.1)
theorem setR_strict (l : List ID) : (setR l).Pairwise (fun a b => ltID a b = true) := List.pairwise_map.2 (allR_spec l List.Pairwise.nil).1
theorem setR_mem (l : List ID) (i : ID) : i ∈ setR l ↔ i ∈ l := by
  have h := (allR_spec l (t := []) List.Pairwise.nil).2 i
  have h2 := @asc_none_iff (allR [] l) i
  unfold setR
  constructor
  · intro hi
    by_cases hm : i ∈ l
    · exact hm
    · rw [if_neg hm] at h
      exact absurd hi (h2.1 (by rw [h]; rfl))
  · intro hm
    rw [if_pos hm] at h
    exact key_of_asc h
theorem setR_len (l : List ID) : (setR l).length ≤ l.length := by
  unfold setR
  have := allR_len [] l
  simpa using this
theorem dd_setR {l ys : List ID} (hp : ys.Perm l) (hs : ys.Pairwise (fun a b => ltOf cmpID b a = false)) : dd ys = setR l :=
  sorted_uniq (dd_strict hs) (setR_strict l) (fun i => by rw [dd_mem, setR_mem, hp.mem_iff])
theorem idsOf_snoc (ms : List Man) (m : Man) : idsOf (ms ++ [m]) = idsOf ms ++ m.ids := by simp [idsOf]
/-- IDs of its own. -/
def rwOb (A : Option Addr) (ys : List ID) : Ob where
  own := fun i => A = some ⟨i, 0, none⟩
  rd := fun _ => False
  holds := fun w => (A = none → ys = []) ∧ ∀ ad, A = some ad → ∃ g, ad = ⟨g, 0, none⟩ ∧ RowI w g ys ∧ g < w.heap.size
  stable := fun w w' h hs hk => by
    refine ⟨h.1, fun ad e => ?_⟩
    obtain ⟨g, rfl, ⟨cur, hi, hr⟩, hlt⟩ := h.2 ad e
    exact ⟨g, rfl, ⟨cur, (hk g (.inl e)).trans hi, hr⟩, Nat.lt_of_lt_of_le hlt hs.2.2.2⟩
theorem SW.rwRi {b : Nat} {w0 w : World} {l : List Ob} {A : Option Addr} {F : List ID} (h : SW b w0 (rwOb A F :: l) w) : SW b w0 (riOb A F :: l) w := h.asRead (o' := riOb A F) (h.get 0 (o := rwOb A F) rfl) (fun _ h => h) (fun _ h => h)
theorem SW.rowRw {b : Nat} {w0 w : World} {l : List Ob} {A : Option Addr} {cap : Nat} {F : List ID} (h : SW b w0 (rowOb 36 2 (.slice A F.length cap) F.length (F.flatMap encID) :: l) w) : SW b w0 (rwOb A F :: l) w := by
  have hh : w.ownsRow 0 36 2 (.slice A F.length cap) F.length (F.flatMap encID) := h.get 0 (o := rowOb 36 2 (.slice A F.length cap) F.length (F.flatMap encID)) rfl
  refine h.seen (o' := rwOb A F) ?_ (fun i hi => ?_) (fun _ h => h)
  · by_cases hF : F.length = 0
    · have hF' : F = [] := List.eq_nil_of_length_eq_zero hF
      subst hF'
      refine ⟨fun _ => rfl, fun ad e => ?_⟩
      rcases hh.2 with ⟨hv, _⟩ | ⟨g, cap', cur, hv, _⟩
      · injection hv with hv
        rw [e] at hv
        cases hv
      · subst e
        injection hv with h1
        injection h1 with h1
        subst h1
        obtain ⟨_, h2, h3, _⟩ := own_rowI hh
        exact ⟨g, rfl, h2, h3⟩
    · obtain ⟨g, c', e⟩ := own_some hh hF
      injection e with e1 e2 e3
      subst e1
      obtain ⟨_, h2, h3, _⟩ := own_rowI hh
      exact ⟨(fun e => by cases e), fun ad e => by injection e with e; exact ⟨g, e.symm, h2, h3⟩⟩
  · have hi : A = some ⟨i, 0, none⟩ := hi
    show (Value.slice A F.length cap).ownBlock = some i
    rw [hi]
    rfl
section
variable {b : Nat} {w0 w w' : World} {l : List Ob}
/-- The cells of an ID that is read. -/
theorem SW.rowCell {A : Option Addr} {ids : List ID} (h : SW b w0 l w) (hA : riOb A ids ∈ l) {k : Nat} (hk : k < ids.length) {i : ID} (hi : ids.getD k id0 = i) : ∃ g, A = some ⟨g, 0, none⟩ ∧ w.cell? ⟨g, k * 2, none⟩ = some (.int .u64 i.1) ∧ w.cell? ⟨g, k * 2 + 1, none⟩ = some (.int .i64 i.2) := by
  have hri := h.1.holds (riOb A ids) hA
  cases A with
  | none =>
    have h0 := hri.1 rfl
    rw [h0] at hk
    simp at hk
  | some ad =>
    obtain ⟨g, rfl, hr, _⟩ := hri.2 ad rfl
    obtain ⟨a0, a1, _, _⟩ := hr.cells hk hi
    exact ⟨g, rfl, a0, a1⟩
theorem append_zero_run (w : World) (t ty e : TypeId) (i : TypeInfo) (size : Nat) (ht : Tryz.prog.underlying t = some (.slice e)) (hi : Tryz.prog.info? e = some i)
    (v : Value) (n : Nat) (xs : List Value) (hown : w.ownsRow 0 e size v n xs) (A : Option Addr) (c : Nat) : (Builtin.append_ #[t, t] ty #[v, .slice A 0 c]).run Tryz.prog w = .ok v w := by
  rcases hown.2 with ⟨rfl, rfl⟩ | ⟨g, cap, cur, rfl, _, _, hnc, _⟩
  · cases A with
    | none => simp [Builtin.append_, run_underlying ht, sizeOf, typeInfo, hi, Builtin.lenOf, Builtin.firstCells]
    | some ad =>
      have h0 := run_loadCells_list (P := Tryz.prog) w ad [] (fun j v hj => by simp at hj)
      simp only [List.length_nil] at h0
      simp [Builtin.append_, run_underlying ht, sizeOf, typeInfo, hi, Builtin.lenOf, Builtin.firstCells, h0]
  · cases A with
    | none => simp [Builtin.append_, run_underlying ht, sizeOf, typeInfo, hi, Builtin.lenOf, Builtin.firstCells, hnc, storeCells]
    | some ad =>
      have h0 := run_loadCells_list (P := Tryz.prog) w ad [] (fun j v hj => by simp at hj)
      simp only [List.length_nil] at h0
      simp [Builtin.append_, run_underlying ht, sizeOf, typeInfo, hi, Builtin.lenOf, Builtin.firstCells, hnc, h0, storeCells]
/-- Elements are appended to a row. -/
theorem step_rowM {ops : Array Oper} {o : Oper} {a : Act} {K : Act → World → Prop} {Q : Exit → Act → World → Prop} {E : Prop} {t e : TypeId} {i : TypeInfo} {z : Value} {size bytes : Nat} (hS : SW b w0 l w) (k : Nat) {v : Value} {n : Nat} {xs : List Value} (hk : l[k]? = some (rowOb e size v n xs))
    (hgd : o.guard = none) (s x : Operand) (ho : o.op = .call { callee := .builtin .append, args := #[s, x], argTypes := #[t, t] })
    (ht : Tryz.prog.underlying t = some (.slice e)) (hi : Tryz.prog.info? e = some i) (hz : i.zero = some z) (hsize : i.size = size) (hby : i.bytes = bytes) (hzs : z.cells.size = size) (hsz : 0 < size)
    (hs : a.eval s = v) (A : Option Addr) (m c : Nat) (news : List Value) (hx : a.eval x = .slice A m c) (hl : news.length = m * size) (hA : 0 < m → ∃ ad, A = some ad ∧ ∀ j u, news[j]? = some u → w.cell? (ad.add j) = some u) (h1 : ∀ u ∈ news, u.oneCell' = true)
    (h63 : n + m ≤ maxLen) (hbytes : (n + m) * bytes ≤ 140737488355328)
    (h : ∀ v' w', SW b w0 (l.set k (rowOb e size v' (n + m) (xs ++ news))) w' → K (a.put o.dst v') w') :
    if Region.wanted o (yielded ops a.tmps) = true then Oper.wp Tryz.prog o a w K Q else E := by
  rcases Nat.eq_zero_or_pos m with rfl | hm
  · have hw : Region.wanted o (yielded ops a.tmps) = true := by simp [Region.wanted, hgd]
    rw [if_pos hw]
    have hn : news = [] := List.eq_nil_of_length_eq_zero (by simpa using hl)
    subst hn
    have hrun := append_zero_run w t o.type e i size ht hi v n xs (hS.get k hk) A c
    unfold Oper.wp execOp
    simp only [ho, resolve, invoke, builtin, Sem.run_bind, Sem.run_pure, Result.andThen_ok, List.map_toArray, List.map_cons, List.map_nil, hs, hx, hrun]
    refine h v w ?_
    have e : l.set k (rowOb e size v (n + 0) (xs ++ [])) = l := by
      rw [List.append_nil]
      exact set_self l k _ hk
    rw [e]
    exact hS
  · obtain ⟨ad, rfl, hnews⟩ := hA hm
    exact step_append_row hgd s x t ho e i z size bytes ht hi hz hsize hby hzs hsz v n xs hs (hS.get k hk) ad m c news hx hl hnews h1 hm h63 hbytes (fun v' w' h2 hg hv => h v' w' (hS.row k hk h2 hg hv))
theorem wpList_rowMO {ops : Array Oper} {o : Oper} {rest : List Oper} {a : Act} {Q : Exit → Act → World → Prop} {t e : TypeId} {i : TypeInfo} {z : Value} {size bytes : Nat} (hS : SW b w0 l w) (k : Nat) {v : Value} {n : Nat} {xs : List Value} (hk : l[k]? = some (rowOb e size v n xs))
    (hgd : o.guard = none) (s x : Operand) (ho : o.op = .call { callee := .builtin .append, args := #[s, x], argTypes := #[t, t] })
    (ht : Tryz.prog.underlying t = some (.slice e)) (hi : Tryz.prog.info? e = some i) (hz : i.zero = some z) (hsize : i.size = size) (hby : i.bytes = bytes) (hzs : z.cells.size = size) (hsz : 0 < size)
    (hs : a.eval s = v) (A : Option Addr) (m c : Nat) (news : List Value) (hx : a.eval x = .slice A m c) (hl : news.length = m * size) (hA : 0 < m → ∃ ad, A = some ad ∧ ∀ j u, news[j]? = some u → w.cell? (ad.add j) = some u) (h1 : ∀ u ∈ news, u.oneCell' = true)
    (h63 : n + m ≤ maxLen) (hbytes : (n + m) * bytes ≤ 140737488355328)
    (h : ∀ v' w', SW b w0 (l.set k (rowOb e size v' (n + m) (xs ++ news))) w' → wpList Tryz.prog ops Q rest (a.put o.dst v') w') :
    wpList Tryz.prog ops Q (o :: rest) a w := by
  have := step_rowM (ops := ops) (Q := Q) (E := False) (K := wpList Tryz.prog ops Q rest) hS k hk hgd s x ho ht hi hz hsize hby hzs hsz hs A m c news hx hl hA h1 h63 hbytes h
  have hw : Region.wanted o (yielded ops a.tmps) = true := by simp [Region.wanted, hgd]
  rw [if_pos hw] at this
  unfold wpList
  first
    | (rw [if_pos hw]; exact .inl this)
    | (simp only [hw, if_true]; exact .inl this)
    | (simp only [hw, if_true]; exact this)
end
section
variable {b : Nat} {w0 w w' : World} {l : List Ob}
/-- A row is put in order. -/
theorem SW.sortP {v : Value} {xs : List ID} (h : SW b w0 (rowOb 36 2 v xs.length (xs.flatMap encID) :: l) w) (hn : xs.length ≤ 4294967296) :
    Calls Tryz.prog 82 #[v, .func (.func 55) #[] #[]] w (fun e w' => e = .returned (.tuple #[]) ∧ ∃ ys : List ID, ys.Perm xs ∧ ys.Pairwise (fun a b => ltOf cmpID b a = false) ∧ SW b w0 (rowOb 36 2 v ys.length (ys.flatMap encID) :: l) w') := by
  have hh : w.ownsRow 0 36 2 v xs.length (xs.flatMap encID) := h.get 0 rfl
  by_cases h0 : v = .slice none 0 0
  · subst h0
    refine (sortP_none none 0 w).mono ?_
    rintro e w' ⟨rfl, rfl⟩
    have hx : xs = [] := by
      rcases hh.2 with ⟨_, h2⟩ | ⟨g, cap, cur, hv, _⟩
      · exact List.eq_nil_of_length_eq_zero h2
      · cases hv
    subst hx
    exact ⟨rfl, [], List.Perm.refl _, List.Pairwise.nil, h⟩
  · obtain ⟨g, cap, rfl⟩ : ∃ g cap, v = .slice (some ⟨g, 0, none⟩) xs.length cap := by
      rcases hh.2 with ⟨hv, _⟩ | ⟨g, cap, cur, hv, _⟩
      · exact absurd hv h0
      · exact ⟨g, cap, hv⟩
    refine (sortP_any 0 g _ cap xs w hh hn).mono ?_
    rintro e w' ⟨rfl, ys, hp, hs, hown, hg⟩
    refine ⟨rfl, ys, hp, hs, ?_⟩
    have := h.row (w' := w') 0 rfl hown hg (.inl rfl)
    rw [hp.length_eq]
    exact this
/-- Equal neighbours of a row are struck. -/
theorem SW.compact {v : Value} {xs : List ID} (h : SW b w0 (rowOb 36 2 v xs.length (xs.flatMap encID) :: l) w) (hn : xs.length ≤ 4294967296) :
    Calls Tryz.prog 83 #[v] w (fun e w' => ∃ A c, e = .returned (.slice A (dd xs).length c) ∧ SW b w0 (riOb A (dd xs) :: l) w') := by
  have hh : w.ownsRow 0 36 2 v xs.length (xs.flatMap encID) := h.get 0 rfl
  by_cases h0 : v = .slice none 0 0
  · subst h0
    have hx : xs = [] := by
      rcases hh.2 with ⟨_, h2⟩ | ⟨g, cap, cur, hv, _⟩
      · exact List.eq_nil_of_length_eq_zero h2
      · cases hv
    subst hx
    have S := Lib.hid h
    clear h hh
    go_enter Tryz.func83, Tryz.ntmps83
    go_wp2_with fail
    go_ret
    exact ⟨none, 0, rfl, SW.rowRi (A := none) (cap := 0) (F := []) S.out⟩
  · obtain ⟨g, cap, rfl⟩ : ∃ g cap, v = .slice (some ⟨g, 0, none⟩) xs.length cap := by
      rcases hh.2 with ⟨hv, _⟩ | ⟨g, cap, cur, hv, _⟩
      · exact absurd hv h0
      · exact ⟨g, cap, hv⟩
    obtain ⟨_, hr, hlt, _⟩ := own_rowI hh
    have hcap : xs.length ≤ cap := own_cap hh
    refine (compact_any g cap xs w hr hn hlt hcap).mono ?_
    rintro e w' ⟨rfl, hr', hg⟩
    refine ⟨some ⟨g, 0, none⟩, cap, rfl, ?_⟩
    have hgl : g < w'.heap.size := Nat.lt_of_lt_of_le hlt hg.size
    have := h.1.stepAt (w' := w') (o' := riOb (some ⟨g, 0, none⟩) (dd xs)) 0 rfl ⟨hg.os, hg.tape, hg.output, hg.size, fun i hi hn' => hg.block i hi (fun e => hn' e.symm), fun i hi => hi.elim⟩ (fun i hi => .inl (by
      have hi : (some ⟨g, 0, none⟩ : Option Addr) = some ⟨i, 0, none⟩ := hi
      injection hi with hi
      injection hi with hi
      show (some g : Option Nat) = some i
      rw [hi])) ⟨(fun e => by cases e), fun ad e => by injection e with e; subst e; exact ⟨g, rfl, hr', hgl⟩⟩ (fun i hi => by
      rcases hi with hi | hi
      · exact hi.elim
      · have hi : (some ⟨g, 0, none⟩ : Option Addr) = some ⟨i, 0, none⟩ := hi
        injection hi with hi
        injection hi with hi
        subst hi
        exact hgl)
    exact ⟨this.1, h.2.trans this.2⟩
/-- Equal neighbours of a row are struck. -/
theorem SW.compactO {v : Value} {xs : List ID} (h : SW b w0 (rowOb 36 2 v xs.length (xs.flatMap encID) :: l) w) (hn : xs.length ≤ 4294967296) :
    Calls Tryz.prog 83 #[v] w (fun e w' => ∃ A c, e = .returned (.slice A (dd xs).length c) ∧ (dd xs).length ≤ c ∧ SW b w0 (rwOb A (dd xs) :: l) w') := by
  have hh : w.ownsRow 0 36 2 v xs.length (xs.flatMap encID) := h.get 0 rfl
  by_cases h0 : v = .slice none 0 0
  · subst h0
    have hx : xs = [] := by
      rcases hh.2 with ⟨_, h2⟩ | ⟨g, cap, cur, hv, _⟩
      · exact List.eq_nil_of_length_eq_zero h2
      · cases hv
    subst hx
    have S := Lib.hid h
    clear h hh
    go_enter Tryz.func83, Tryz.ntmps83
    go_wp2_with fail
    go_ret
    exact ⟨none, 0, rfl, Nat.le_refl _, SW.rowRw (A := none) (cap := 0) (F := []) S.out⟩
  · obtain ⟨g, cap, rfl⟩ : ∃ g cap, v = .slice (some ⟨g, 0, none⟩) xs.length cap := by
      rcases hh.2 with ⟨hv, _⟩ | ⟨g, cap, cur, hv, _⟩
      · exact absurd hv h0
      · exact ⟨g, cap, hv⟩
    obtain ⟨_, hr, hlt, _⟩ := own_rowI hh
    have hcap : xs.length ≤ cap := own_cap hh
    refine (compact_any g cap xs w hr hn hlt hcap).mono ?_
    rintro e w' ⟨rfl, hr', hg⟩
    refine ⟨some ⟨g, 0, none⟩, cap, rfl, Nat.le_trans (dd_len xs) hcap, ?_⟩
    have hgl : g < w'.heap.size := Nat.lt_of_lt_of_le hlt hg.size
    have := h.1.stepAt (w' := w') (o' := rwOb (some ⟨g, 0, none⟩) (dd xs)) 0 rfl ⟨hg.os, hg.tape, hg.output, hg.size, fun i hi hn' => hg.block i hi (fun e => hn' e.symm), fun i hi => .inl (by
      have hi : (some ⟨g, 0, none⟩ : Option Addr) = some ⟨i, 0, none⟩ := hi
      injection hi with hi
      injection hi with hi
      show (some g : Option Nat) = some i
      rw [hi])⟩ (fun i hi => hi.elim) ⟨(fun e => by cases e), fun ad e => by injection e with e; subst e; exact ⟨g, rfl, hr', hgl⟩⟩ (fun i hi => by
      rcases hi with hi | hi
      · have hi : (some ⟨g, 0, none⟩ : Option Addr) = some ⟨i, 0, none⟩ := hi
        injection hi with hi
        injection hi with hi
        subst hi
        exact hgl
      · exact hi.elim)
    exact ⟨this.1, h.2.trans this.2⟩
/-- What Live returns. -/
abbrev LiveO (pin : List ID) (ms : List Man) (b : Nat) (w0 : World) (l : List Ob) (e : Ending) (w' : World) : Prop :=
  (errM ms = 0 ∧ ∃ A c, e = .returned (.tuple #[.slice A (setR (pin ++ idsOf ms)).length c, .int .i64 0]) ∧ (setR (pin ++ idsOf ms)).length ≤ c ∧ SW b w0 (rwOb A (setR (pin ++ idsOf ms)) :: l) w') ∨
  (errM ms ≠ 0 ∧ e = .returned (.tuple #[.slice none 0 0, .int .i64 (errM ms)]) ∧ SW b w0 l w')
/-- What Live returns. -/
abbrev LiveP (pin : List ID) (ms : List Man) (b : Nat) (w0 : World) (l : List Ob) (e : Ending) (w' : World) : Prop :=
  (errM ms = 0 ∧ ∃ A c, e = .returned (.tuple #[.slice A (setR (pin ++ idsOf ms)).length c, .int .i64 0]) ∧ SW b w0 (riOb A (setR (pin ++ idsOf ms)) :: l) w') ∨
  (errM ms ≠ 0 ∧ e = .returned (.tuple #[.slice none 0 0, .int .i64 (errM ms)]) ∧ SW b w0 l w')
theorem idsOf_take {ms : List Man} {k : Nat} (hk : k < ms.length) : idsOf (ms.take (k + 1)) = idsOf (ms.take k) ++ (ms.getD k man0).ids := by
  rw [take_snoc _ man0 _ hk, idsOf_snoc]
theorem rdC_top {x : Nat} {A : Option Addr} {t : List CT} (h : RdC w x A t) (y : Nat) (hy : ∀ ad, A = some ad → ad.block ≠ y) : RdC w y A t := fun hp => by
  obtain ⟨q, o, e, hb, _, hc⟩ := h hp
  exact ⟨q, o, e, hb, hy _ e, hc⟩
/-- A table that is read. -/
def tcOb (A : Option Addr) (t : List CT) : Ob where
  own := fun _ => False
  rd := fun i => 0 < t.length ∧ ∃ o, A = some ⟨i, o, none⟩
  holds := fun w => RdC w w.heap.size A t
  stable := fun w w' h hs hk => fun hp => by
    obtain ⟨b, o, rfl, hb, _, hc⟩ := h hp
    have hB := hk b (.inr ⟨hp, o, rfl⟩)
    refine ⟨b, o, rfl, Nat.lt_of_lt_of_le hb hs.2.2.2, by have := hs.2.2.2; omega, fun j hj i v hv => ?_⟩
    rw [← hc j hj i v hv]
    simp [World.cell?, hB]
set_option maxRecDepth 100000 in
set_option maxHeartbeats 8000000 in
/-- The reference's set of a list. -/
theorem rSet_any (h : SW b w0 l w) (A : Option Addr) (c : Nat) (ids : List ID) (hr : riOb A ids ∈ l) (hn : ids.length ≤ 1000000000) :
    Calls Tryz.prog 94 #[.slice A ids.length c] w (fun e w' => ∃ B cb, e = .returned (.slice B (setR ids).length cb) ∧ SW b w0 (riOb B (setR ids) :: l) w') := by
  have S0 := Lib.hid h
  have HA := Lib.hid hr
  clear h hr
  obtain ⟨i1, gi, gz0, gz1, gz2⟩ := info_parts info36
  go_enter Tryz.func94, Tryz.ntmps94
  go_wp2_with fail
  go_loopw [3, 4] (fun s3 s4 wr => ∃ (k : Nat) (T : Option Addr) (C : Nat), k ≤ ids.length ∧ s4 = .int .i64 (k : Int) ∧ s3 = .slice T (allR [] (ids.take k)).length C ∧ (∀ ad, T = some ad → w.heap.size ≤ ad.block) ∧ RdC wr wr.heap.size T (allR [] (ids.take k)) ∧ SW b w0 l wr ∧ w.heap.size ≤ wr.heap.size) (fun _ s4 _ => ids.length - (intOf s4).toNat)
  case atStart => exact ⟨0, none, 0, Nat.zero_le _, rfl, rfl, (fun _ e => by cases e), Rd.nil, S0.out, Nat.le_refl _⟩
  case round =>
    obtain ⟨k, T, C, hk, rfl, rfl, hT, hR, hs, hsz⟩ := hrel
    have S1 := Lib.hid hs
    have HT := Lib.hid hT
    have HR := Lib.hid hR
    clear hs hT hR
    have htl := allR_len [] (ids.take k)
    have htb := allR_bd (t := []) (lo := 0) (hi := 0) (by omega) (by omega) (fun c hc => by cases hc) (ids.take k)
    have HTB : Hid (∀ c ∈ allR [] (ids.take k), -1099511627776000 ≤ c.2 ∧ c.2 ≤ 1099511627776000) := fun c hc => by
      have := htb c hc
      rw [List.length_take] at this
      omega
    clear htb
    rw [List.length_nil, List.length_take] at htl
    by_cases hlt : k < ids.length
    · obtain ⟨i, hik⟩ : ∃ i, ids.getD k id0 = i := ⟨_, rfl⟩
      obtain ⟨g1, e1, a0, a1⟩ := S1.out.rowCell HA.out hlt hik
      have HST : Hid (allR [] (ids.take (k + 1)) = putR (allR [] (ids.take k)) i 1) := by
        rw [Hid, take_snoc _ id0 _ hlt, allR_snoc, hik]
      have hglt : g1 < w.heap.size := by
        obtain ⟨g2, e2, _, hlt2⟩ := (S0.out.1.holds (riOb A ids) HA.out).2 _ e1
        injection e2 with e2
        omega
      have HPT := Lib.hid (Put_any g1 (allR [] (ids.take k)) T C i.1 i.2 1 wr (rdC_top HR.out g1 (fun ad e => by have := HT.out ad e; omega)) (by omega) (by omega) (by omega) HTB.out)
      subst e1
      clear hik
      go_wp2_with (go_at_call 130; (with_reducible refine HPT.out.mono ?_); refine halt_ ?_)
      rintro e w2 ⟨T2, C2, rfl, hr2, _, hn2, hb2⟩
      have S2 := Lib.hid (S1.out.on hb2)
      have HR2 : Hid (RdC w2 w2.heap.size T2 (allR [] (ids.take (k + 1)))) := by
        rw [HST.out]
        exact rdC_top hr2 _ (fun ad e => by have := hn2 ad e; omega)
      have HN2 : Hid (∀ ad, T2 = some ad → w.heap.size ≤ ad.block) := fun ad e => by have := (hn2 ad e).1; omega
      have hsz2 : w.heap.size ≤ w2.heap.size := Nat.le_trans hsz hb2.size
      rw [← HST.out]
      clear hr2 hn2 hb2 HPT S1 a0 a1
      go_wp2_with fail
      go_roundw
      case rel => exact ⟨k + 1, T2, C2, by omega, by go_num, rfl, HN2.out, HR2.out, S2.out, hsz2⟩
      case measure => simp [intOf]; omega
    · obtain rfl : k = ids.length := by omega
      rw [List.take_length] at HR htl ⊢
      obtain ⟨t, HTT⟩ : ∃ t, Hid (allR [] ids = t) := ⟨_, rfl⟩
      rw [HTT.out] at HR htl ⊢
      obtain ⟨K, HK⟩ : ∃ K, Hid (t.map (·.1) = K) := ⟨_, rfl⟩
      have HSR : Hid (setR ids = K) := by rw [Hid, setR, HTT.out, HK.out]
      have HKL : Hid (K.length = t.length) := by rw [Hid, ← HK.out, List.length_map]
      have S1 : Hid (SW b w0 (tcOb T t :: l) wr) := S1.out.also HR.out (fun _ h => h) (fun i hi => by
        obtain ⟨hp, o, e⟩ := hi
        obtain ⟨q, o2, e2, hb2, _⟩ := HR.out hp
        rw [e] at e2
        injection e2 with e2
        injection e2 with e2
        omega) (fun i hi y hy ho => by
        obtain ⟨_, o, e⟩ := hi
        have h1 := HT.out _ e
        have h2 := (S0.out.1.own y hy i ho).2
        simp only at h1
        omega)
      clear HTB HR
      go_wp2_with fail
      rename World => wa
      go_loopw [5, 6] (fun s5 s6 wr => ∃ k : Nat, k ≤ t.length ∧ s6 = .int .i64 (k : Int) ∧ SW b w0 (rowOb 36 2 s5 k ((K.take k).flatMap encID) :: tcOb T t :: l) wr) (fun _ s6 _ => t.length - (intOf s6).toNat)
      case atStart => exact ⟨0, Nat.zero_le _, rfl, S1.out.newRow 36 2⟩
      case round =>
        rename World => wz
        obtain ⟨k, hk, rfl, hs⟩ := hrel
        have S2 := Lib.hid hs
        clear hs S1
        by_cases hlt : k < t.length
        · have hR2 : RdC wz wz.heap.size T t := S2.out.get 1 (o := tcOb T t) rfl
          obtain ⟨g, o, rfl, hgB, _, hc⟩ := hR2 (by omega)
          obtain ⟨i, n, HI⟩ : ∃ i n, Hid (t.getD k ct0 = (i, n)) := ⟨_, _, rfl⟩
          have c0 : wz.cell? ⟨g, o + k * 3, none⟩ = some (.int .u64 i.1) := hc k hlt 0 _ (by rw [HI.out]; rfl)
          have c1 : wz.cell? ⟨g, o + k * 3 + 1, none⟩ = some (.int .i64 i.2) := hc k hlt 1 _ (by rw [HI.out]; rfl)
          have HTK : Hid (K.take (k + 1) = K.take k ++ [i]) := by
            rw [Hid, take_snoc _ id0 _ (by rw [HKL.out]; exact hlt), ← HK.out]
            congr 2
            have h1 : (t.map (·.1)).getD k id0 = (t.getD k ct0).1 := by simp [List.getD_eq_getElem?_getD, List.getElem?_eq_getElem hlt]
            rw [h1, HI.out]
          clear hc hR2
          go_wp2_with (at_builtin; (refine wpList_rowS (t := 31) (e := 36) (size := 2) (bytes := 16) (i := i1) (S2.out.alloc _) 0 rfl (by rfl) (.tmp 25) (.tmp 31) (by rfl) Tryz.underlying31 gi gz0 gz1 gz2 rfl (by omega) (by rfl) ⟨wz.heap.size, 0, none⟩ 1 [.int .u64 i.1, .int .i64 i.2] (by rfl) rfl (two_new wz _ _ 36 _ rfl) (encID_one i) (by unfold maxLen; omega) (by omega) ?_); refine halt_ ?_)
          intro v4 w4 s4
          have S4 : Hid (SW b w0 (rowOb 36 2 v4 (k + 1) ((K.take (k + 1)).flatMap encID) :: tcOb (some ⟨g, o, none⟩) t :: l) w4) := by
            rw [Hid, HTK.out, List.flatMap_append]
            exact s4
          clear s4 S2 c0 c1
          go_wp2_with fail
          go_roundw
          case rel => exact ⟨k + 1, by omega, by go_num, S4.out⟩
          case measure => simp [intOf]; omega
        · obtain rfl : k = t.length := by omega
          have hKT : K.take t.length = K := by rw [← HKL.out, List.take_length]
          rw [hKT, ← HKL.out] at S2
          have HOW : Hid (∃ B cb, u5 = .slice B K.length cb) := own_slL (S2.out.get 0 rfl)
          obtain ⟨B, cb, rfl⟩ := HOW.out
          clear hKT HOW
          go_wp2_with fail
          go_ret
          rw [HSR.out]
          exact ⟨B, cb, rfl, SW.sub S2.out.rowRi (List.Sublist.cons_cons _ (List.sublist_cons_self _ _))⟩
set_option maxRecDepth 100000 in
set_option maxHeartbeats 8000000 in
theorem rLive_any (h : SW b w0 l w) {A : Option Addr} {rs : List MR} {ms : List Man} (hm : imOb A rs ms ∈ l) (hn : ms.length ≤ 100000) (hi : ∀ m ∈ ms, m.ids.length ≤ 9223372036854775807) (P : Option Addr) (pc : Nat) (pin : List ID) (hp : RdID w w.heap.size P pin) (hpl : pin.length ≤ 100000) (c : Nat) :
    Calls Tryz.prog 45 #[.slice A ms.length c, .slice P pin.length pc] w (LiveP pin ms b w0 l) := by
  have HM := Lib.hid hm
  have HI := Lib.hid hi
  have S0 := Lib.hid (h.newRow 36 2)
  have HP := Lib.hid hp
  clear h hm hi hp
  obtain ⟨i1, gi, gz0, gz1, gz2⟩ := info_parts info36
  go_enter Tryz.func45, Tryz.ntmps45
  go_wp2_with (at_builtin; (refine wpList_rowMO (t := 31) (e := 36) (size := 2) (bytes := 16) (i := i1) S0.out 0 rfl (by rfl) (.const (.slice none 0 0)) (.tmp 9) (by rfl) Tryz.underlying31 gi gz0 gz1 gz2 rfl (by omega) (by rfl) P pin.length pc (pin.flatMap encID) (by rfl) (flat_len encID_len pin) (rd_src HP.out) (encID_all pin) (by unfold maxLen; omega) (by omega) ?_); refine halt_ ?_)
  intro v1 w1 s1
  have S1 : Hid (SW b w0 (rowOb 36 2 v1 (pin ++ idsOf (ms.take 0)).length ((pin ++ idsOf (ms.take 0)).flatMap encID) :: l) w1) := by
    rw [Hid, List.take_zero, show idsOf [] = [] from rfl, List.append_nil]
    simpa using s1
  clear s1 S0 HP
  go_wp2_with fail
  go_loopw [6, 7] (fun s6 s7 wr => ∃ k : Nat, k ≤ ms.length ∧ s7 = .int .i64 (k : Int) ∧ Hid (errM (ms.take k) = 0) ∧ SW b w0 (rowOb 36 2 s6 (pin ++ idsOf (ms.take k)).length ((pin ++ idsOf (ms.take k)).flatMap encID) :: l) wr) (fun _ s7 _ => ms.length - (intOf s7).toNat)
  case atStart => exact ⟨0, Nat.zero_le _, rfl, rfl, S1.out⟩
  case round =>
    obtain ⟨k, hk, rfl, HE, hs⟩ := hrel
    have S2 := Lib.hid hs
    clear hs S1
    have hbig : (idsOf (ms.take k)).length ≤ 1024 * 100000 := by
      have h1 := idsOf_len HE.out
      rw [List.length_take] at h1
      omega
    by_cases hlt : k < ms.length
    · obtain ⟨h1, h2, h3⟩ := S2.out.1.holds (imOb A rs ms) (List.mem_cons_of_mem _ HM.out)
      obtain ⟨g, o, rfl, hgB, _, hc⟩ := h1 (by omega)
      obtain ⟨l1, l2, l3, l4⟩ := h3 k hlt
      have hmem := getD_mem ms man0 k hlt
      have HTK := Lib.hid (idsOf_take hlt)
      obtain ⟨m, HMK⟩ : ∃ m, Hid (ms.getD k man0 = m) := ⟨_, rfl⟩
      obtain ⟨⟨rz, rA, rl, rc⟩, HR⟩ : ∃ r, Hid (rs.getD k mr0 = r) := ⟨_, rfl⟩
      rw [HMK.out] at l1 l2 l4 hmem HTK
      rw [HR.out] at l1 l2 l3 l4
      simp only at l1 l2 l3 l4
      subst l1 l2
      have hil := HI.out m hmem
      have c0 : wr.cell? ⟨g, o + k * 2, none⟩ = some (.int .i64 m.size) := hc k (by omega) 0 _ (by rw [HR.out]; rfl)
      have c1 : wr.cell? ⟨g, o + k * 2 + 1, none⟩ = some (.slice rA m.ids.length rc) := hc k (by omega) 1 _ (by rw [HR.out]; rfl)
      have C1 := Lib.hid c1
      have HB : Hid (manE m ≠ 0 → errM ms = manE m) := fun h => by have := errM_at HE.out hlt (by rw [HMK.out]; exact h); rwa [HMK.out] at this
      have HZ : Hid (manE m = 0 → errM (ms.take (k + 1)) = 0) := fun h => by rw [take_snoc _ man0 _ hlt, errM_snoc _ _ HE.out, HMK.out]; exact h
      have HRD := Lib.hid l4
      have HCK := Lib.hid (rmanCheck_any _ m rA rc _ l4 hil)
      clear h1 h2 h3 hc l4 hmem
      go_wp2_with (go_at_call 37; (with_reducible refine HCK.out.mono ?_); refine halt_ ?_)
      rintro e w2 ⟨rfl, hb2⟩
      have S4 := Lib.hid (S2.out.on hb2)
      have HRD2 := Lib.hid (rd_top (HRD.out.on hb2))
      have d1 : w2.cell? ⟨g, o + k * 2 + 1, none⟩ = some (.slice rA m.ids.length rc) := B_cell hb2 hgB C1.out
      clear hb2 HCK S2 HRD c0 c1 C1
      by_cases hE : manE m = 0
      · have hle := manE_len hE
        have HE2 := Lib.hid (HZ.out hE)
        rw [hE]
        clear hE HB HZ
        go_wp2_with (at_builtin; (refine wpList_rowMO (t := 31) (e := 36) (size := 2) (bytes := 16) (i := i1) S4.out 0 rfl (by rfl) (.tmp 25) (.tmp 30) (by rfl) Tryz.underlying31 gi gz0 gz1 gz2 rfl (by omega) (by rfl) rA m.ids.length rc (m.ids.flatMap encID) (by rfl) (flat_len encID_len m.ids) (rd_src HRD2.out) (encID_all m.ids) (by rw [List.length_append]; unfold maxLen; omega) (by rw [List.length_append]; omega) ?_); refine halt_ ?_)
        intro v4 w4 s4
        have S5 : Hid (SW b w0 (rowOb 36 2 v4 (pin ++ idsOf (ms.take (k + 1))).length ((pin ++ idsOf (ms.take (k + 1))).flatMap encID) :: l) w4) := by
          rw [Hid, HTK.out]
          simp only [List.flatMap_append, List.length_append, List.append_assoc, ← Nat.add_assoc]
          exact s4
        clear s4 S4 d1
        go_wp2_with fail
        go_roundw
        case rel => exact ⟨k + 1, by omega, by go_num, HE2, S5.out⟩
        case measure => simp [intOf]; omega
      · have HEM := Lib.hid (HB.out hE)
        have HN : Hid (errM ms ≠ 0) := by rw [Hid, HEM.out]; exact hE
        have hbe : (manE m != 0) = true := bne_iff_ne.2 hE
        clear hE HB HZ
        go_wp2_with fail
        go_ret2
        exact .inr ⟨HN.out, by rw [HEM.out]; rfl, S4.out.tail⟩
    · obtain rfl : k = ms.length := by omega
      have hT := HE.out
      rw [List.take_length] at hT hbig
      rw [List.take_length] at S2
      have HT := Lib.hid hT
      obtain ⟨xs, HXS⟩ : ∃ xs, Hid (pin ++ idsOf ms = xs) := ⟨_, rfl⟩
      have hxl : xs.length ≤ 1000000000 := by rw [← HXS.out, List.length_append]; omega
      rw [HXS.out] at S2
      obtain ⟨D, dc, rfl⟩ := own_slL (S2.out.get 0 rfl)
      have HSE := Lib.hid (rSet_any S2.out.rowRi D dc xs (by simp) hxl)
      clear hT S2 hbig
      go_wp2_with (go_at_call 94; (with_reducible refine HSE.out.mono ?_); refine halt_ ?_)
      rintro e w3 ⟨B, cb, rfl, s4⟩
      have S4 := Lib.hid s4
      clear s4 HSE
      go_wp2_with fail
      go_ret2
      refine .inl ⟨HT.out, B, cb, ?_, ?_⟩
      · rw [HXS.out]
        rfl
      · rw [HXS.out]
        exact S4.out.sub (List.Sublist.cons_cons _ (List.sublist_cons_self _ _))
end
/-- The IDs of a list that are not in another one. -/
def lessR (l gone : List ID) : List ID := l.filter fun i => !decide (i ∈ gone)
theorem lessR_snoc (l gone : List ID) (i : ID) : lessR (l ++ [i]) gone = lessR l gone ++ if i ∈ gone then [] else [i] := by
  unfold lessR
  rw [List.filter_append]
  congr 1
  by_cases h : i ∈ gone <;> simp [h]
section
variable {b : Nat} {w0 w : World} {l : List Ob}
set_option maxRecDepth 100000 in
set_option maxHeartbeats 8000000 in
theorem rLess_any {A1 A2 : Option Addr} {l1 l2 : List ID} (h : SW b w0 l w) (h1 : riOb A1 l1 ∈ l) (h2 : riOb A2 l2 ∈ l) (n1 : l1.length ≤ 100000) (n2 : l2.length ≤ 100000) (c1 c2 : Nat) :
    Calls Tryz.prog 56 #[.slice A1 l1.length c1, .slice A2 l2.length c2] w (fun e w' => ∃ A cap, e = .returned (.slice A (lessR l1 l2).length cap) ∧ SW b w0 (riOb A (lessR l1 l2) :: l) w') := by
  have S0 := Lib.hid h
  have H1 := Lib.hid h1
  have H2 := Lib.hid h2
  clear h h1 h2
  go_enter Tryz.func56, Tryz.ntmps56
  go_wp2_with fail
  go_loopw [5, 6] (fun s5 s6 wr => ∃ (k : Nat) (A : Option Addr) (cap : Nat), k ≤ l1.length ∧ s6 = .int .i64 (k : Int) ∧ s5 = .slice A (lessR (l1.take k) l2).length cap ∧ SW b w0 (rowOb 36 2 (.slice A (lessR (l1.take k) l2).length cap) (lessR (l1.take k) l2).length ((lessR (l1.take k) l2).flatMap encID) :: l) wr) (fun _ s6 _ => l1.length - (intOf s6).toNat)
  case atStart => exact ⟨0, none, 0, Nat.zero_le _, rfl, rfl, S0.out.newRow 36 2⟩
  case round =>
    obtain ⟨k, A, cap, hk, rfl, rfl, hs⟩ := hrel
    have S1 := Lib.hid hs
    clear hs S0
    by_cases hlt : k < l1.length
    · obtain ⟨i, hik⟩ : ∃ i, l1.getD k id0 = i := ⟨_, rfl⟩
      obtain ⟨g1, rfl, a0, a1⟩ := S1.out.rowCell (List.mem_cons_of_mem _ H1.out) hlt hik
      have hts : l1.take (k + 1) = l1.take k ++ [i] := by
        rw [List.take_succ_eq_append_getElem hlt, ← hik, List.getD_eq_getElem?_getD, List.getElem?_eq_getElem hlt]
        rfl
      have HTS : Hid (lessR (l1.take (k + 1)) l2 = lessR (l1.take k) l2 ++ if i ∈ l2 then [] else [i]) := by rw [Hid, hts, lessR_snoc]
      have hfl : (lessR (l1.take k) l2).length ≤ k := by
        unfold lessR
        have := List.length_filter_le (fun i => !decide (i ∈ l2)) (l1.take k)
        rw [List.length_take] at this
        omega
      generalize lessR (l1.take k) l2 = F at S1 HTS hfl ⊢
      have HH : Hid (Calls Tryz.prog 34 #[.slice A2 l2.length c2, .agg #[.int .u64 i.1, .int .i64 i.2]] wr (Gives (.bool (decide (i ∈ l2))) wr)) := rHas_any wr.heap.size l2 A2 c2 i.1 i.2 wr (rdID_of (S1.out.1.holds (riOb A2 l2) (List.mem_cons_of_mem _ H2.out))) (by omega)
      clear hts
      go_upto_if 19 with (go_at_call 34; (with_reducible refine HH.out.mono ?_); rintro e w2 ⟨rfl, hb2⟩; have S2 := Lib.hid (S1.out.on hb2); clear hb2 S1 HH)
      obtain ⟨g2, e2, a0', a1'⟩ := S2.out.rowCell (List.mem_cons_of_mem _ H1.out) hlt hik
      injection e2 with e2
      injection e2 with e2
      subst e2
      clear hik a0 a1
      obtain ⟨v, hv⟩ : ∃ v, decide (i ∈ l2) = v := ⟨_, rfl⟩
      cases v with
      | true =>
        rw [if_pos (of_decide_eq_true hv), List.append_nil] at HTS
        rw [hv]
        clear hv
        go_wp2_with fail
        go_roundw
        case rel =>
          refine ⟨k + 1, A, cap, by omega, by go_num, ?_, ?_⟩
          · rw [HTS.out]
          · rw [HTS.out]
            exact S2.out
        case measure => simp [intOf]; omega
      | false =>
        rw [if_neg (of_decide_eq_false hv)] at HTS
        rw [hv]
        clear hv
        obtain ⟨i1, gi, gz0, gz1, gz2⟩ := info_parts info36
        go_wp2_with (at_builtin; (refine wpList_rowS (t := 31) (e := 36) (size := 2) (bytes := 16) (i := i1) (S2.out.alloc _) 0 rfl (by rfl) (.tmp 20) (.tmp 25) (by rfl) Tryz.underlying31 gi gz0 gz1 gz2 rfl (by omega) (by rfl) ⟨w2.heap.size, 0, none⟩ 1 [.int .u64 i.1, .int .i64 i.2] (by rfl) rfl (two_new w2 _ _ 36 _ rfl) (encID_one i) (by unfold maxLen; omega) (by omega) ?_); refine halt_ ?_)
        intro v4 w4 s4
        obtain ⟨g4, c4, rfl⟩ := own_some (s4.get 0 rfl) (by omega)
        have S4 : Hid (SW b w0 (rowOb 36 2 (.slice (some ⟨g4, 0, none⟩) (F ++ [i]).length c4) (F ++ [i]).length ((F ++ [i]).flatMap encID) :: l) w4) := by
          rw [Hid, List.flatMap_append, List.length_append]
          exact s4
        clear s4 S2 a0' a1'
        go_wp2_with fail
        go_roundw
        case rel =>
          refine ⟨k + 1, some ⟨g4, 0, none⟩, c4, by omega, by go_num, ?_, ?_⟩
          · rw [HTS.out, List.length_append]
            rfl
          · rw [HTS.out]
            exact S4.out
        case measure => simp [intOf]; omega
    · obtain rfl : k = l1.length := by omega
      rw [List.take_length] at S1 ⊢
      go_wp2_with fail
      go_ret
      exact ⟨A, cap, rfl, S1.out.rowRi⟩
end
end Go.Proofs.YtmiknfneeipkeaaGreat
namespace Go.Proofs.YtmiknfneeipkeaaGreat
open Go.RowKit Go.MapKept Go.ChangeMaps Go.Shelf Go.Sort
attribute [local go_sem] wext_cell
section
variable {b : Nat} {w0 w w' : World} {l : List Ob}
set_option maxRecDepth 100000 in
set_option maxHeartbeats 8000000 in
theorem chunksOf_pin (h : SW b w0 l w) {A : Option Addr} {rs : List MR} {ms : List Man} (hm : imOb A rs ms ∈ l) (hn : ms.length ≤ 100000) (hi : ∀ m ∈ ms, m.ids.length ≤ 9223372036854775807) (pin : List ID) (hpin : pin = []) (c : Nat) :
    Calls Tryz.prog 39 #[.slice A ms.length c] w (LiveO pin ms b w0 l) := by
  have HM := Lib.hid hm
  have HI := Lib.hid hi
  clear hm hi
  obtain ⟨i1, gi, gz0, gz1, gz2⟩ := info_parts info36
  go_enter Tryz.func39, Tryz.ntmps39
  have hpl : pin.length ≤ 100000 := by rw [hpin]; exact Nat.zero_le _
  have S1 : Hid (SW b w0 (rowOb 36 2 (.slice none 0 0) (pin ++ idsOf (ms.take 0)).length ((pin ++ idsOf (ms.take 0)).flatMap encID) :: l) w) := by
    rw [hpin]
    exact h.newRow 36 2
  clear h hpin
  go_wp2_with fail
  go_loopw [4, 10] (fun s4 s10 wr => ∃ k : Nat, k ≤ ms.length ∧ s10 = .int .i64 (k : Int) ∧ Hid (errM (ms.take k) = 0) ∧ SW b w0 (rowOb 36 2 s4 (pin ++ idsOf (ms.take k)).length ((pin ++ idsOf (ms.take k)).flatMap encID) :: l) wr) (fun _ s10 _ => ms.length - (intOf s10).toNat)
  case atStart => exact ⟨0, Nat.zero_le _, rfl, rfl, S1.out⟩
  case round =>
    obtain ⟨k, hk, rfl, HE, hs⟩ := hrel
    have S2 := Lib.hid hs
    clear hs S1
    have hbig : (idsOf (ms.take k)).length ≤ 1024 * 100000 := by
      have h1 := idsOf_len HE.out
      rw [List.length_take] at h1
      omega
    by_cases hlt : k < ms.length
    · obtain ⟨h1, h2, h3⟩ := S2.out.1.holds (imOb A rs ms) (List.mem_cons_of_mem _ HM.out)
      obtain ⟨g, o, rfl, hgB, _, hc⟩ := h1 (by omega)
      obtain ⟨l1, l2, l3, l4⟩ := h3 k hlt
      have hmem := getD_mem ms man0 k hlt
      have HTK := Lib.hid (idsOf_take hlt)
      obtain ⟨m, HMK⟩ : ∃ m, Hid (ms.getD k man0 = m) := ⟨_, rfl⟩
      obtain ⟨⟨rz, rA, rl, rc⟩, HR⟩ : ∃ r, Hid (rs.getD k mr0 = r) := ⟨_, rfl⟩
      rw [HMK.out] at l1 l2 l4 hmem HTK
      rw [HR.out] at l1 l2 l3 l4
      simp only at l1 l2 l3 l4
      subst l1 l2
      have hil := HI.out m hmem
      have c0 : wr.cell? ⟨g, o + k * 2, none⟩ = some (.int .i64 m.size) := hc k (by omega) 0 _ (by rw [HR.out]; rfl)
      have c1 : wr.cell? ⟨g, o + k * 2 + 1, none⟩ = some (.slice rA m.ids.length rc) := hc k (by omega) 1 _ (by rw [HR.out]; rfl)
      have HB : Hid (manE m ≠ 0 → errM ms = manE m) := fun h => by have := errM_at HE.out hlt (by rw [HMK.out]; exact h); rwa [HMK.out] at this
      have HZ : Hid (manE m = 0 → errM (ms.take (k + 1)) = 0) := fun h => by rw [take_snoc _ man0 _ hlt, errM_snoc _ _ HE.out, HMK.out]; exact h
      have S3 := Lib.hid (S2.out.newCell 33 #[.int .i64 m.size, .slice rA m.ids.length rc])
      have HRD : Hid (RdID (wr.alloc (.cells #[.int .i64 m.size, .slice rA m.ids.length rc] 33)) (wr.alloc (.cells #[.int .i64 m.size, .slice rA m.ids.length rc] 33)).heap.size rA m.ids) := rd_top (l4.alloc _)
      have HCK := Lib.hid (manCheck_any _ m rA rc _ HRD.out hil)
      clear h1 h2 h3 hc l4 hmem S2
      go_wp2_with (go_at_call 74; (with_reducible refine HCK.out.mono ?_); refine halt_ ?_)
      rintro e w2 ⟨rfl, hb2⟩
      have S4 := Lib.hid (S3.out.on hb2)
      have HRD2 := Lib.hid (rd_top (HRD.out.on hb2))
      have d1 : w2.cell? ⟨wr.heap.size, 1, none⟩ = some (.slice rA m.ids.length rc) := (S4.out.cell 0 rfl).cell 1
      clear hb2 HCK S3 HRD c0 c1
      by_cases hE : manE m = 0
      · have hle := manE_len hE
        have HE2 := Lib.hid (HZ.out hE)
        rw [hE]
        clear hE HB HZ
        go_wp2_with (at_builtin; (refine wpList_rowMO (t := 31) (e := 36) (size := 2) (bytes := 16) (i := i1) S4.out 1 rfl (by rfl) (.tmp 19) (.tmp 21) (by rfl) Tryz.underlying31 gi gz0 gz1 gz2 rfl (by omega) (by rfl) rA m.ids.length rc (m.ids.flatMap encID) (by rfl) (flat_len encID_len m.ids) (rd_src HRD2.out) (encID_all m.ids) (by rw [List.length_append]; unfold maxLen; omega) (by rw [List.length_append]; omega) ?_); refine halt_ ?_)
        intro v4 w4 s4
        have S5 : Hid (SW b w0 (rowOb 36 2 v4 (pin ++ idsOf (ms.take (k + 1))).length ((pin ++ idsOf (ms.take (k + 1))).flatMap encID) :: l) w4) := by
          rw [Hid, HTK.out]
          simp only [List.flatMap_append, List.length_append, List.append_assoc, ← Nat.add_assoc]
          exact s4.tail
        clear s4 S4 d1
        go_wp2_with fail
        go_roundw
        case rel => exact ⟨k + 1, by omega, by go_num, HE2, S5.out⟩
        case measure => simp [intOf]; omega
      · have HEM := Lib.hid (HB.out hE)
        have HN : Hid (errM ms ≠ 0) := by rw [Hid, HEM.out]; exact hE
        have hbe : (manE m != 0) = true := bne_iff_ne.2 hE
        clear hE HB HZ
        go_wp2_with fail
        go_ret2
        exact .inr ⟨HN.out, by rw [HEM.out]; rfl, S4.out.tail.tail⟩
    · obtain rfl : k = ms.length := by omega
      have hT := HE.out
      rw [List.take_length] at hT hbig
      rw [List.take_length] at S2
      have HT := Lib.hid hT
      have HSO := Lib.hid (S2.out.sortP (by rw [List.length_append]; omega))
      obtain ⟨xs, HXS⟩ : ∃ xs, Hid (pin ++ idsOf ms = xs) := ⟨_, rfl⟩
      have hxl : xs.length ≤ 4294967296 := by rw [← HXS.out, List.length_append]; omega
      rw [HXS.out] at HSO
      clear hT S2 hbig
      go_wp2_with (go_at_call 82; (with_reducible refine HSO.out.mono ?_); refine halt_ ?_)
      rintro e w2 ⟨rfl, ys, hp, hso, s3⟩
      have HCO := Lib.hid (s3.compactO (by rw [hp.length_eq]; exact hxl))
      rw [dd_setR hp hso] at HCO
      clear s3 HSO hp hso
      go_wp2_with (go_at_call 83; (with_reducible refine HCO.out.mono ?_); refine halt_ ?_)
      rintro e w3 ⟨B, cb, rfl, hcb, s4⟩
      have HCB := Lib.hid hcb
      clear hcb
      have S4 := Lib.hid s4
      clear s4 HCO
      go_wp2_with fail
      go_ret2
      refine .inl ⟨HT.out, B, cb, ?_, by rw [HXS.out]; exact HCB.out, ?_⟩
      · rw [HXS.out]
        rfl
      · rw [HXS.out]
        exact S4.out
theorem chunksOf_any (h : SW b w0 l w) {A : Option Addr} {rs : List MR} {ms : List Man} (hm : imOb A rs ms ∈ l) (hn : ms.length ≤ 100000) (hi : ∀ m ∈ ms, m.ids.length ≤ 9223372036854775807) (c : Nat) : Calls Tryz.prog 39 #[.slice A ms.length c] w (LiveO [] ms b w0 l) := chunksOf_pin h hm hn hi [] rfl c
end
end Go.Proofs.YtmiknfneeipkeaaGreat
