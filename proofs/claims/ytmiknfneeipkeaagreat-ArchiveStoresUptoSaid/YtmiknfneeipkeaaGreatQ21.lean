/- Contracts of the walk, part 21. -/
import Derived.Handy
import Derived.Test.YtmiknfneeipkeaaGreatQ20
import Derived.Test.YtmiknfneeipkeaaGreatQ14
namespace Go.Proofs.YtmiknfneeipkeaaGreat
open Go.RowKit Go.MapKept Go.ChangeMaps Go.Shelf Go.Sort
attribute [local go_sem] wext_cell
theorem cmpID_zero {x y : ID} : cmpID x y = 0 ↔ x = y := by
  obtain ⟨a, b⟩ := x
  obtain ⟨c, d⟩ := y
  unfold cmpID orI Lib.compareInt
  simp only [Prod.mk.injEq]
  repeat' split
  all_goals (first | omega | simp_all)

abbrev AscI (t : List ID) : Prop := t.Pairwise (fun a b => ltID a b = true)
/-- What BinarySearchFunc finds. -/
def BsPost (t : List ID) (i : ID) (w : World) (e : Ending) (w' : World) : Prop :=
  Below w.heap.size w w' ∧ ((∃ (k : Nat), k < t.length ∧ t.getD k id0 = i ∧ e = .returned (.tuple #[.int .i64 k, .bool true])) ∨ ∃ k : Nat, i ∉ t ∧ e = .returned (.tuple #[.int .i64 k, .bool false]))
theorem asc_getD {t : List ID} (h : AscI t) {i j : Nat} (hj : j < t.length) (hij : i < j) : ltID (t.getD i id0) (t.getD j id0) = true := by
  have := List.pairwise_iff_getElem.1 h i j (by omega) hj hij
  simpa [List.getD_eq_getElem?_getD, hj, show i < t.length by omega] using this
theorem bs_none {t : List ID} (h : AscI t) {i : ID} {k : Nat} (h1 : ∀ j, j < k → ltID (t.getD j id0) i = true) (h2 : ∀ j, k ≤ j → j < t.length → ltID (t.getD j id0) i = false) (h3 : k < t.length → (t.getD k id0) ≠ i) : i ∉ t := by
  intro hm
  obtain ⟨j, hj, e⟩ := List.mem_iff_getElem.1 hm
  have e' : t.getD j id0 = i := by simpa [List.getD_eq_getElem?_getD, hj] using e
  rcases Nat.lt_trichotomy j k with hlt | rfl | hgt
  · have := h1 j hlt
    rw [e', ltID_irrefl] at this
    cases this
  · exact h3 hj (by rw [e'])
  · have a := asc_getD h hj hgt
    rw [e'] at a
    rw [h2 k (Nat.le_refl _) (by omega)] at a
    cases a

set_option maxRecDepth 100000 in
set_option maxHeartbeats 8000000 in
theorem Bs_any (x : Nat) (t : List ID) (A : Option Addr) (c : Nat) (s z : Int) (w : World) (hr : RdID w x A t) (ha : AscI t) (hn : t.length ≤ 1000000000) :
    Calls Tryz.prog 54 #[.slice A t.length c, .agg #[.int .u64 s, .int .i64 z], .func (.func 55) #[] #[]] w (BsPost t (s, z) w) := by
  have Hr := Lib.hid hr
  have Ha := Lib.hid ha
  clear hr ha
  go_enter Tryz.func54, Tryz.ntmps54
  go_wp2_with fail
  go_loopw [9, 10] (fun v9 v10 wr => ∃ i j : Nat, i ≤ j ∧ j ≤ t.length ∧ v9 = .int .i64 i ∧ v10 = .int .i64 j ∧ Hid (∀ k, k < i → ltID (t.getD k id0) (s, z) = true) ∧ Hid (∀ k, j ≤ k → k < t.length → ltID (t.getD k id0) (s, z) = false) ∧ IsB wr w.heap.size 36 #[.int .u64 s, .int .i64 z] ∧ Below w.heap.size w wr) (fun v9 v10 _ => (intOf v10).toNat - (intOf v9).toNat)
  case atStart => exact ⟨0, t.length, Nat.zero_le _, Nat.le_refl _, rfl, rfl, fun k hk => absurd hk (by omega), fun k h1 h2 => absurd h2 (by omega), IsB.new _ _ _, bel1 _ _⟩
  case round =>
    obtain ⟨i, j, hij, hj, rfl, rfl, H1, H2, hI, hbw⟩ := hrel
    have hi0 : wr.cell? ⟨w.heap.size, 0, none⟩ = some (.int .u64 s) := by rw [hI.cell]; rfl
    have hi1 : wr.cell? ⟨w.heap.size, 1, none⟩ = some (.int .i64 z) := by rw [hI.cell]; rfl
    have hIl := hI.lt
    have hsz := hbw.size
    have HI := Lib.hid hI
    have Hbw := Lib.hid hbw
    clear hbw hI
    by_cases hlt : i < j
    · obtain ⟨b1, o1, rfl, hb1, _, hc1⟩ := Hr.out (by omega)
      have hbl : b1 < wr.heap.size := by omega
      obtain ⟨h, Hh⟩ : ∃ h : Nat, Hid (h = (i + j) / 2) := ⟨_, rfl⟩
      have hh1 : i ≤ h := by have := Hh.out; omega
      have hh2 : h < j := by have := Hh.out; omega
      have hh3 : h < t.length := by omega
      have He : Hid (((i : Int) + (j : Int)) / 2 = ((h : Nat) : Int)) := by have := Hh.out; unfold Hid; omega
      obtain ⟨p0, q0, HJ⟩ : ∃ p0 q0, Hid (t.getD h id0 = (p0, q0)) := ⟨_, _, rfl⟩
      have d0 : wr.cell? ⟨b1, o1 + h * 2, none⟩ = some (.int .u64 p0) := B_cell Hbw.out hb1 (hc1 h hh3 0 _ (by rw [HJ.out]; rfl))
      have d1 : wr.cell? ⟨b1, o1 + h * 2 + 1, none⟩ = some (.int .i64 q0) := B_cell Hbw.out hb1 (hc1 h hh3 1 _ (by rw [HJ.out]; rfl))
      have HV := Lib.hid (fun W => acmp_any p0 q0 s z W)
      clear hc1
      cases hc : ltID (p0, q0) (s, z) with
      | true =>
        have hr0 := cmpID_lt hc
        have N1 : Hid (∀ k, k < h + 1 → ltID (t.getD k id0) (s, z) = true) := by
          intro k hk
          rcases Nat.lt_or_ge k h with h1 | h1
          · have := asc_getD Ha.out hh3 h1
            rw [HJ.out] at this
            exact ltI_trans this hc
          · obtain rfl : k = h := by omega
            rw [HJ.out]
            exact hc
        generalize cmpID (p0, q0) (s, z) = r at HV hr0
        have hd : decide (r < 0) = true := by simp; omega
        clear hc
        go_wp2_with fail
        rw [He.out]
        refine wp_region_ext (by kernel_rfl) (by kernel_rfl) ?_
        repeat (go_big_quiet_step ((go_at_call 55; exact ext_call (HV.out _))))
        refine wpQuiet_nil ?_
        intro w2 hb2
        have Hb2 : Hid (Below w.heap.size w w2) := Hbw.out.trans (hb2.mono hsz)
        have HI2 : Hid (IsB w2 w.heap.size 36 #[.int .u64 s, .int .i64 z]) := HI.out.on hb2
        clear hb2
        go_wp2_with fail
        go_roundw
        case rel => exact ⟨h + 1, j, by omega, hj, by go_num, rfl, N1, H2, HI2.out, Hb2.out⟩
        case measure => simp [intOf]; omega
      | false =>
        have hr0 := cmpID_ge hc
        have N2 : Hid (∀ k, h ≤ k → k < t.length → ltID (t.getD k id0) (s, z) = false) := by
          intro k hk hkt
          rcases Nat.lt_or_ge h k with h1 | h1
          · have := asc_getD Ha.out hkt h1
            rw [HJ.out] at this
            cases hx : ltID (t.getD k id0) (s, z) with
            | false => rfl
            | true => rw [ltI_trans this hx] at hc; cases hc
          · obtain rfl : k = h := by omega
            rw [HJ.out]
            exact hc
        generalize cmpID (p0, q0) (s, z) = r at HV hr0
        have hd : decide (r < 0) = false := by simp; omega
        clear hc
        go_wp2_with fail
        rw [He.out]
        refine wp_region_ext (by kernel_rfl) (by kernel_rfl) ?_
        repeat (go_big_quiet_step ((go_at_call 55; exact ext_call (HV.out _))))
        refine wpQuiet_nil ?_
        intro w2 hb2
        have Hb2 : Hid (Below w.heap.size w w2) := Hbw.out.trans (hb2.mono hsz)
        have HI2 : Hid (IsB w2 w.heap.size 36 #[.int .u64 s, .int .i64 z]) := HI.out.on hb2
        clear hb2
        go_wp2_with fail
        go_roundw
        case rel => exact ⟨i, h, by omega, by omega, rfl, rfl, H1, N2, HI2.out, Hb2.out⟩
        case measure => simp [intOf]; omega
    · obtain rfl : i = j := by omega
      by_cases hlt2 : i < t.length
      · obtain ⟨b1, o1, rfl, hb1, _, hc1⟩ := Hr.out (by omega)
        have hbl : b1 < wr.heap.size := by omega
        obtain ⟨p0, q0, HJ⟩ : ∃ p0 q0, Hid (t.getD i id0 = (p0, q0)) := ⟨_, _, rfl⟩
        have d0 : wr.cell? ⟨b1, o1 + i * 2, none⟩ = some (.int .u64 p0) := B_cell Hbw.out hb1 (hc1 i hlt2 0 _ (by rw [HJ.out]; rfl))
        have d1 : wr.cell? ⟨b1, o1 + i * 2 + 1, none⟩ = some (.int .i64 q0) := B_cell Hbw.out hb1 (hc1 i hlt2 1 _ (by rw [HJ.out]; rfl))
        have HV := Lib.hid (fun W => acmp_any p0 q0 s z W)
        have hdl : decide (i < t.length) = true := by simp; omega
        clear hc1
        by_cases hz : cmpID (p0, q0) (s, z) = 0
        · have Hz := Lib.hid (cmpID_zero.1 hz)
          rw [hz] at HV
          clear hz
          go_wp2_with fail
          refine wp_region_ext (by kernel_rfl) (by kernel_rfl) ?_
          repeat (go_big_quiet_step ((go_at_call 55; exact ext_call (HV.out _))))
          refine wpQuiet_nil ?_
          intro w2 hb2
          have Hb2 : Hid (Below w.heap.size w w2) := Hbw.out.trans (hb2.mono hsz)
          clear hb2
          go_wp2_with fail
          go_ret2
          exact ⟨Hb2.out, .inl ⟨i, hlt2, by rw [HJ.out, Hz.out], rfl⟩⟩
        · have Hz : Hid ((p0, q0) ≠ (s, z)) := fun e => hz (cmpID_zero.2 e)
          have hz' := hz
          generalize cmpID (p0, q0) (s, z) = r at HV hz'
          have hbe : (r == 0) = false := by rw [beq_eq_false_iff_ne]; exact hz'
          clear hz hz'
          go_wp2_with fail
          refine wp_region_ext (by kernel_rfl) (by kernel_rfl) ?_
          repeat (go_big_quiet_step ((go_at_call 55; exact ext_call (HV.out _))))
          refine wpQuiet_nil ?_
          intro w2 hb2
          have Hb2 : Hid (Below w.heap.size w w2) := Hbw.out.trans (hb2.mono hsz)
          clear hb2
          go_wp2_with fail
          go_ret2
          exact ⟨Hb2.out, .inr ⟨i, bs_none Ha.out H1.out H2.out (fun _ => by rw [HJ.out]; exact Hz.out), rfl⟩⟩
      · have hdl : decide (i < t.length) = false := by simp; omega
        go_wp2_with fail
        refine wp_region_ext (by kernel_rfl) (by kernel_rfl) ?_
        repeat (go_big_quiet_step (fail))
        refine wpQuiet_nil ?_
        intro w2 hb2
        have Hb2 : Hid (Below w.heap.size w w2) := Hbw.out.trans (hb2.mono hsz)
        clear hb2
        go_wp2_with fail
        go_ret2
        exact ⟨Hb2.out, .inr ⟨i, bs_none Ha.out H1.out H2.out (fun h => absurd h hlt2), rfl⟩⟩

end Go.Proofs.YtmiknfneeipkeaaGreat
namespace Go.Proofs.YtmiknfneeipkeaaGreat
open Go.RowKit Go.MapKept Go.ChangeMaps Go.Shelf Go.Sort
attribute [local go_sem] wext_cell
theorem RowI.on' {w w' : World} {g : Nat} {X : List ID} (h : RowI w g X) (hb : Below w.heap.size w w') : RowI w' g X := h.on hb
section
variable {b : Nat} {w0 w w' : World} {l t : List Ob}
/-- An ID of a row of its own is written. -/
theorem SW.rwPut {g : Nat} {X : List ID} (h : SW b w0 (rwOb (some ⟨g, 0, none⟩) X :: t) w) (k : Nat) (hk : k < X.length) (x : ID) : SW b w0 (rwOb (some ⟨g, 0, none⟩) (X.set k x) :: t) ((w.setCell ⟨g, k * 2, none⟩ (.int .u64 x.1)).setCell ⟨g, k * 2 + 1, none⟩ (.int .i64 x.2)) := by
  obtain ⟨g', e, hr, hlt⟩ := (h.get 0 (o := rwOb (some ⟨g, 0, none⟩) X) rfl).2 _ rfl
  injection e with e
  subst e
  have hr2 := hr.put k hk x
  have hg : w.grownBy ((w.setCell ⟨g, k * 2, none⟩ (.int .u64 x.1)).setCell ⟨g, k * 2 + 1, none⟩ (.int .i64 x.2)) (some g) := by
    have h1 := grown_setCells (a := w) (g := g) [.int .u64 x.1, .int .i64 x.2] (k * 2) w ⟨rfl, rfl, rfl, Nat.le_refl _, fun _ _ _ => rfl⟩
    exact h1
  have := h.1.stepAt (w' := (w.setCell ⟨g, k * 2, none⟩ (.int .u64 x.1)).setCell ⟨g, k * 2 + 1, none⟩ (.int .i64 x.2)) (o' := rwOb (some ⟨g, 0, none⟩) (X.set k x)) 0 rfl ⟨hg.os, hg.tape, hg.output, hg.size, fun i hi hn' => hg.block i hi (fun e => hn' (by rw [Option.some.inj e]; rfl)), fun i hi => .inl hi⟩ (fun i hi => hi.elim) ⟨(fun e => by cases e), fun ad e => by injection e with e; exact ⟨g, e.symm, hr2, Nat.lt_of_lt_of_le hlt hg.size⟩⟩ (fun i hi => by
    rcases hi with hi | hi
    · have hi : (some ⟨g, 0, none⟩ : Option Addr) = some ⟨i, 0, none⟩ := hi
      injection hi with hi
      injection hi with hi
      rw [← hi]
      exact Nat.lt_of_lt_of_le hlt hg.size
    · exact hi.elim)
  exact ⟨this.1, h.2.trans this.2⟩
/-- The end of a row of its own is cleared. -/
theorem SW.rwCut {g : Nat} {X : List ID} (h : SW b w0 (rwOb (some ⟨g, 0, none⟩) X :: t) w) (k : Nat) (hk : k ≤ X.length) (L : List Value) : SW b w0 (rwOb (some ⟨g, 0, none⟩) (X.take k) :: t) (w.setCells g (k * 2) L) := by
  obtain ⟨g', e, hr, hlt⟩ := (h.get 0 (o := rwOb (some ⟨g, 0, none⟩) X) rfl).2 _ rfl
  injection e with e
  subst e
  have hr2 := hr.cleared hk L
  have hg : w.grownBy (w.setCells g (k * 2) L) (some g) := grown_setCells (a := w) (g := g) L (k * 2) w ⟨rfl, rfl, rfl, Nat.le_refl _, fun _ _ _ => rfl⟩
  have := h.1.stepAt (w' := w.setCells g (k * 2) L) (o' := rwOb (some ⟨g, 0, none⟩) (X.take k)) 0 rfl ⟨hg.os, hg.tape, hg.output, hg.size, fun i hi hn' => hg.block i hi (fun e => hn' (by rw [Option.some.inj e]; rfl)), fun i hi => .inl hi⟩ (fun i hi => hi.elim) ⟨(fun e => by cases e), fun ad e => by injection e with e; exact ⟨g, e.symm, hr2, Nat.lt_of_lt_of_le hlt hg.size⟩⟩ (fun i hi => by
    rcases hi with hi | hi
    · have hi : (some ⟨g, 0, none⟩ : Option Addr) = some ⟨i, 0, none⟩ := hi
      injection hi with hi
      injection hi with hi
      rw [← hi]
      exact Nat.lt_of_lt_of_le hlt hg.size
    · exact hi.elim)
  exact ⟨this.1, h.2.trans this.2⟩
theorem rw_cells {w : World} {g : Nat} {X : List ID} (h : (rwOb (some ⟨g, 0, none⟩) X).holds w) {j : Nat} (hj : j < X.length) {x : ID} (hx : X.getD j id0 = x) : w.cell? ⟨g, j * 2, none⟩ = some (.int .u64 x.1) ∧ w.cell? ⟨g, j * 2 + 1, none⟩ = some (.int .i64 x.2) ∧ w.frozen? ⟨g, j * 2, none⟩ = false ∧ w.frozen? ⟨g, j * 2 + 1, none⟩ = false := by
  obtain ⟨g', e, hr, _⟩ := h.2 _ rfl
  injection e with e
  subst e
  exact hr.cells hj hx
theorem rw_some {w : World} {A : Option Addr} {X : List ID} (h : (rwOb A X).holds w) (hp : 0 < X.length) : ∃ g, A = some ⟨g, 0, none⟩ := by
  cases A with
  | none =>
    rw [h.1 rfl] at hp
    cases hp
  | some ad =>
    obtain ⟨g', hg', _⟩ := h.2 _ rfl
    exact ⟨g', by rw [hg']⟩
/-- The closure of Freed: is an ID needed? -/
theorem needed_any {gb : Nat} {N : Option Addr} {ns : List ID} {nc : Nat} (h : SW b w0 l w) (hc : cellOb gb 31 #[.slice N ns.length nc] ∈ l) (hn : riOb N ns ∈ l) (ha : AscI ns) (hl : ns.length ≤ 1000000000) (x : ID) :
    Calls Tryz.prog 53 #[.agg #[.int .u64 x.1, .int .i64 x.2], vPtr gb] w (fun e w' => e = .returned (.bool (decide (x ∈ ns))) ∧ Below w.heap.size w w') := by
  have hcb : IsB w gb 31 #[.slice N ns.length nc] := h.1.holds _ hc
  have c0 : (w.alloc (.cells #[.int .u64 x.1, .int .i64 x.2] 36)).cell? ⟨gb, 0, none⟩ = some (.slice N ns.length nc) := (hcb.on (bel1q w _)).cell 0
  have HR := Lib.hid (rdID_of (h.1.holds (riOb N ns) hn))
  have HB := Lib.hid (Bs_any (w.alloc (.cells #[.int .u64 x.1, .int .i64 x.2] 36)).heap.size ns N nc x.1 x.2 (w.alloc (.cells #[.int .u64 x.1, .int .i64 x.2] 36)) (rd_top (HR.out.on (bel1q w _))) ha hl)
  clear h hc hn HR hcb
  obtain ⟨n, hn⟩ : ∃ n, Hid (ns.length = n) := ⟨_, rfl⟩
  rw [hn.out] at c0 HB
  go_enter Tryz.func53, Tryz.ntmps53
  go_wp2_with (go_at_call 54; (with_reducible refine HB.out.mono ?_); refine halt_ ?_)
  rintro e w2 ⟨hb, ⟨k, hk, hx, rfl⟩ | ⟨k, hx, rfl⟩⟩
  · have hm : decide (x ∈ ns) = true := decide_eq_true (by rw [show x = (x.1, x.2) from rfl, ← hx]; exact getD_mem _ _ _ hk)
    have HM := Lib.hid hm
    have H2 := Lib.hid ((bel1q w _).trans (hb.mono (by simp)))
    clear hb hm HB c0 hx
    go_wp2_with fail
    go_ret
    exact ⟨by rw [HM.out]; rfl, H2.out⟩
  · have hm : decide (x ∈ ns) = false := decide_eq_false hx
    have HM := Lib.hid hm
    have H2 := Lib.hid ((bel1q w _).trans (hb.mono (by simp)))
    clear hb hm HB c0 hx
    go_wp2_with fail
    go_ret
    exact ⟨by rw [HM.out]; rfl, H2.out⟩
/-- The first ID that is needed. -/
def IxPost (xs ns : List ID) (w : World) (e : Ending) (w' : World) : Prop :=
  Below w.heap.size w w' ∧ ((∃ k : Nat, k < xs.length ∧ e = .returned (.int .i64 k) ∧ xs.getD k id0 ∈ ns ∧ ∀ c ∈ xs.take k, ¬ c ∈ ns) ∨ ((∀ c ∈ xs, ¬ c ∈ ns) ∧ e = .returned (.int .i64 (-1))))
theorem lessR_all {xs ns : List ID} (h : ∀ c ∈ xs, ¬ c ∈ ns) : lessR xs ns = xs := by
  unfold lessR
  rw [List.filter_eq_self]
  intro c hc
  simp [h c hc]
theorem lessR_len (xs ns : List ID) : (lessR xs ns).length ≤ xs.length := List.length_filter_le _ _
theorem take_id {l : List ID} {k : Nat} (h : k < l.length) : l.take (k + 1) = l.take k ++ [l.getD k id0] := by
  rw [List.take_succ_eq_append_getElem h, List.getD_eq_getElem?_getD, List.getElem?_eq_getElem h]
  rfl
set_option maxHeartbeats 2000000 in
theorem Index_any {gb : Nat} {N : Option Addr} {ns : List ID} {nc : Nat} {A : Option Addr} {xs : List ID} (h : SW b w0 (rwOb A xs :: l) w) (hc : cellOb gb 31 #[.slice N ns.length nc] ∈ l) (hn : riOb N ns ∈ l) (ha : AscI ns) (hl : ns.length ≤ 1000000000) (hx : xs.length ≤ 1000000000) (c : Nat) :
    Calls Tryz.prog 105 #[.slice A xs.length c, .func (.func 53) #[] #[vPtr gb]] w (IxPost xs ns w) := by
  have S0 := Lib.hid h
  have HN := Lib.hid (fun (wr : World) (hs : SW b w0 (rwOb A xs :: l) wr) (x : ID) => needed_any hs (List.mem_cons_of_mem _ hc) (List.mem_cons_of_mem _ hn) ha hl x)
  clear h hc hn ha hl
  go_enter Tryz.func105, Tryz.ntmps105
  go_wp2_with fail
  go_loopw [8] (fun v8 wr => ∃ k : Nat, k ≤ xs.length ∧ v8 = .int .i64 k ∧ Hid (∀ c ∈ xs.take k, ¬ c ∈ ns) ∧ Below w.heap.size w wr) (fun v8 _ => xs.length - (intOf v8).toNat)
  case atStart => exact ⟨0, Nat.zero_le _, rfl, by simp [Hid], Below.refl _ _⟩
  case round =>
    obtain ⟨k, hk, rfl, Hk, hbw⟩ := hrel
    have hsz := hbw.size
    have Hbw := Lib.hid hbw
    have S1 := Lib.hid (S0.out.on hbw)
    clear hbw
    by_cases hlt : k < xs.length
    · obtain ⟨x, HX⟩ : ∃ x, Hid (xs.getD k id0 = x) := ⟨_, rfl⟩
      obtain ⟨g, hA⟩ := rw_some (S1.out.get 0 (o := rwOb A xs) rfl) (by omega)
      have S1' := S1.out
      rw [hA] at S1' ⊢
      obtain ⟨a0, a1, _, _⟩ := rw_cells (S1'.get 0 (o := rwOb (some ⟨g, 0, none⟩) xs) rfl) hlt HX.out
      have HH := Lib.hid (HN.out wr S1.out x)
      clear S1' hA
      go_wp2_with (go_at_call 53; (with_reducible refine HH.out.mono ?_); refine halt_ ?_)
      rintro e w2 ⟨rfl, hb2⟩
      have Hb2 : Hid (Below w.heap.size w w2) := Hbw.out.trans (hb2.mono hsz)
      clear hb2 HH a0 a1
      obtain ⟨v, hv⟩ : ∃ v, decide (x ∈ ns) = v := ⟨_, rfl⟩
      cases v with
      | true =>
        have HM := Lib.hid (of_decide_eq_true hv)
        rw [hv]
        clear hv
        go_wp2_with fail
        go_ret
        exact ⟨Hb2.out, .inl ⟨k, hlt, rfl, by rw [HX.out]; exact HM.out, Hk.out⟩⟩
      | false =>
        have HK : Hid (∀ c ∈ xs.take (k + 1), ¬ c ∈ ns) := by
          intro c hc
          rw [take_id hlt, HX.out] at hc
          rcases List.mem_append.1 hc with hc | hc
          · exact Hk.out c hc
          · rw [List.mem_singleton.1 hc]; exact of_decide_eq_false hv
        rw [hv]
        clear hv
        go_wp2_with fail
        go_roundw
        case rel => exact ⟨k + 1, by omega, by go_num, HK, Hb2.out⟩
        case measure => simp [intOf]; omega
    · obtain rfl : k = xs.length := by omega
      rw [List.take_length] at Hk
      go_wp2_with fail
      go_ret
      exact ⟨Hbw.out, .inr ⟨Hk.out, rfl⟩⟩
/-- Where DeleteFunc stands: i IDs are kept, j IDs read. -/
def DelRel (b : Nat) (w0 : World) (l : List Ob) (g i0 : Nat) (xs ns : List ID) (v5 v6 : Value) (wr : World) : Prop :=
  ∃ (j i : Nat) (X : List ID), i0 < j ∧ j ≤ xs.length ∧ i < j ∧ v5 = .int .i64 i ∧ v6 = .int .i64 j ∧ X.length = xs.length ∧ X.take i = lessR (xs.take j) ns ∧ (lessR (xs.take j) ns).length = i ∧ (∀ k, j ≤ k → k < xs.length → X.getD k id0 = xs.getD k id0) ∧ SW b w0 (rwOb (some ⟨g, 0, none⟩) X :: l) wr
set_option maxRecDepth 100000 in
set_option maxHeartbeats 8000000 in
theorem Delete_any {gb : Nat} {N : Option Addr} {ns : List ID} {nc : Nat} {A : Option Addr} {xs : List ID} (h : SW b w0 (rwOb A xs :: l) w) (hc : cellOb gb 31 #[.slice N ns.length nc] ∈ l) (hn : riOb N ns ∈ l) (ha : AscI ns) (hl : ns.length ≤ 1000000000) (hx : xs.length ≤ 1000000000) (c : Nat) (hxc : xs.length ≤ c) :
    Calls Tryz.prog 52 #[.slice A xs.length c, .func (.func 53) #[] #[vPtr gb]] w (fun e w' => ∃ c', e = .returned (.slice A (lessR xs ns).length c') ∧ (lessR xs ns).length ≤ c' ∧ SW b w0 (rwOb A (lessR xs ns) :: l) w') := by
  have S0 := Lib.hid h
  have HI := Lib.hid (Index_any h hc hn ha hl hx c)
  have HN := Lib.hid (fun (g : Nat) (X : List ID) (wr : World) (hs : SW b w0 (rwOb (some ⟨g, 0, none⟩) X :: l) wr) (x : ID) => needed_any hs (List.mem_cons_of_mem _ hc) (List.mem_cons_of_mem _ hn) ha hl x)
  clear h hc hn ha hl
  go_enter Tryz.func52, Tryz.ntmps52
  go_wp2_with (go_at_call 105; (with_reducible refine HI.out.mono ?_); refine halt_ ?_)
  rintro e w1 ⟨hb1, ⟨i0, hi0, rfl, hz, hall⟩ | ⟨hall, rfl⟩⟩
  · have S1 := Lib.hid (S0.out.on hb1)
    obtain ⟨g, hA⟩ := rw_some (S1.out.get 0 (o := rwOb A xs) rfl) (by omega)
    subst hA
    have HL0 : Hid (lessR (xs.take (i0 + 1)) ns = xs.take i0) := by
      unfold Hid
      rw [take_id hi0, lessR_snoc, if_pos hz, List.append_nil, lessR_all hall]
    have hneg : ((i0 : Int) == -1) = false := by rw [beq_eq_false_iff_ne]; omega
    clear hb1 hz hall S0 HI
    go_wp2_with fail
    go_loopw [5, 6] (fun v5 v6 wr => DelRel b w0 l g i0 xs ns v5 v6 wr) (fun _ v6 _ => xs.length - (intOf v6).toNat)
    case atStart => exact ⟨i0 + 1, i0, xs, by omega, by omega, by omega, rfl, by go_num, rfl, HL0.out.symm, by rw [HL0.out, List.length_take]; omega, fun k _ _ => rfl, S1.out⟩
    case round =>
      obtain ⟨j, i, X, hj0, hj, hij, rfl, rfl, hX, hti, hli, hrest, hs⟩ := hrel
      have HX := Lib.hid hX
      have Hti := Lib.hid hti
      have Hli := Lib.hid hli
      have Hrest := Lib.hid hrest
      have S2 := Lib.hid hs
      clear hX hti hli hrest hs S1
      by_cases hlt : j < xs.length
      · obtain ⟨x, HJ⟩ : ∃ x, Hid (xs.getD j id0 = x) := ⟨_, rfl⟩
        obtain ⟨d0, d1, _, _⟩ := rw_cells (S2.out.get 0 (o := rwOb (some ⟨g, 0, none⟩) X) rfl) (by rw [HX.out]; exact hlt) ((Hrest.out j (Nat.le_refl _) hlt).trans HJ.out)
        have SA : Hid (SW b w0 (rwOb (some ⟨g, 0, none⟩) X :: l) (wr.alloc (.cells #[.int .u64 x.1, .int .i64 x.2] 36))) := S2.out.alloc _
        have HH := Lib.hid (HN.out g X _ SA.out x)
        go_wp2_with (go_at_call 53; (with_reducible refine HH.out.mono ?_); refine halt_ ?_)
        rintro e w2 ⟨rfl, hb2⟩
        have S3 := Lib.hid (SA.out.on hb2)
        have HI2 : Hid (IsB w2 wr.heap.size 36 #[.int .u64 x.1, .int .i64 x.2]) := (IsB.new _ _ _).on hb2
        clear hb2 d0 d1 HH SA S2
        obtain ⟨v, hv⟩ : ∃ v, decide (x ∈ ns) = v := ⟨_, rfl⟩
        cases v with
        | true =>
          have HL : Hid (lessR (xs.take (j + 1)) ns = lessR (xs.take j) ns) := by rw [Hid, take_id hlt, lessR_snoc, HJ.out, if_pos (of_decide_eq_true hv), List.append_nil]
          rw [hv]
          clear hv
          go_wp2_with fail
          go_roundw
          case rel => exact ⟨j + 1, i, X, by omega, by omega, by omega, rfl, by go_num, HX.out, by rw [HL.out]; exact Hti.out, by rw [HL.out]; exact Hli.out, fun k h1 h2 => Hrest.out k (by omega) h2, S3.out⟩
          case measure => simp [intOf]; omega
        | false =>
          have HL : Hid (lessR (xs.take (j + 1)) ns = lessR (xs.take j) ns ++ [x]) := by rw [Hid, take_id hlt, lessR_snoc, HJ.out, if_neg (of_decide_eq_false hv)]
          have e0 : w2.cell? ⟨wr.heap.size, 0, none⟩ = some (.int .u64 x.1) := by rw [HI2.out.cell]; rfl
          have e1 : w2.cell? ⟨wr.heap.size, 1, none⟩ = some (.int .i64 x.2) := by rw [HI2.out.cell]; rfl
          obtain ⟨d0, d1, f0, f1⟩ := rw_cells (S3.out.get 0 (o := rwOb (some ⟨g, 0, none⟩) X) rfl) (j := i) (by rw [HX.out]; omega) rfl
          have S4 := Lib.hid (S3.out.rwPut i (by rw [HX.out]; omega) x)
          rw [hv]
          clear hv S3 HI2
          go_wp2_with fail
          go_roundw
          case rel =>
            refine ⟨j + 1, i + 1, X.set i x, by omega, by omega, by omega, by go_num, by go_num, by simp [HX.out], ?_, by rw [HL.out, List.length_append, Hli.out]; rfl, fun k k1 k2 => ?_, S4.out⟩
            · rw [HL.out, take_id (by simp [HX.out]; omega), List.take_set_of_le (Nat.le_refl _), Hti.out]
              congr 1
              rw [List.getD_eq_getElem?_getD, List.getElem?_set_self (by rw [HX.out]; omega)]
              rfl
            · rw [← Hrest.out k (by omega) k2, List.getD_eq_getElem?_getD, List.getD_eq_getElem?_getD, List.getElem?_set_ne (by omega)]
          case measure => simp [intOf]; omega
      · obtain rfl : j = xs.length := by omega
        rw [List.take_length] at Hti Hli
        have hil : i < xs.length := by omega
        have cells : ∀ k, k < (xs.length - i) * 2 → (wr.cell? ⟨g, i * 2 + k, none⟩).isSome = true ∧ wr.frozen? ⟨g, i * 2 + k, none⟩ = false := by
          intro k hk
          obtain ⟨d0, d1, f0, f1⟩ := rw_cells (S2.out.get 0 (o := rwOb (some ⟨g, 0, none⟩) X) rfl) (j := i + k / 2) (by rw [HX.out]; omega) rfl
          rcases (show k % 2 = 0 ∨ k % 2 = 1 by omega) with h2 | h2
          · rw [show i * 2 + k = (i + k / 2) * 2 by omega, d0]
            exact ⟨rfl, f0⟩
          · rw [show i * 2 + k = (i + k / 2) * 2 + 1 by omega, d1]
            exact ⟨rfl, f1⟩
        obtain ⟨L, hL⟩ := clear2 wr g (i * 2) (xs.length - i) (c - i) 0 (by omega) (fun k hk => (cells k hk).1) (fun k hk => (cells k hk).2)
        have hcl2 : ∀ ty, (Builtin.clear_ #[31] ty #[.slice (some ⟨g, i * 2, none⟩) (xs.length - i) (c - i)]).run Tryz.prog wr = .ok (.tuple #[]) (wr.setCells g (i * 2) L) := fun _ => hL
        have S3 := Lib.hid (S2.out.rwCut i (by rw [HX.out]; omega) L)
        rw [Hti.out] at S3
        have hcapi : i ≤ c := by omega
        have hcapi2 : xs.length ≤ c := hxc
        have hil2 : i ≤ xs.length := by omega
        clear cells hL S2
        go_wp2_with fail
        go_ret
        exact ⟨c, by rw [Hli.out]; rfl, by rw [Hli.out]; exact hcapi, S3.out⟩
  · have HL := Lib.hid (lessR_all hall)
    have S1 := Lib.hid (S0.out.on hb1)
    clear hb1 hall S0 HI
    go_wp2_with fail
    go_ret
    exact ⟨c, by rw [HL.out]; rfl, by rw [HL.out]; exact hxc, by rw [HL.out]; exact S1.out⟩
end
end Go.Proofs.YtmiknfneeipkeaaGreat
namespace Go.Proofs.YtmiknfneeipkeaaGreat
open Go.RowKit Go.MapKept Go.ChangeMaps Go.Shelf Go.Sort
attribute [local go_sem] wext_cell
def freeE (ms ns : List Man) : Int := if errM ms = 0 then errM ns else errM ms
def freeL (ms ns : List Man) : List ID := if errM ms = 0 ∧ errM ns = 0 then lessR (setR (idsOf ms)) (setR (idsOf ns)) else []
/-- What Freed returns. -/
abbrev FreeP (ms ns : List Man) (b : Nat) (w0 : World) (l : List Ob) (e : Ending) (w' : World) : Prop :=
  ∃ A c, e = .returned (.tuple #[.slice A (freeL ms ns).length c, .int .i64 (freeE ms ns)]) ∧ SW b w0 (riOb A (freeL ms ns) :: l) w'
theorem setR_small {ms : List Man} (he : errM ms = 0) (hn : ms.length ≤ 90) : (setR (idsOf ms)).length ≤ 92160 := by
  have h1 := setR_len (idsOf ms)
  have h2 := idsOf_len he
  omega
section
variable {b : Nat} {w0 w w' : World} {l t : List Ob}
theorem SW.noRi (h : SW b w0 l w) : SW b w0 (riOb none [] :: l) w := (h.newRow 36 2).rowRi (F := []) (A := none) (cap := 0)
set_option maxHeartbeats 2000000 in
theorem Freed_any (h : SW b w0 l w) {A B : Option Addr} {rs qs : List MR} {ms ns : List Man} (hm : imOb A rs ms ∈ l) (hk : imOb B qs ns ∈ l) (hn : ms.length ≤ 90) (hn2 : ns.length ≤ 90) (hi : ∀ m ∈ ms, m.ids.length ≤ 9223372036854775807) (hi2 : ∀ m ∈ ns, m.ids.length ≤ 9223372036854775807) (c d : Nat) :
    Calls Tryz.prog 14 #[.slice A ms.length c, .slice B ns.length d] w (FreeP ms ns b w0 l) := by
  have HM := Lib.hid hm
  have HK := Lib.hid hk
  have HI2 := Lib.hid hi2
  have HC := Lib.hid (chunksOf_any h hm (by omega) hi c)
  clear h hm hk hi hi2
  go_enter Tryz.func14, Tryz.ntmps14
  go_wp2_with (go_at_call 39; (with_reducible refine HC.out.mono ?_); refine halt_ ?_)
  rintro e w1 (⟨hE, A1, c1, rfl, hc1, s1⟩ | ⟨hE, rfl, s1⟩)
  · simp only [List.nil_append] at hc1 s1
    have HE := Lib.hid hE
    have S1 := Lib.hid s1
    have Hl1 := Lib.hid (setR_small hE hn)
    have HC2 := Lib.hid (chunksOf_any s1 (List.mem_cons_of_mem _ HK.out) (by omega) HI2.out d)
    clear HC s1 hE
    obtain ⟨xs, HX⟩ : ∃ xs, Hid (setR (idsOf ms) = xs) := ⟨_, rfl⟩
    simp only [List.nil_append]
    rw [HX.out] at S1 HC2 Hl1 hc1 ⊢
    go_wp2_with (go_at_call 39; (with_reducible refine HC2.out.mono ?_); refine halt_ ?_)
    rintro e w2 (⟨hE2, A2, c2, rfl, hc2, s2⟩ | ⟨hE2, rfl, s2⟩)
    · simp only [List.nil_append] at hc2 s2
      have HL : Hid (freeL ms ns = lessR xs (setR (idsOf ns))) := by rw [Hid, freeL, if_pos ⟨HE.out, hE2⟩, HX.out]
      have HF : Hid (freeE ms ns = 0) := by rw [Hid, freeE, if_pos HE.out, hE2]
      have Hl2 := Lib.hid (setR_small hE2 hn2)
      have Hst := Lib.hid (setR_strict (idsOf ns))
      clear HC2 hE2
      simp only [List.nil_append]
      obtain ⟨ys, HY⟩ : ∃ ys, Hid (setR (idsOf ns) = ys) := ⟨_, rfl⟩
      rw [HY.out] at s2 Hl2 hc2 HL Hst ⊢
      have S3 : Hid (SW b w0 (rwOb A1 xs :: cellOb w2.heap.size 31 #[.slice A2 ys.length c2] :: riOb A2 ys :: l) (w2.alloc (.cells #[.slice A2 ys.length c2] 31))) := SW.front (pre := [_, _, _]) (s2.rwRi.newCell 31 #[.slice A2 ys.length c2]) [2, 0, 1] (n := 3) rfl (by decide)
      have HD := Lib.hid (Delete_any S3.out (.head _) (.tail _ (.head _)) Hst.out (by have := Hl2.out; omega) (by have := Hl1.out; omega) c1 hc1)
      clear s2 S1
      go_wp2_with (go_at_call 52; (with_reducible refine HD.out.mono ?_); refine halt_ ?_)
      rintro e w3 ⟨c', rfl, hc', s3⟩
      have S4 := Lib.hid (SW.sub s3.rwRi (l' := riOb A1 (lessR xs ys) :: l) (.cons_cons _ (.cons _ (.cons _ (List.Sublist.refl _)))))
      clear s3 S3 HD
      go_wp2_with fail
      go_ret2
      exact ⟨A1, c', by rw [HL.out, HF.out]; rfl, by rw [HL.out]; exact S4.out⟩
    · have HL : Hid (freeL ms ns = []) := by rw [Hid, freeL, if_neg (fun h => hE2 h.2)]
      have HF : Hid (freeE ms ns = errM ns) := by rw [Hid, freeE, if_pos HE.out]
      have S2 := Lib.hid (s2.tail.noRi)
      have hbe : (errM ns != 0) = true := by rw [bne_iff_ne]; exact hE2
      clear HC2 hE2 s2 S1
      go_wp2_with fail
      go_ret2
      exact ⟨none, 0, by rw [HL.out, HF.out]; rfl, by rw [HL.out]; exact S2.out.alloc _⟩
  · have HL : Hid (freeL ms ns = []) := by rw [Hid, freeL, if_neg (fun h => hE h.1)]
    have HF : Hid (freeE ms ns = errM ms) := by rw [Hid, freeE, if_neg hE]
    have S2 := Lib.hid (s1.noRi)
    have hbe : (errM ms != 0) = true := by rw [bne_iff_ne]; exact hE
    clear HC hE s1
    go_wp2_with fail
    go_ret2
    exact ⟨none, 0, by rw [HL.out, HF.out]; rfl, by rw [HL.out]; exact S2.out⟩
set_option maxHeartbeats 2000000 in
theorem rFreed_any (h : SW b w0 l w) {A B : Option Addr} {rs qs : List MR} {ms ns : List Man} (hm : imOb A rs ms ∈ l) (hk : imOb B qs ns ∈ l) (hn : ms.length ≤ 90) (hn2 : ns.length ≤ 90) (hi : ∀ m ∈ ms, m.ids.length ≤ 9223372036854775807) (hi2 : ∀ m ∈ ns, m.ids.length ≤ 9223372036854775807) (c d : Nat) :
    Calls Tryz.prog 15 #[.slice A ms.length c, .slice B ns.length d] w (FreeP ms ns b w0 l) := by
  have HM := Lib.hid hm
  have HK := Lib.hid hk
  have HI2 := Lib.hid hi2
  have HC := Lib.hid (rLive_any h hm (by omega) hi none 0 [] Rd.nil (Nat.zero_le _) c)
  rw [List.length_nil] at HC
  clear h hm hk hi hi2
  go_enter Tryz.func15, Tryz.ntmps15
  go_wp2_with (go_at_call 45; (with_reducible refine HC.out.mono ?_); refine halt_ ?_)
  rintro e w1 (⟨hE, A1, c1, rfl, s1⟩ | ⟨hE, rfl, s1⟩)
  · simp only [List.nil_append] at s1
    have HE := Lib.hid hE
    have S1 := Lib.hid s1
    have Hl1 := Lib.hid (setR_small hE hn)
    have HC2 := Lib.hid (rLive_any s1 (List.mem_cons_of_mem _ HK.out) (by omega) HI2.out none 0 [] Rd.nil (Nat.zero_le _) d)
    rw [List.length_nil] at HC2
    clear HC s1 hE
    obtain ⟨xs, HX⟩ : ∃ xs, Hid (setR (idsOf ms) = xs) := ⟨_, rfl⟩
    simp only [List.nil_append]
    rw [HX.out] at S1 HC2 Hl1 ⊢
    go_wp2_with (go_at_call 45; (with_reducible refine HC2.out.mono ?_); refine halt_ ?_)
    rintro e w2 (⟨hE2, A2, c2, rfl, s2⟩ | ⟨hE2, rfl, s2⟩)
    · simp only [List.nil_append] at s2
      have HL : Hid (freeL ms ns = lessR xs (setR (idsOf ns))) := by rw [Hid, freeL, if_pos ⟨HE.out, hE2⟩, HX.out]
      have HF : Hid (freeE ms ns = 0) := by rw [Hid, freeE, if_pos HE.out, hE2]
      have Hl2 := Lib.hid (setR_small hE2 hn2)
      clear HC2 hE2
      simp only [List.nil_append]
      obtain ⟨ys, HY⟩ : ∃ ys, Hid (setR (idsOf ns) = ys) := ⟨_, rfl⟩
      rw [HY.out] at s2 Hl2 HL ⊢
      have HD := Lib.hid (rLess_any s2 (.tail _ (.head _)) (.head _) (by have := Hl1.out; omega) (by have := Hl2.out; omega) c1 c2)
      clear s2 S1
      go_wp2_with (go_at_call 56; (with_reducible refine HD.out.mono ?_); refine halt_ ?_)
      rintro e w3 ⟨A3, c3, rfl, s3⟩
      have S4 := Lib.hid (SW.sub s3 (l' := riOb A3 (lessR xs ys) :: l) (.cons_cons _ (.cons _ (.cons _ (List.Sublist.refl _)))))
      clear s3 HD
      go_wp2_with fail
      go_ret2
      exact ⟨A3, c3, by rw [HL.out, HF.out]; rfl, by rw [HL.out]; exact S4.out⟩
    · have HL : Hid (freeL ms ns = []) := by rw [Hid, freeL, if_neg (fun h => hE2 h.2)]
      have HF : Hid (freeE ms ns = errM ns) := by rw [Hid, freeE, if_pos HE.out]
      have S2 := Lib.hid (s2.tail.noRi)
      have hbe : (errM ns != 0) = true := by rw [bne_iff_ne]; exact hE2
      clear HC2 hE2 s2 S1
      go_wp2_with fail
      go_ret2
      exact ⟨none, 0, by rw [HL.out, HF.out]; rfl, by rw [HL.out]; exact S2.out⟩
  · have HL : Hid (freeL ms ns = []) := by rw [Hid, freeL, if_neg (fun h => hE h.1)]
    have HF : Hid (freeE ms ns = errM ms) := by rw [Hid, freeE, if_neg hE]
    have S2 := Lib.hid (s1.noRi)
    have hbe : (errM ms != 0) = true := by rw [bne_iff_ne]; exact hE
    clear HC hE s1
    go_wp2_with fail
    go_ret2
    exact ⟨none, 0, by rw [HL.out, HF.out]; rfl, by rw [HL.out]; exact S2.out⟩
end
end Go.Proofs.YtmiknfneeipkeaaGreat
namespace Go.Proofs
open Go.Shelf
def Tryz.lay166_ren : Go.Shelf.Ren := ⟨fun | 20 => 166 | n => n, fun | 22 => 78 | 24 => 85 | 25 => 145 | 3 => 3 | 0 => 0 | 4 => 4 | n => n, fun | n => n⟩
theorem Tryz.lay166 : Go.Proofs.SlLaysF0.n20 Tryz.prog Tryz.lay166_ren := {
  mixed := by kernel_rfl
  f20 := ⟨Tryz.f166.name, by decide, Tryz.func166.trans (congrArg some (by kernel_rfl))⟩
  t0 := Tryz.underlying0
  a0 := Tryz.isAgg0
  z0 := Tryz.sizeOf0
  v0 := Tryz.zeroValue0
  t3 := Tryz.underlying3
  a3 := Tryz.isAgg3
  z3 := Tryz.sizeOf3
  v3 := Tryz.zeroValue3
  t4 := Tryz.underlying4
  a4 := Tryz.isAgg4
  z4 := Tryz.sizeOf4
  v4 := Tryz.zeroValue4
  t22 := Tryz.underlying78
  a22 := Tryz.isAgg78
  z22 := Tryz.sizeOf78
  v22 := Tryz.zeroValue78
  t25 := Tryz.underlying145
  a25 := Tryz.isAgg145
  z25 := Tryz.sizeOf145
  v25 := Tryz.zeroValue145 }
end Go.Proofs
namespace Go.Proofs.YtmiknfneeipkeaaGreat
open Go.RowKit Go.MapKept Go.ChangeMaps Go.Shelf Go.Sort
attribute [local go_sem] wext_cell
/-- A content: its ID, its manifest as it lies. -/
abbrev CN := ID × MR
def encCN (e : CN) : List Value := [.int .u64 e.1.1, .int .i64 e.1.2, .int .i64 e.2.size, .slice e.2.A e.2.len e.2.cap]
def cn0 : CN := (id0, mr0)
theorem encCN_len (e : CN) : (encCN e).length = 4 := rfl
theorem encCN_one (e : CN) : ∀ u ∈ encCN e, u.oneCell' = true := by
  intro u hu
  simp [encCN] at hu
  rcases hu with rfl | rfl | rfl | rfl <;> rfl
instance : Inhabited CN := ⟨cn0⟩
def cmpCN (x y : CN) : Int := cmpID x.1 y.1
theorem swoCN : SWO (ltOf cmpCN) where
  irrefl x := swoID.irrefl x.1
  trans x y z h1 h2 := swoID.trans x.1 y.1 z.1 h1 h2
  ntrans x y z h1 h2 := swoID.ntrans x.1 y.1 z.1 h1 h2
set_option maxHeartbeats 1000000 in
theorem closure85 (x y : CN) (W : World) : Calls Tryz.prog 85 #[.agg (encCN x).toArray, .agg (encCN y).toArray] W fun e w' => e = .returned (.int .i64 (cmpCN x y)) ∧ ∃ q os', w' = grow (W.drewN q) os' := by
  obtain ⟨⟨x1, x2⟩, ⟨x3, x4, x5, x6⟩⟩ := x
  obtain ⟨⟨y1, y2⟩, ⟨y3, y4, y5, y6⟩⟩ := y
  have H := Lib.hid (fun W' => acmp_grow x1 x2 y1 y2 W')
  unfold cmpCN
  simp only [encCN]
  generalize cmpID (x1, x2) (y1, y2) = r at H ⊢
  go_enter Tryz.func85, Tryz.ntmps85
  go_wp2_with fail
  refine (H.out _).mono ?_
  rintro e w' ⟨rfl, q, os, rfl⟩
  go_wp2_with fail
  go_ret
  exact ⟨rfl, q, _, grow_grow2 W _ _ q os⟩
set_option maxHeartbeats 2000000 in
/-- Fewer than 20 elements: one block of the insertion sort. -/
theorem stable_walk (s fv : Value) (n : Nat) (hn : n < 20) (w : World) (R : World → Prop) (h : Calls Tryz.prog 166 #[s, .int .i64 0, .int .i64 (n : Int), fv] w (fun e w' => e = .returned (.tuple #[]) ∧ R w')) : Calls Tryz.prog 128 #[s, .int .i64 (n : Int), fv] w (fun e w' => e = .returned (.tuple #[]) ∧ R w') := by
  have H := Lib.hid h
  clear h
  go_enter Tryz.func128, Tryz.ntmps128
  go_wp2_with fail
  go_loop [7, 8] (fun v7 v8 => v7 = .int .i64 0 ∧ v8 = .int .i64 20) (fun _ _ => 0)
  case atStart => exact ⟨rfl, rfl⟩
  case round =>
    obtain ⟨rfl, rfl⟩ := hrel
    go_wp2_with (go_at_call 166; (with_reducible refine H.out.mono ?_); refine halt_ ?_)
    rintro e w1 rfl hR
    have HR := Lib.hid hR
    clear hR H
    go_wp2_with fail
    go_loopw [6] (fun v6 wr => v6 = .int .i64 20 ∧ wr = w1) (fun _ _ => 0)
    case atStart => exact ⟨rfl, rfl⟩
    case round =>
      obtain ⟨rfl, rfl⟩ := hrel
      go_wp2_with fail
      go_returns
      exact ⟨rfl, HR.out⟩
abbrev StableP (g n cap : Nat) (xs : List CN) (w : World) (w' : World) : Prop := ∃ d' m os, PermIn 0 xs.toArray.size xs.toArray d' ∧ SortedIn (ltOf cmpCN) 0 xs.toArray.size d' ∧ w' = sortWorldK encCN 4 w g 0 m d' os
set_option maxHeartbeats 1000000 in
theorem stable84 (s fv : Value) (n : Nat) (w : World) (R : World → Prop) (hlen : (Builtin.len_ #[78] 3 #[s]).run Tryz.prog w = .ok (.int .i64 (n : Int)) w) (h : Calls Tryz.prog 128 #[s, .int .i64 (n : Int), fv] w (fun e w' => e = .returned (.tuple #[]) ∧ R w')) : Calls Tryz.prog 84 #[s, fv] w (fun e w' => e = .returned (.tuple #[]) ∧ R w') := by
  have H := Lib.hid h
  clear h
  go_enter Tryz.func84, Tryz.ntmps84
  go_wp2_with (go_at_call 128; (with_reducible refine H.out.mono ?_); refine halt_ ?_)
  rintro e w1 ⟨rfl, hR⟩
  have HR := Lib.hid hR
  clear hR H
  go_wp2_with fail
  go_returns
  exact ⟨rfl, HR.out⟩
theorem sortCN_any (base g n cap : Nat) (xs : List CN) (w : World) (h : w.ownsRow base 85 4 (.slice (some ⟨g, 0, none⟩) n cap) n (xs.flatMap encCN)) (hn : xs.length < 20) :
    Calls Tryz.prog 84 #[.slice (some ⟨g, 0, none⟩) n cap, .func (.func 85) #[] #[]] w (SortOwn encCN 4 cmpCN base g n cap 85 xs w) := by
  have hg := h.lt g rfl
  have eg : ∀ args w, (callFunc 85 args).run Tryz.prog w = .ok (.enter 85 args) w := enters_of Tryz.func85 (by kernel_rfl) rfl
  have hins := AnyQ.insertionSortCmpFunc Tryz.lay166 4 Tryz.isAgg85 Tryz.sizeOf85 encCN (fun _ => rfl) encCN_one cmpCN 85 #[] g 0 cap 0 xs.toArray.size xs.toArray w eg (fun _ _ _ _ x y => closure85 x y _) (holdsK_of_own encCN_len (by omega) h) hg.2 (by omega) (Nat.le_refl _) (by simp; omega)
  have hps := insertionSort_holds (lt := ltOf cmpCN) swoCN xs.toArray 0 xs.toArray.size (by omega) (Nat.le_refl _)
  have h1 : Calls Tryz.prog 166 #[.slice (some ⟨g, 0, none⟩) xs.toArray.size cap, .int .i64 0, .int .i64 (xs.toArray.size : Int), .func (.func 85) #[] #[]] w (fun e w' => e = .returned (.tuple #[]) ∧ StableP g n cap xs w w') := hins.mono (fun e w' ⟨he, m, os, hw⟩ => ⟨he, _, m, os, hps.1, hps.2, hw⟩)
  exact sort_own encCN_len h (by omega) (stable84 _ _ _ w _ (by simp [Builtin.len_, run_underlying Tryz.underlying78, Result.andThen, goInt]) (stable_walk _ _ _ (by simpa using hn) w _ h1))
theorem sortCN_none (p : Option Addr) (cap : Nat) (w : World) : Calls Tryz.prog 84 #[.slice p 0 cap, .func (.func 85) #[] #[]] w fun e w' => e = .returned (.tuple #[]) ∧ w' = w :=
  stable84 _ _ 0 w _ (by simp [Builtin.len_, run_underlying Tryz.underlying78, Result.andThen, goInt]) (stable_walk _ _ 0 (by omega) w _ (AnyF.insertionSortCmpFunc_none Tryz.lay166 p cap _ w))
end Go.Proofs.YtmiknfneeipkeaaGreat
namespace Go.Proofs.YtmiknfneeipkeaaGreat
open Go.RowKit Go.MapKept Go.ChangeMaps Go.Shelf Go.Sort
attribute [local go_sem] wext_cell
set_option maxHeartbeats 2000000 in
theorem Equal_any (x y : Nat) (a b : List ID) (A B : Option Addr) (c d : Nat) (w : World) (ha : RdID w x A a) (hb : RdID w y B b) (hla : a.length ≤ 9223372036854775807) (hlb : b.length ≤ 9223372036854775807) :
    Calls Tryz.prog 86 #[.slice A a.length c, .slice B b.length d] w (Gives (.bool (decide (a = b))) w) := by
  have Ha := Lib.hid ha
  have Hb := Lib.hid hb
  clear ha hb
  by_cases hlen : a.length = b.length
  · have hbe : (a.length != b.length) = false := by simp [hlen]
    have hbi : (((a.length : Nat) : Int) != ((b.length : Nat) : Int)) = false := by simp [hlen]
    have Hlen := Lib.hid hlen
    clear hlen
    go_enter Tryz.func86, Tryz.ntmps86
    go_wp2_with fail
    go_loopw [13] (fun v wr => ∃ k : Nat, k ≤ a.length ∧ v = .int .i64 k ∧ Hid (a.take k = b.take k) ∧ Below w.heap.size w wr) (fun v _ => a.length - (intOf v).toNat)
    case atStart => exact ⟨0, Nat.zero_le _, rfl, rfl, Below.refl _ _⟩
    case round =>
      obtain ⟨k, hk, rfl, Hk, hbw⟩ := hrel
      have Hbw := Lib.hid hbw
      clear hbw
      by_cases hlt : k < a.length
      · have hlt' : k < b.length := by have := Hlen.out; omega
        obtain ⟨b1, o1, rfl, hb1, _, hc1⟩ := Ha.out (by omega)
        obtain ⟨b2, o2, rfl, hb2, _, hc2⟩ := Hb.out (by omega)
        obtain ⟨s0, s1, HI⟩ : ∃ s0 s1, Hid (a.getD k (0, 0) = (s0, s1)) := ⟨_, _, rfl⟩
        obtain ⟨r0, r1, HJ⟩ : ∃ r0 r1, Hid (b.getD k (0, 0) = (r0, r1)) := ⟨_, _, rfl⟩
        have p0 : wr.cell? ⟨b1, o1 + k * 2, none⟩ = some (.int .u64 s0) := B_cell Hbw.out hb1 (hc1 k hlt 0 _ (by rw [HI.out]; rfl))
        have q0 : wr.cell? ⟨b2, o2 + k * 2, none⟩ = some (.int .u64 r0) := B_cell Hbw.out hb2 (hc2 k hlt' 0 _ (by rw [HJ.out]; rfl))
        have p1 : wr.cell? ⟨b1, o1 + k * 2 + 1, none⟩ = some (.int .i64 s1) := B_cell Hbw.out hb1 (hc1 k hlt 1 _ (by rw [HI.out]; rfl))
        have q1 : wr.cell? ⟨b2, o2 + k * 2 + 1, none⟩ = some (.int .i64 r1) := B_cell Hbw.out hb2 (hc2 k hlt' 1 _ (by rw [HJ.out]; rfl))
        clear hc1 hc2
        by_cases e0 : s0 = r0
        · obtain rfl := e0
          by_cases e1 : s1 = r1
          · obtain rfl := e1
            go_wp2_with fail
            go_quiet (fail)
            go_wp2_with fail
            go_roundw
            case rel => exact ⟨k + 1, by omega, by go_num, take_both (d := (0, 0)) hlt hlt' Hk.out (by rw [HI.out, HJ.out]), bdrewN Hbw.out _⟩
            case measure => simp [intOf]; omega
          · have hne : (s1 == r1) = false := by rw [beq_eq_false_iff_ne]; exact e1
            have HF : Hid (decide (a = b) = false) := by
              unfold Hid
              rw [decide_eq_false_iff_not]
              exact ne_of_getD (0, 0) k (fun h => e1 (by rw [HI.out, HJ.out] at h; simp at h; omega))
            clear e1
            go_wp2_with fail
            go_quiet (fail)
            go_wp2_with fail
            go_ret
            exact gb HF.out (bdrewN Hbw.out _)
        · have hne : (s0 == r0) = false := by rw [beq_eq_false_iff_ne]; exact e0
          have HF : Hid (decide (a = b) = false) := by
            unfold Hid
            rw [decide_eq_false_iff_not]
            exact ne_of_getD (0, 0) k (fun h => e0 (by rw [HI.out, HJ.out] at h; simp at h; omega))
          clear e0
          go_wp2_with fail
          go_quiet (fail)
          go_wp2_with fail
          go_ret
          exact gb HF.out (bdrewN Hbw.out _)
      · obtain rfl : k = a.length := by omega
        have HT : Hid (decide (a = b) = true) := by
          unfold Hid
          rw [decide_eq_true_eq]
          exact eq_of_take Hlen.out Hk.out
        go_wp2_with fail
        go_ret
        exact gb HT.out Hbw.out
  · have hbe : (a.length != b.length) = true := by rw [bne_iff_ne]; exact hlen
    have hbi : (((a.length : Nat) : Int) != ((b.length : Nat) : Int)) = true := by rw [bne_iff_ne]; omega
    have HF : Hid (decide (a = b) = false) := by
      unfold Hid
      rw [decide_eq_false_iff_not]
      intro e
      exact hlen (by rw [e])
    clear hlen
    go_enter Tryz.func86, Tryz.ntmps86
    go_wp2_with fail
    go_ret
    exact gb HF.out (Below.refl _ _)
end Go.Proofs.YtmiknfneeipkeaaGreat
