/- Contracts: Sweep of the program (IndexFunc, DeleteFunc in place). -/
import Derived.Test.YtjglpmcekbjoaaaW
namespace Go.Proofs.Ytjglpmcekbjoaaa
open Go.RowKit Go.MapKept Go.ChangeMaps
attribute [local go_sem] wext_cell

set_option maxHeartbeats 1000000 in
theorem cl58_any (p q n : Int) (w : World) : Calls Try.prog 58 #[.agg #[.int .u64 p, .int .i64 q, .int .i64 n]] w (Gives (.bool (n == 0)) w) := by
  by_cases h : n = 0
  · subst h
    go_enter Try.func58, Try.ntmps58
    go_wp2_with fail
    go_ret
    exact ⟨rfl, bel1 _ _⟩
  · have hb : (n == 0) = false := by rw [beq_eq_false_iff_ne]; exact h
    rw [hb]
    clear h
    go_enter Try.func58, Try.ntmps58
    go_wp2_with fail
    go_ret
    exact ⟨rfl, bel1 _ _⟩

/-- The first row without references. -/
def IxPost (t : List CT) (w : World) (e : Ending) (w' : World) : Prop :=
  Below w.heap.size w w' ∧ ((∃ k : Nat, k < t.length ∧ e = .returned (.int .i64 k) ∧ (t.getD k ct0).2 = 0 ∧ ∀ c ∈ t.take k, c.2 ≠ 0) ∨ ((∀ c ∈ t, c.2 ≠ 0) ∧ e = .returned (.int .i64 (-1))))
set_option maxHeartbeats 2000000 in
theorem Index_any (x : Nat) (t : List CT) (A : Option Addr) (c : Nat) (w : World) (hr : RdC w x A t) (hn : t.length ≤ 4096) :
    Calls Try.prog 67 #[.slice A t.length c, .func (.func 58) #[] #[]] w (IxPost t w) := by
  have Hr := Lib.hid hr
  clear hr
  go_enter Try.func67, Try.ntmps67
  go_wp2_with fail
  go_loopw [8] (fun v8 wr => ∃ k : Nat, k ≤ t.length ∧ v8 = .int .i64 k ∧ Hid (∀ c ∈ t.take k, c.2 ≠ 0) ∧ Below w.heap.size w wr) (fun v8 _ => t.length - (intOf v8).toNat)
  case atStart => exact ⟨0, Nat.zero_le _, rfl, by simp [Hid], Below.refl _ _⟩
  case round =>
    obtain ⟨k, hk, rfl, Hk, hbw⟩ := hrel
    have hsz := hbw.size
    have Hbw := Lib.hid hbw
    clear hbw
    by_cases hlt : k < t.length
    · obtain ⟨b1, o1, rfl, hb1, _, hc1⟩ := Hr.out (by omega)
      obtain ⟨p0, q0, n0, HJ⟩ : ∃ p0 q0 n0, Hid (t.getD k ct0 = ((p0, q0), n0)) := ⟨_, _, _, rfl⟩
      have d0 : wr.cell? ⟨b1, o1 + k * 3, none⟩ = some (.int .u64 p0) := B_cell Hbw.out hb1 (hc1 k hlt 0 _ (by rw [HJ.out]; rfl))
      have d1 : wr.cell? ⟨b1, o1 + k * 3 + 1, none⟩ = some (.int .i64 q0) := B_cell Hbw.out hb1 (hc1 k hlt 1 _ (by rw [HJ.out]; rfl))
      have d2 : wr.cell? ⟨b1, o1 + k * 3 + 2, none⟩ = some (.int .i64 n0) := B_cell Hbw.out hb1 (hc1 k hlt 2 _ (by rw [HJ.out]; rfl))
      clear hc1
      go_wp2_with fail
      refine (cl58_any p0 q0 n0 _).mono ?_
      rintro e w1 ⟨rfl, hb1'⟩
      have Hb1 : Hid (Below w.heap.size w w1) := Hbw.out.trans (hb1'.mono hsz)
      clear hb1'
      by_cases hz : n0 = 0
      · have hbz : (n0 == 0) = true := by rw [beq_iff_eq]; exact hz
        have Hz := Lib.hid hz
        rw [hbz]
        clear hz hbz
        go_wp2_with fail
        go_ret
        exact ⟨Hb1.out, .inl ⟨k, hlt, rfl, by rw [HJ.out]; exact Hz.out, Hk.out⟩⟩
      · have hbz : (n0 == 0) = false := by rw [beq_eq_false_iff_ne]; exact hz
        have HN : Hid (∀ c ∈ t.take (k + 1), c.2 ≠ 0) := by
          intro c hc
          rw [take_snoc _ ct0 _ hlt, HJ.out] at hc
          rcases List.mem_append.1 hc with hc | hc
          · exact Hk.out c hc
          · simp at hc; subst hc; exact hz
        rw [hbz]
        clear hz hbz
        go_wp2_with fail
        go_roundw
        case rel => exact ⟨k + 1, by omega, by go_num, HN, Hb1.out⟩
        case measure => simp [intOf]; omega
    · obtain rfl : k = t.length := by omega
      rw [List.take_length] at Hk
      go_wp2_with fail
      go_ret
      exact ⟨Hbw.out, .inr ⟨Hk.out, rfl⟩⟩

theorem flat_set3 {xs : List CT} {k : Nat} (h : k < xs.length) (p q n : Int) : (((xs.flatMap encC).set (k * 3) (.int .u64 p)).set (k * 3 + 1) (.int .i64 q)).set (k * 3 + 2) (.int .i64 n) = (xs.set k ((p, q), n)).flatMap encC := by
  induction xs generalizing k with
  | nil => simp at h
  | cons c xs ih =>
    cases k with
    | zero => simp [encC]
    | succ k =>
      have := ih (k := k) (by simpa using h)
      rw [List.flatMap_cons, List.set_cons_succ, List.flatMap_cons, ← this, show (k + 1) * 3 = k * 3 + 3 by omega, show k * 3 + 3 + 1 = k * 3 + 1 + 3 by omega, show k * 3 + 3 + 2 = k * 3 + 2 + 3 by omega]
      simp [encC]
def liveN (t : List CT) : List CT := t.filter (fun c => !(c.2 == 0))
theorem liveN_snoc (t : List CT) (c : CT) : liveN (t ++ [c]) = if c.2 = 0 then liveN t else liveN t ++ [c] := by
  unfold liveN
  rw [List.filter_append]
  by_cases h : c.2 = 0 <;> simp [h]
theorem liveN_all {t : List CT} (h : ∀ c ∈ t, c.2 ≠ 0) : liveN t = t := by
  unfold liveN
  rw [List.filter_eq_self]
  intro c hc
  simpa using h c hc
theorem zero66 (w : World) : (zeroValue 66).run Try.prog w = .ok (.agg #[.int .u64 0, .int .i64 0, .int .i64 0]) w := by kernel_rfl
theorem clear3 (w : World) (b o n c : Nat) (ty : TypeId) (hn : 0 < n) (hc : ∀ j, j < n * 3 → (w.cell? ⟨b, o + j, none⟩).isSome = true) (hf : ∀ j, j < n * 3 → w.frozen? ⟨b, o + j, none⟩ = false) :
    ∃ L : List Value, (Builtin.clear_ #[28] ty #[.slice (some ⟨b, o, none⟩) n c]).run Try.prog w = .ok (.tuple #[]) (w.setCells b o L) := by
  refine ⟨(Builtin.zeroCells #[.int .u64 0, .int .i64 0, .int .i64 0] n).toList, ?_⟩
  have hlen : (Builtin.zeroCells #[.int .u64 0, .int .i64 0, .int .i64 0] n).toList.length = n * 3 := by simp [Builtin.zeroCells]
  have h1 : ∀ v ∈ (Builtin.zeroCells #[.int .u64 0, .int .i64 0, .int .i64 0] n).toList, v.oneCell' = true := by
    intro v hv
    simp [Builtin.zeroCells] at hv
    obtain ⟨i, hi, rfl⟩ := hv
    have : i % 3 = 0 ∨ i % 3 = 1 ∨ i % 3 = 2 := by omega
    rcases this with h | h | h <;> simp [h, Value.oneCell']
  have hst := run_storeCells_cells (P := Try.prog) b o (Builtin.zeroCells #[.int .u64 0, .int .i64 0, .int .i64 0] n).toList 0 w (by rw [hlen]; simpa using hc) (by rw [hlen]; simpa using hf) h1
  simp only [Nat.add_zero] at hst
  obtain ⟨m, rfl⟩ : ∃ m, n = m + 1 := ⟨n - 1, by omega⟩
  simp [Builtin.clear_, run_underlying Try.underlying28, Result.andThen, Value.cells, hst]
theorem below_setCells' {B b : Nat} {a : World} (hb : B ≤ b) : ∀ (vs : List Value) (o : Nat) (w : World), Below B a w → Below B a (w.setCells b o vs)
  | [], _, _, h => h
  | v :: r, o, _w, h => below_setCells' hb r (o + 1) _ (h.setCell hb v)
theorem getD_take {α : Type} (l : List α) (d : α) (k j : Nat) (h : j < k) : (l.take k).getD j d = l.getD j d := by
  rw [List.getD_eq_getElem?_getD, List.getD_eq_getElem?_getD, List.getElem?_take_of_lt h]
theorem setCells_size (b : Nat) : ∀ (vs : List Value) (o : Nat) (w : World), (w.setCells b o vs).heap.size = w.heap.size
  | [], _, _ => rfl
  | v :: r, o, w => by rw [World.setCells, setCells_size b r]; simp [World.setCell]

def DelPost (base x : Nat) (A : Option Addr) (t : List CT) (w : World) (e : Ending) (w' : World) : Prop :=
  ∃ c, e = .returned (.slice A (liveN t).length c) ∧ RdC w' x A (liveN t) ∧ (liveN t).length ≤ c ∧ Below base w w'
/-- Where DeleteFunc stands: i rows are kept, j rows read. -/
def DelRel (base g cR i0 : Nat) (t : List CT) (w : World) (v5 v6 : Value) (wr : World) : Prop :=
  ∃ (j i : Nat) (X : List CT), i0 < j ∧ j ≤ t.length ∧ i < j ∧ v5 = .int .i64 i ∧ v6 = .int .i64 j ∧ X.length = t.length ∧ X.take i = liveN (t.take j) ∧ (liveN (t.take j)).length = i ∧ (∀ k, j ≤ k → k < t.length → X.getD k ct0 = t.getD k ct0) ∧
    wr.ownsRow base 66 3 (.slice (some ⟨g, 0, none⟩) t.length cR) t.length (X.flatMap encC) ∧ Below base w wr

set_option maxRecDepth 100000 in
set_option maxHeartbeats 8000000 in
theorem Delete_any (base x : Nat) (t : List CT) (A : Option Addr) (cR : Nat) (w : World) (hown : w.ownsRow base 66 3 (.slice A t.length cR) t.length (t.flatMap encC)) (hx : x < base) (hbase : base ≤ w.heap.size) (hn : t.length ≤ 4096) :
    Calls Try.prog 57 #[.slice A t.length cR, .func (.func 58) #[] #[]] w (DelPost base x A t w) := by
  have Hown := Lib.hid hown
  have Hrd := Lib.hid (Rd.of_own (x := x) (d := ct0) encC_len (by omega) hown hx).2
  have hcap := own_cap hown
  clear hown
  go_enter Try.func57, Try.ntmps57
  go_wp2_with fail
  refine (Index_any x t A cR _ Hrd.out hn).mono ?_
  rintro e w1 ⟨hb1, ⟨i0, hi0, rfl, hz, hall⟩ | ⟨hall, rfl⟩⟩
  · have Hb1 : Hid (Below base w w1) := hb1.mono hbase
    have hs1 := hb1.size
    obtain ⟨g, cap, hv, hgb, hgl⟩ := Hown.out.form (by omega)
    injection hv with hv1 hv2 hv3
    subst hv1 hv3
    have Hown1 : Hid (w1.ownsRow base 66 3 (.slice (some ⟨g, 0, none⟩) t.length cR) t.length (t.flatMap encC)) := own_on Hown.out hb1
    have HL0 : Hid (liveN (t.take (i0 + 1)) = t.take i0) := by
      unfold Hid
      rw [take_snoc _ ct0 _ hi0, liveN_snoc, if_pos hz, liveN_all hall]
    have hneg : ((i0 : Int) == -1) = false := by rw [beq_eq_false_iff_ne]; omega
    clear hb1 hz hall hv2
    go_wp2_with fail
    go_loopw [5, 6] (fun v5 v6 wr => DelRel base g cR i0 t w v5 v6 wr) (fun _ v6 _ => t.length - (intOf v6).toNat)
    case atStart => exact ⟨i0 + 1, i0, t, by omega, by omega, by omega, rfl, by go_num, rfl, HL0.out.symm, by rw [HL0.out, List.length_take]; omega, fun k _ _ => rfl, Hown1.out, Hb1.out⟩
    case round =>
      obtain ⟨j, i, X, hj0, hj, hij, rfl, rfl, hX, hti, hli, hrest, hown, hbw⟩ := hrel
      have HX := Lib.hid hX
      have Hti := Lib.hid hti
      have Hli := Lib.hid hli
      have Hrest := Lib.hid hrest
      have HO := Lib.hid hown
      have Hbw := Lib.hid hbw
      have hsz := hbw.size
      have hglw : g < wr.heap.size := by omega
      clear hX hti hli hrest hown hbw
      by_cases hlt : j < t.length
      · obtain ⟨p0, q0, n0, HJ⟩ : ∃ p0 q0 n0, Hid (t.getD j ct0 = ((p0, q0), n0)) := ⟨_, _, _, rfl⟩
        have cell : ∀ k v, k < 3 → (encC ((p0, q0), n0))[k]? = some v → wr.cell? ⟨g, j * 3 + k, none⟩ = some v := by
          intro k v hk3 hv
          rw [HO.out.cellAt (j * 3 + k) (by omega), flat_at encC_len ct0 _ j k (by rw [HX.out]; omega) hk3, Hrest.out j (Nat.le_refl _) hlt, HJ.out]
          exact hv
        have d0 : wr.cell? ⟨g, j * 3, none⟩ = some (.int .u64 p0) := cell 0 _ (by omega) rfl
        have d1 : wr.cell? ⟨g, j * 3 + 1, none⟩ = some (.int .i64 q0) := cell 1 _ (by omega) rfl
        have d2 : wr.cell? ⟨g, j * 3 + 2, none⟩ = some (.int .i64 n0) := cell 2 _ (by omega) rfl
        clear cell
        go_wp2_with fail
        refine (cl58_any p0 q0 n0 _).mono ?_
        rintro e w2 ⟨rfl, hb2⟩
        have HO2 : Hid (w2.ownsRow base 66 3 (.slice (some ⟨g, 0, none⟩) t.length cR) t.length (X.flatMap encC)) := own_on (HO.out.alloc _) hb2
        have HI2 : Hid (IsB w2 wr.heap.size 66 #[.int .u64 p0, .int .i64 q0, .int .i64 n0]) := (IsB.new _ _ _).on hb2
        have Hb2 : Hid (Below base w w2) := (Hbw.out.alloc (by omega) _).trans (hb2.mono (by simp; omega))
        have hs2 : wr.heap.size + 1 ≤ w2.heap.size := by simpa using hb2.size
        clear hb2 d0 d1 d2
        by_cases hz : n0 = 0
        · have hbz : (n0 == 0) = true := by rw [beq_iff_eq]; exact hz
          have HL : Hid (liveN (t.take (j + 1)) = liveN (t.take j)) := by rw [Hid, take_snoc _ ct0 _ hlt, liveN_snoc, HJ.out, if_pos hz]
          rw [hbz]
          clear hz hbz
          go_wp2_with fail
          go_roundw
          case rel => exact ⟨j + 1, i, X, by omega, by omega, by omega, rfl, by go_num, HX.out, by rw [HL.out]; exact Hti.out, by rw [HL.out]; exact Hli.out, fun k h1 h2 => Hrest.out k (by omega) h2, HO2.out, Hb2.out⟩
          case measure => simp [intOf]; omega
        · have hbz : (n0 == 0) = false := by rw [beq_eq_false_iff_ne]; exact hz
          have HL : Hid (liveN (t.take (j + 1)) = liveN (t.take j) ++ [((p0, q0), n0)]) := by rw [Hid, take_snoc _ ct0 _ hlt, liveN_snoc, HJ.out, if_neg hz]
          have e0 : w2.cell? ⟨wr.heap.size, 0, none⟩ = some (.int .u64 p0) := by rw [HI2.out.cell]; rfl
          have e1 : w2.cell? ⟨wr.heap.size, 1, none⟩ = some (.int .i64 q0) := by rw [HI2.out.cell]; rfl
          have e2 : w2.cell? ⟨wr.heap.size, 2, none⟩ = some (.int .i64 n0) := by rw [HI2.out.cell]; rfl
          have some_ : ∀ k, k < t.length * 3 → (w2.cell? ⟨g, k, none⟩).isSome = true := by
            intro k hk
            rw [HO2.out.cellAt k hk]
            have : k < (X.flatMap encC).length := by rw [flat_len encC_len, HX.out]; exact hk
            rw [List.getElem?_eq_getElem this]
            rfl
          obtain ⟨y0, h0⟩ := Option.isSome_iff_exists.1 (some_ (i * 3) (by omega))
          obtain ⟨y1, h1⟩ := Option.isSome_iff_exists.1 (some_ (i * 3 + 1) (by omega))
          obtain ⟨y2, h2⟩ := Option.isSome_iff_exists.1 (some_ (i * 3 + 2) (by omega))
          have f0 : w2.frozen? ⟨g, i * 3, none⟩ = false := HO2.out.frozenAt _
          have f1 : w2.frozen? ⟨g, i * 3 + 1, none⟩ = false := HO2.out.frozenAt _
          have f2 : w2.frozen? ⟨g, i * 3 + 2, none⟩ = false := HO2.out.frozenAt _
          have hilt : i < t.length := by omega
          have Hset : Hid ((((w2.setCell ⟨g, i * 3, none⟩ (.int .u64 p0)).setCell ⟨g, i * 3 + 1, none⟩ (.int .i64 q0)).setCell ⟨g, i * 3 + 2, none⟩ (.int .i64 n0)).ownsRow base 66 3 (.slice (some ⟨g, 0, none⟩) t.length cR) t.length ((X.set i ((p0, q0), n0)).flatMap encC)) := by
            unfold Hid
            rw [← flat_set3 (by rw [HX.out]; omega)]
            exact ((((HO2.out.stored (i * 3) (.int .u64 p0)).1).stored (i * 3 + 1) (.int .i64 q0)).1.stored (i * 3 + 2) (.int .i64 n0)).1
          have Hbs : Hid (Below base w (((w2.setCell ⟨g, i * 3, none⟩ (.int .u64 p0)).setCell ⟨g, i * 3 + 1, none⟩ (.int .i64 q0)).setCell ⟨g, i * 3 + 2, none⟩ (.int .i64 n0))) := ((Hb2.out.setCell (by simpa using hgb) _).setCell (by simpa using hgb) _).setCell (by simpa using hgb) _
          rw [hbz]
          clear hz hbz some_
          go_wp2_with fail
          go_roundw
          case rel =>
            refine ⟨j + 1, i + 1, X.set i ((p0, q0), n0), by omega, by omega, by omega, by go_num, by go_num, by simp [HX.out], ?_, by rw [HL.out, List.length_append, Hli.out]; rfl, fun k k1 k2 => ?_, Hset.out, Hbs.out⟩
            · rw [HL.out, take_snoc _ ct0 _ (by simp [HX.out]; omega), List.take_set_of_le (Nat.le_refl _), Hti.out]
              congr 1
              rw [List.getD_eq_getElem?_getD, List.getElem?_set_self (by rw [HX.out]; omega)]
              rfl
            · rw [← Hrest.out k (by omega) k2, List.getD_eq_getElem?_getD, List.getD_eq_getElem?_getD, List.getElem?_set_ne (by omega)]
          case measure => simp [intOf]; omega
      · obtain rfl : j = t.length := by omega
        rw [List.take_length] at Hti Hli
        have hil : i < t.length := by omega
        have cells : ∀ k, k < (t.length - i) * 3 → (wr.cell? ⟨g, i * 3 + k, none⟩).isSome = true := by
          intro k hk
          rw [HO.out.cellAt (i * 3 + k) (by omega)]
          have : i * 3 + k < (X.flatMap encC).length := by rw [flat_len encC_len, HX.out]; omega
          rw [List.getElem?_eq_getElem this]
          rfl
        have hcl := fun ty => clear3 wr g (i * 3) (t.length - i) (cR - i) ty (by omega) cells (fun k _ => HO.out.frozenAt _)
        obtain ⟨L, hL⟩ := hcl 0
        have hcl2 : ∀ ty, (Builtin.clear_ #[28] ty #[.slice (some ⟨g, i * 3, none⟩) (t.length - i) (cR - i)]).run Try.prog wr = .ok (.tuple #[]) (wr.setCells g (i * 3) L) := fun _ => hL
        have HRd : Hid (RdC (wr.setCells g (i * 3) L) x (some ⟨g, 0, none⟩) (liveN t)) := by
          intro _
          refine ⟨g, 0, rfl, by rw [setCells_size]; exact hglw, by omega, fun k hk a v hv => ?_⟩
          have ha3 : a < 3 := by
            have := (List.getElem?_eq_some_iff.1 hv).1
            rwa [encC_len] at this
          rw [Hli.out] at hk
          rw [World.cell?_setCells_out g L (i * 3) wr _ (fun _ _ => .inl (by simp only; omega)), Nat.zero_add, HO.out.cellAt (k * 3 + a) (by omega), flat_at encC_len ct0 X k a (by rw [HX.out]; omega) ha3]
          rw [← Hti.out, getD_take _ _ _ _ hk] at hv
          exact hv
        have Hbc : Hid (Below base w (wr.setCells g (i * 3) L)) := below_setCells' hgb _ _ _ Hbw.out
        have hcapi : i ≤ cR := by omega
        have hcapi2 : t.length ≤ cR := hcap
        have hil2 : i ≤ t.length := by omega
        clear cells hcl hL
        go_wp2_with fail
        go_ret
        refine ⟨cR, by rw [Hli.out]; rfl, HRd.out, by rw [Hli.out]; exact hcapi, Hbc.out⟩
  · have Hb1 : Hid (Below base w w1) := hb1.mono hbase
    have HL := Lib.hid (liveN_all hall)
    have Hr1 : Hid (RdC w1 x A t) := Hrd.out.on hb1
    clear hb1 hall
    go_wp2_with fail
    go_ret
    exact ⟨cR, by rw [HL.out]; rfl, by rw [HL.out]; exact Hr1.out, by rw [HL.out]; exact hcap, Hb1.out⟩

set_option maxHeartbeats 2000000 in
theorem Sweep_any (x : Nat) (t : List CT) (A : Option Addr) (c : Nat) (w : World) (hr : RdC w x A t) (hx : x < w.heap.size) (hn : t.length ≤ 9223372036854775807) :
    Calls Try.prog 37 #[.slice A t.length c] w (OneC x (sweepP t) w) := by
  have Hr := Lib.hid hr
  clear hr
  obtain ⟨l, Hl⟩ : ∃ l, Hid (sweepP t = l) := ⟨_, rfl⟩
  rw [Hl.out]
  go_enter Try.func37, Try.ntmps37
  go_wp2_with fail
  refine (Check_any x t A c _ Hr.out hn).mono ?_
  rintro e w1 ⟨rfl, hb1⟩
  have Hb1 := Lib.hid hb1
  have hs1 := hb1.size
  clear hb1
  by_cases hE : tblE t = 0
  · have hl := Hl.out
    rw [sweepP, if_pos hE] at hl
    have HL : Hid (liveN t = l) := hl
    have hl4 := ((tblE_iff t).1 hE).1
    rw [hE]
    clear hE hl
    go_wp2_with fail
    refine (Clone_any x t A c _ (Hr.out.on Hb1.out) (by omega)).mono ?_
    rintro e w2 ⟨R, cR, rfl, hown, hb2⟩
    have Hown := Lib.hid hown
    have Hb2 : Hid (Below w.heap.size w w2) := Hb1.out.trans (hb2.mono hs1)
    have hs2 := hb2.size
    clear hown hb2
    go_wp2_with fail
    refine (Delete_any w1.heap.size x t R cR _ Hown.out (by omega) hs2 hl4).mono ?_
    rintro e w3 ⟨c3, rfl, hr3, hc3, hb3⟩
    rw [HL.out] at hr3 hc3 ⊢
    have Hr3 := Lib.hid hr3
    have Hb3 : Hid (Below w.heap.size w w3) := Hb2.out.trans (hb3.mono hs1)
    clear hr3 hb3
    go_wp2_with fail
    go_ret
    exact ⟨R, c3, rfl, Hr3.out, hc3, Hb3.out⟩
  · have hl := Hl.out
    rw [sweepP, if_neg hE] at hl
    have HQ := Lib.hid hl.symm
    have hbe : (tblE t != 0) = true := by rw [bne_iff_ne]; exact hE
    clear hE hl
    go_wp2_with fail
    go_ret
    exact oneC_nil HQ.out Hb1.out
end Go.Proofs.Ytjglpmcekbjoaaa
