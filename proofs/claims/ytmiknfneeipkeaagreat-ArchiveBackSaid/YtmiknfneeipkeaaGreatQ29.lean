/- Contracts of the walk, part 29. -/
import Derived.Test.YtmiknfneeipkeaaGreatQ28
import Derived.Test.YtmiknfneeipkeaaGreatQ18
import Derived.Test.YtmiknfneeipkeaaGreatQ22
namespace Go.Proofs.YtmiknfneeipkeaaGreat
open Go.RowKit Go.MapKept Go.ChangeMaps Go.Shelf Go.Sort
attribute [local go_sem] wext_cell
set_option maxRecDepth 100000 in
set_option maxHeartbeats 4000000 in
theorem cl67_any (p0 q0 : Int) (A : Option Addr) (n c : Nat) (s z : Int) (w : World) : Calls Tryz.prog 67 #[.agg #[.int .u64 p0, .int .i64 q0, .slice A n c], .agg #[.int .u64 s, .int .i64 z]] w (Gives (.int .i64 (cmpID (p0, q0) (s, z))) w) := by
  have HV := Lib.hid (fun W => acmp_any p0 q0 s z W)
  have HB : Hid (Below w.heap.size w ((w.alloc (.cells #[.int .u64 p0, .int .i64 q0, .slice A n c] 42)).alloc (.cells #[.int .u64 s, .int .i64 z] 36))) := (bel1 w _).alloc (by simp) _
  generalize cmpID (p0, q0) (s, z) = r at HV ⊢
  go_enter Tryz.func67, Tryz.ntmps67
  go_wp2_with (go_at_call 55; (with_reducible refine (HV.out _).mono ?_); refine halt_ ?_)
  rintro e w2 ⟨rfl, hb2⟩
  have H2 := Lib.hid (HB.out.trans (hb2.mono (by simp; omega)))
  clear hb2 HV HB
  go_wp2_with fail
  go_ret
  exact ⟨rfl, H2.out⟩
set_option maxRecDepth 100000 in
set_option maxHeartbeats 8000000 in
theorem BsC_any (x : Nat) (T : List CH) (A : Option Addr) (c : Nat) (s z : Int) (w : World) (hr : Rd encCH 3 ch0 w x A T) (ha : AscI (T.map (·.1))) (hn : T.length ≤ 1000000000) :
    Calls Tryz.prog 66 #[.slice A T.length c, .agg #[.int .u64 s, .int .i64 z], .func (.func 67) #[] #[]] w (BsPost (T.map (·.1)) (s, z) w) := by
  obtain ⟨t, HT⟩ : ∃ x, Hid (T.map (·.1) = x) := ⟨_, rfl⟩
  have htl : T.length = t.length := by rw [← HT.out, List.length_map]
  have HG : Hid (∀ j, j < t.length → t.getD j id0 = (T.getD j ch0).1) := fun j hj => by
    have hj' : j < T.length := by omega
    rw [← HT.out]
    simp [List.getD_eq_getElem?_getD, List.getElem?_eq_getElem hj']
  rw [HT.out] at ha ⊢
  rw [htl] at hn ⊢
  have Hr : Hid (0 < t.length → ∃ b o, A = some ⟨b, o, none⟩ ∧ b < w.heap.size ∧ b ≠ x ∧ ∀ j, j < t.length → ∀ i v, (encCH (T.getD j ch0))[i]? = some v → w.cell? ⟨b, o + j * 3 + i, none⟩ = some v) := fun hp => by
    obtain ⟨b, o, h1, h2, h3, h4⟩ := hr (by omega)
    exact ⟨b, o, h1, h2, h3, fun j hj => h4 j (by omega)⟩
  have Ha := Lib.hid ha
  clear hr ha htl HT
  go_enter Tryz.func66, Tryz.ntmps66
  go_wp2_with fail
  go_loopw [9, 10] (fun v9 v10 wr => ∃ i j : Nat, i ≤ j ∧ j ≤ t.length ∧ v9 = .int .i64 i ∧ v10 = .int .i64 j ∧ Hid (∀ k, k < i → ltID (t.getD k id0) (s, z) = true) ∧ Hid (∀ k, j ≤ k → k < t.length → ltID (t.getD k id0) (s, z) = false) ∧ IsB wr w.heap.size 36 #[.int .u64 s, .int .i64 z] ∧ Below w.heap.size w wr) (fun v9 v10 _ => (intOf v10).toNat - (intOf v9).toNat)
  case atStart => exact ⟨0, t.length, Nat.zero_le _, Nat.le_refl _, rfl, rfl, fun k hk => absurd hk (by omega), fun k h1 h2 => absurd h2 (by omega), IsB.new _ _ _, bel1 _ _⟩
  case round =>
    obtain ⟨i, j, hij, hj, rfl, rfl, H1, H2, hI, hbw⟩ := hrel
    have hi0 : wr.cell? ⟨w.heap.size, 0, none⟩ = some (.int .u64 s) := by rw [hI.cell]; rfl
    have hi1 : wr.cell? ⟨w.heap.size, 1, none⟩ = some (.int .i64 z) := by rw [hI.cell]; rfl
    have hIl := hI.lt
    have hsz := hbw.size
    have HI := Lib.hid hI
    have Hbw := Lib.hid hbw
    clear hbw hI
    by_cases hlt : i < j
    · obtain ⟨b1, o1, rfl, hb1, _, hc1⟩ := Hr.out (by omega)
      have hbl : b1 < wr.heap.size := by omega
      obtain ⟨h, Hh⟩ : ∃ h : Nat, Hid (h = (i + j) / 2) := ⟨_, rfl⟩
      have hh1 : i ≤ h := by have := Hh.out; omega
      have hh2 : h < j := by have := Hh.out; omega
      have hh3 : h < t.length := by omega
      have He : Hid (((i : Int) + (j : Int)) / 2 = ((h : Nat) : Int)) := by have := Hh.out; unfold Hid; omega
      obtain ⟨⟨⟨p0, q0⟩, ev⟩, HJT⟩ : ∃ x, Hid (T.getD h ch0 = x) := ⟨_, rfl⟩
      have HJ : Hid (t.getD h id0 = (p0, q0)) := by rw [Hid, HG.out h hh3, HJT.out]
      have d0 : wr.cell? ⟨b1, o1 + h * 3, none⟩ = some (.int .u64 p0) := B_cell Hbw.out hb1 (hc1 h hh3 0 _ (by rw [HJT.out]; rfl))
      have d1 : wr.cell? ⟨b1, o1 + h * 3 + 1, none⟩ = some (.int .i64 q0) := B_cell Hbw.out hb1 (hc1 h hh3 1 _ (by rw [HJT.out]; rfl))
      have d2 : wr.cell? ⟨b1, o1 + h * 3 + 2, none⟩ = some (.slice ev.d.A ev.d.len ev.d.cap) := B_cell Hbw.out hb1 (hc1 h hh3 2 _ (by rw [HJT.out]; rfl))
      have HV := Lib.hid (fun W => cl67_any p0 q0 ev.d.A ev.d.len ev.d.cap s z W)
      clear hc1
      cases hc : ltID (p0, q0) (s, z) with
      | true =>
        have hr0 := cmpID_lt hc
        have N1 : Hid (∀ k, k < h + 1 → ltID (t.getD k id0) (s, z) = true) := by
          intro k hk
          rcases Nat.lt_or_ge k h with h1 | h1
          · have := asc_getD Ha.out hh3 h1
            rw [HJ.out] at this
            exact ltI_trans this hc
          · obtain rfl : k = h := by omega
            rw [HJ.out]
            exact hc
        generalize cmpID (p0, q0) (s, z) = r at HV hr0
        have hd : decide (r < 0) = true := by simp; omega
        clear hc
        go_wp2_with fail
        rw [He.out]
        refine wp_region_ext (by kernel_rfl) (by kernel_rfl) ?_
        repeat (go_big_quiet_step ((go_at_call 67; exact ext_call (HV.out _))))
        refine wpQuiet_nil ?_
        intro w2 hb2
        have Hb2 : Hid (Below w.heap.size w w2) := Hbw.out.trans (hb2.mono hsz)
        have HI2 : Hid (IsB w2 w.heap.size 36 #[.int .u64 s, .int .i64 z]) := HI.out.on hb2
        clear hb2
        go_wp2_with fail
        go_roundw
        case rel => exact ⟨h + 1, j, by omega, hj, by go_num, rfl, N1, H2, HI2.out, Hb2.out⟩
        case measure => simp [intOf]; omega
      | false =>
        have hr0 := cmpID_ge hc
        have N2 : Hid (∀ k, h ≤ k → k < t.length → ltID (t.getD k id0) (s, z) = false) := by
          intro k hk hkt
          rcases Nat.lt_or_ge h k with h1 | h1
          · have := asc_getD Ha.out hkt h1
            rw [HJ.out] at this
            cases hx : ltID (t.getD k id0) (s, z) with
            | false => rfl
            | true => rw [ltI_trans this hx] at hc; cases hc
          · obtain rfl : k = h := by omega
            rw [HJ.out]
            exact hc
        generalize cmpID (p0, q0) (s, z) = r at HV hr0
        have hd : decide (r < 0) = false := by simp; omega
        clear hc
        go_wp2_with fail
        rw [He.out]
        refine wp_region_ext (by kernel_rfl) (by kernel_rfl) ?_
        repeat (go_big_quiet_step ((go_at_call 67; exact ext_call (HV.out _))))
        refine wpQuiet_nil ?_
        intro w2 hb2
        have Hb2 : Hid (Below w.heap.size w w2) := Hbw.out.trans (hb2.mono hsz)
        have HI2 : Hid (IsB w2 w.heap.size 36 #[.int .u64 s, .int .i64 z]) := HI.out.on hb2
        clear hb2
        go_wp2_with fail
        go_roundw
        case rel => exact ⟨i, h, by omega, by omega, rfl, rfl, H1, N2, HI2.out, Hb2.out⟩
        case measure => simp [intOf]; omega
    · obtain rfl : i = j := by omega
      by_cases hlt2 : i < t.length
      · obtain ⟨b1, o1, rfl, hb1, _, hc1⟩ := Hr.out (by omega)
        have hbl : b1 < wr.heap.size := by omega
        obtain ⟨⟨⟨p0, q0⟩, ev⟩, HJT⟩ : ∃ x, Hid (T.getD i ch0 = x) := ⟨_, rfl⟩
        have HJ : Hid (t.getD i id0 = (p0, q0)) := by rw [Hid, HG.out i hlt2, HJT.out]
        have d0 : wr.cell? ⟨b1, o1 + i * 3, none⟩ = some (.int .u64 p0) := B_cell Hbw.out hb1 (hc1 i hlt2 0 _ (by rw [HJT.out]; rfl))
        have d1 : wr.cell? ⟨b1, o1 + i * 3 + 1, none⟩ = some (.int .i64 q0) := B_cell Hbw.out hb1 (hc1 i hlt2 1 _ (by rw [HJT.out]; rfl))
        have d2 : wr.cell? ⟨b1, o1 + i * 3 + 2, none⟩ = some (.slice ev.d.A ev.d.len ev.d.cap) := B_cell Hbw.out hb1 (hc1 i hlt2 2 _ (by rw [HJT.out]; rfl))
        have HV := Lib.hid (fun W => cl67_any p0 q0 ev.d.A ev.d.len ev.d.cap s z W)
        have hdl : decide (i < t.length) = true := by simp; omega
        clear hc1
        by_cases hz : cmpID (p0, q0) (s, z) = 0
        · have Hz := Lib.hid (cmpID_zero.1 hz)
          rw [hz] at HV
          clear hz
          go_wp2_with fail
          refine wp_region_ext (by kernel_rfl) (by kernel_rfl) ?_
          repeat (go_big_quiet_step ((go_at_call 67; exact ext_call (HV.out _))))
          refine wpQuiet_nil ?_
          intro w2 hb2
          have Hb2 : Hid (Below w.heap.size w w2) := Hbw.out.trans (hb2.mono hsz)
          clear hb2
          go_wp2_with fail
          go_ret2
          exact ⟨Hb2.out, .inl ⟨i, hlt2, by rw [HJ.out, Hz.out], rfl⟩⟩
        · have Hz : Hid ((p0, q0) ≠ (s, z)) := fun e => hz (cmpID_zero.2 e)
          have hz' := hz
          generalize cmpID (p0, q0) (s, z) = r at HV hz'
          have hbe : (r == 0) = false := by rw [beq_eq_false_iff_ne]; exact hz'
          clear hz hz'
          go_wp2_with fail
          refine wp_region_ext (by kernel_rfl) (by kernel_rfl) ?_
          repeat (go_big_quiet_step ((go_at_call 67; exact ext_call (HV.out _))))
          refine wpQuiet_nil ?_
          intro w2 hb2
          have Hb2 : Hid (Below w.heap.size w w2) := Hbw.out.trans (hb2.mono hsz)
          clear hb2
          go_wp2_with fail
          go_ret2
          exact ⟨Hb2.out, .inr ⟨i, bs_none Ha.out H1.out H2.out (fun _ => by rw [HJ.out]; exact Hz.out), rfl⟩⟩
      · have hdl : decide (i < t.length) = false := by simp; omega
        go_wp2_with fail
        refine wp_region_ext (by kernel_rfl) (by kernel_rfl) ?_
        repeat (go_big_quiet_step (fail))
        refine wpQuiet_nil ?_
        intro w2 hb2
        have Hb2 : Hid (Below w.heap.size w w2) := Hbw.out.trans (hb2.mono hsz)
        clear hb2
        go_wp2_with fail
        go_ret2
        exact ⟨Hb2.out, .inr ⟨i, bs_none Ha.out H1.out H2.out (fun h => absurd h hlt2), rfl⟩⟩
end Go.Proofs.YtmiknfneeipkeaaGreat
namespace Go.Proofs.YtmiknfneeipkeaaGreat
open Go.RowKit Go.MapKept Go.ChangeMaps Go.Shelf Go.Sort
attribute [local go_sem] wext_cell
section
variable {b : Nat} {w0 w w' : World} {l : List Ob}
set_option maxRecDepth 100000 in
set_option maxHeartbeats 4000000 in
theorem cl64_any {gb : Nat} {i1 i2 q s z : Int} {A : Option Addr} {n c : Nat} (hI : IsB w gb 36 #[.int .u64 s, .int .i64 z]) (v : Bool) (hv : decide (((i1, i2) : ID) = (s, z)) = v) :
    Calls Tryz.prog 64 #[.agg #[.int .u64 i1, .int .i64 i2, .int .i64 q, .slice A n c], vPtr gb] w (fun e w' => e = .returned (.bool v) ∧ Below w.heap.size w w') := by
  have hI2 := hI.on (bel1q w (.cells #[.int .u64 i1, .int .i64 i2, .int .i64 q, .slice A n c] 85))
  have c0 : (w.alloc (.cells #[.int .u64 i1, .int .i64 i2, .int .i64 q, .slice A n c] 85)).cell? ⟨gb, 0, none⟩ = some (.int .u64 s) := hI2.cell 0
  have c1 : (w.alloc (.cells #[.int .u64 i1, .int .i64 i2, .int .i64 q, .slice A n c] 85)).cell? ⟨gb, 1, none⟩ = some (.int .i64 z) := hI2.cell 1
  have HB := Lib.hid (bel1 w (.cells #[.int .u64 i1, .int .i64 i2, .int .i64 q, .slice A n c] 85))
  clear hI hI2
  by_cases h1 : i1 = s
  · by_cases h2 : i2 = z
    · subst h1 h2
      obtain rfl : v = true := by rw [← hv]; simp
      clear hv
      go_enter Tryz.func64, Tryz.ntmps64
      go_wp2_with fail
      go_ret
      exact ⟨rfl, HB.out⟩
    · subst h1
      obtain rfl : v = false := by rw [← hv]; simp [h2]
      have hne : (i2 == z) = false := by rw [beq_eq_false_iff_ne]; exact h2
      clear hv
      go_enter Tryz.func64, Tryz.ntmps64
      go_wp2_with fail
      go_ret
      exact ⟨rfl, HB.out⟩
  · obtain rfl : v = false := by rw [← hv]; simp [h1]
    have hne : (i1 == s) = false := by rw [beq_eq_false_iff_ne]; exact h1
    clear hv
    go_enter Tryz.func64, Tryz.ntmps64
    go_wp2_with fail
    go_ret
    exact ⟨rfl, HB.out⟩
abbrev IxC (L : List CN) (i : ID) (b : Nat) (w0 : World) (l : List Ob) (e : Ending) (w' : World) : Prop :=
  SW b w0 l w' ∧ ((∃ k : Nat, k < L.length ∧ e = .returned (.int .i64 k) ∧ (L.getD k cn0).1 = i) ∨ ((∀ c ∈ L, c.1 ≠ i) ∧ e = .returned (.int .i64 (-1))))
theorem take_cn {L : List CN} {k : Nat} (h : k < L.length) : L.take (k + 1) = L.take k ++ [L.getD k cn0] := take_snoc _ cn0 _ h
set_option maxRecDepth 100000 in
set_option maxHeartbeats 8000000 in
theorem IndexC_any (h : SW b w0 l w) {gb : Nat} {s z : Int} {D : Option Addr} {d : Nat} {L : List CN} (hc : cellOb gb 36 #[.int .u64 s, .int .i64 z] ∈ l) (hn : rowOb 85 4 (.slice D L.length d) L.length (L.flatMap encCN) ∈ l) (hl : L.length ≤ 1000000000) :
    Calls Tryz.prog 63 #[.slice D L.length d, .func (.func 64) #[] #[vPtr gb]] w (IxC L (s, z) b w0 l) := by
  have S0 := Lib.hid h
  have HC := Lib.hid hc
  have HN := Lib.hid hn
  clear h hc hn
  go_enter Tryz.func63, Tryz.ntmps63
  go_wp2_with fail
  go_loopw [8] (fun v8 wr => ∃ k : Nat, k ≤ L.length ∧ v8 = .int .i64 k ∧ Hid (∀ c ∈ L.take k, c.1 ≠ (s, z)) ∧ SW b w0 l wr) (fun v8 _ => L.length - (intOf v8).toNat)
  case atStart => exact ⟨0, Nat.zero_le _, rfl, by simp [Hid], S0.out⟩
  case round =>
    obtain ⟨k, hk, rfl, Hk, hs⟩ := hrel
    have S1 := Lib.hid hs
    clear hs S0
    by_cases hlt : k < L.length
    · obtain ⟨⟨⟨i1, i2⟩, r⟩, hx⟩ : ∃ x, L.getD k cn0 = x := ⟨_, rfl⟩
      have hrow := S1.out.1.holds _ HN.out
      obtain ⟨g, d9, hD⟩ := own_some hrow (by omega)
      injection hD with e1 e2 e3
      subst e1
      subst e3
      clear e2
      obtain ⟨q0, q1, q2, q3⟩ := row_cn hrow rfl hlt hx
      simp only at q0 q1 q2 q3
      have HX := Lib.hid hx
      obtain ⟨v, hv⟩ : ∃ v, decide (((i1, i2) : ID) = (s, z)) = v := ⟨_, rfl⟩
      have HH := Lib.hid (cl64_any (q := r.size) (A := r.A) (n := r.len) (c := r.cap) (S1.out.1.holds _ HC.out) v hv)
      have HV := Lib.hid hv
      clear hrow hx hv
      go_wp2_with (go_at_call 64; (with_reducible refine HH.out.mono ?_); refine halt_ ?_)
      rintro e w2 ⟨rfl, hb2⟩
      have S2 := Lib.hid (S1.out.on hb2)
      clear hb2 HH q0 q1 q2 q3 S1
      cases v with
      | true =>
        go_wp2_with fail
        go_ret
        exact ⟨S2.out, .inl ⟨k, hlt, rfl, by rw [HX.out]; exact of_decide_eq_true HV.out⟩⟩
      | false =>
        have HK : Hid (∀ c ∈ L.take (k + 1), c.1 ≠ (s, z)) := by
          intro c hc
          rw [take_cn hlt, HX.out] at hc
          rcases List.mem_append.1 hc with hc | hc
          · exact Hk.out c hc
          · rw [List.mem_singleton.1 hc]; exact of_decide_eq_false HV.out
        go_wp2_with fail
        go_roundw
        case rel => exact ⟨k + 1, by omega, by go_num, HK, S2.out⟩
        case measure => simp [intOf]; omega
    · obtain rfl : k = L.length := by omega
      rw [List.take_length] at Hk
      go_wp2_with fail
      go_ret
      exact ⟨S1.out, .inr ⟨Hk.out, rfl⟩⟩
end
end Go.Proofs.YtmiknfneeipkeaaGreat
namespace Go.Proofs.YtmiknfneeipkeaaGreat
open Go.RowKit Go.MapKept Go.ChangeMaps Go.Shelf Go.Sort
attribute [local go_sem] wext_cell
def addF (F : List ID) (i : ID) : List ID := if i ∈ F then F else F ++ [i]
def firsts (l : List ID) : List ID := l.foldl addF []
theorem firsts_snoc (l : List ID) (i : ID) : firsts (l ++ [i]) = addF (firsts l) i := by rw [firsts, List.foldl_append]; rfl
theorem snoc_ind {α : Type} {P : List α → Prop} (h0 : P []) (h1 : ∀ l a, P l → P (l ++ [a])) : ∀ (n : Nat) (l : List α), l.length = n → P l := by
  intro n
  induction n with
  | zero => intro l hl; rw [List.eq_nil_of_length_eq_zero hl]; exact h0
  | succ n ih =>
    intro l hl
    rcases List.eq_nil_or_concat l with rfl | ⟨l, a, rfl⟩
    · exact h0
    · rw [List.concat_eq_append] at *
      exact h1 l a (ih l (by simpa using hl))
theorem firsts_mem (l : List ID) (x : ID) : x ∈ firsts l ↔ x ∈ l := by
  refine snoc_ind (P := fun l => x ∈ firsts l ↔ x ∈ l) Iff.rfl (fun l i ih => ?_) _ l rfl
  rw [firsts_snoc, addF]
  split
  · rename_i h
    rw [ih, List.mem_append, List.mem_singleton]
    constructor
    · exact .inl
    · rintro (h' | rfl)
      · exact h'
      · exact ih.1 h
  · rw [List.mem_append, List.mem_append, ih]
theorem firsts_len (l : List ID) : (firsts l).length ≤ l.length := by
  refine snoc_ind (P := fun l => (firsts l).length ≤ l.length) (Nat.le_refl _) (fun l i ih => ?_) _ l rfl
  rw [firsts_snoc, addF, List.length_append, List.length_singleton]
  split
  · omega
  · rw [List.length_append, List.length_singleton]; omega
section
variable {b : Nat} {w0 w w' : World} {l : List Ob}
abbrev MisP (m : Man) (b : Nat) (w0 : World) (l : List Ob) (e : Ending) (w' : World) : Prop :=
  ∃ D d, e = .returned (.tuple #[.slice D (firsts m.ids).length d, .int .i64 0]) ∧ SW b w0 (rowOb 36 2 (.slice D (firsts m.ids).length d) (firsts m.ids).length ((firsts m.ids).flatMap encID) :: l) w'
set_option maxRecDepth 100000 in
set_option maxHeartbeats 8000000 in
theorem Missing_any (h : SW b w0 l w) {rs : List MR} {ms : List Man} (hm : msOb rs ms ∈ l) {j : Nat} (hj : j < ms.length) {m : Man} (hmj : ms.getD j man0 = m) {A : Option Addr} {c : Nat} (hr : rs.getD j mr0 = ⟨m.size, A, m.ids.length, c⟩) (he : manE m = 0) (hok : ∀ i ∈ m.ids, okID i) :
    Calls Tryz.prog 65 #[.agg #[.int .i64 m.size, .slice A m.ids.length c], .slice none 0 0] w (MisP m b w0 l) := by
  have HRD : Hid (∀ W l', SW b w0 l' W → (∀ o ∈ l, o ∈ l') → RdID W W.heap.size A m.ids) := fun W l' hs hsub => by
    obtain ⟨_, h2⟩ := hs.1.holds _ (hsub _ hm)
    have := (h2 j hj).2.2.2
    rw [hr, hmj] at this
    exact this
  have HOK := Lib.hid hok
  have hml := manE_len he
  obtain ⟨ii, gi, gz0, gz1, gz2⟩ := info_parts info36
  have S0 := Lib.hid (h.newCell 33 #[.int .i64 m.size, .slice A m.ids.length c])
  have HC := Lib.hid (manCheck_any _ m A c _ (HRD.out _ _ S0.out (fun o ho => .tail _ ho)) (by omega))
  rw [he] at HC
  have hmk : ∀ (W : World), (Instr.makeMap 146 (some (.int .i64 0))).run Tryz.prog W = .ok (.map (some W.heap.size)) (W.alloc (.map #[] 0)) := fun W => by simp [Instr.makeMap, run_underlying Tryz.underlying146, asInt, asIntOf]
  clear h hm hj hmj hr he hok
  go_enter Tryz.func65, Tryz.ntmps65
  go_wp2_with (go_at_call 74; (with_reducible refine HC.out.mono ?_); refine halt_ ?_)
  rintro e w1 ⟨rfl, hb1⟩
  have S1 := Lib.hid (S0.out.on hb1)
  have e0 := (S1.out.cell 0 rfl).cell 0
  have e1 := (S1.out.cell 0 rfl).cell 1
  clear hb1 S0 HC
  go_upto_region 5 with fail
  have S2 := Lib.hid (S1.out.addMp (ok := okID) (kv := vID) (vv := vB1))
  clear e0 e1 hmk
  obtain ⟨w2, HW⟩ : ∃ W, Hid (w1.alloc (.map #[] 0) = W) := ⟨_, rfl⟩
  rw [HW.out] at S2 ⊢
  obtain ⟨mM, HMM0⟩ : ∃ x, Hid (w1.heap.size = x) := ⟨_, rfl⟩
  rw [HMM0.out] at S2 ⊢
  obtain ⟨gc, HGC⟩ : ∃ x, Hid (w.heap.size = x) := ⟨_, rfl⟩
  rw [HGC.out] at S2 ⊢
  clear HW HMM0 S1 HGC
  have e0 := (S2.out.cell 1 rfl).cell 0
  have e1 := (S2.out.cell 1 rfl).cell 1
  go_wp2_with fail
  go_loopw [23] (fun s23 wr => s23 = .int .i64 0 ∧ wr = w2) (fun _ _ => 0)
  case atStart => exact ⟨rfl, rfl⟩
  case round =>
    obtain ⟨rfl, rfl⟩ := hrel
    have S3 := Lib.hid (SW.front (pre := [_, _, _]) (S2.out.newRow 36 2) [1, 0, 2] (n := 3) rfl (by decide))
    clear S2
    go_wp2_with fail
    go_loopw [10, 33] (fun s10 s33 wr => ∃ (k : Nat) (M : List (ID × Bool)) (B : Option Addr) (bc : Nat), k ≤ m.ids.length ∧ s33 = .int .i64 (k : Int) ∧ s10 = .slice B (firsts (m.ids.take k)).length bc ∧ Hid (∀ x, inS M x = decide (x ∈ firsts (m.ids.take k))) ∧ SW b w0 (mpOb okID vID vB1 mM M :: rowOb 36 2 (.slice B (firsts (m.ids.take k)).length bc) (firsts (m.ids.take k)).length ((firsts (m.ids.take k)).flatMap encID) :: cellOb gc 33 #[.int .i64 m.size, .slice A m.ids.length c] :: l) wr) (fun _ s33 _ => m.ids.length - (intOf s33).toNat)
    case atStart => exact ⟨0, [], none, 0, Nat.zero_le _, rfl, rfl, (fun x => by simp [firsts, inS_nil]), S3.out⟩
    case round =>
      obtain ⟨k, M, B, bc, hk, rfl, rfl, HMM, hs⟩ := hrel
      have S4 := Lib.hid hs
      clear hs S3
      have hfl := firsts_len (m.ids.take k)
      rw [List.length_take] at hfl
      obtain ⟨q, HQ⟩ : ∃ q, Hid ((firsts (m.ids.take k)).length = q) := ⟨_, rfl⟩
      rw [HQ.out] at S4 hfl ⊢
      by_cases hlt : k < m.ids.length
      · obtain ⟨j1, j2, HI⟩ : ∃ i1 i2, Hid (m.ids.getD k id0 = (i1, i2)) := ⟨_, _, rfl⟩
        have hmem := getD_mem m.ids id0 k hlt
        rw [HI.out] at hmem
        have hoi : okID (j1, j2) := HOK.out _ hmem
        have HTK : Hid (firsts (m.ids.take (k + 1)) = addF (firsts (m.ids.take k)) (j1, j2)) := by rw [Hid, take_id hlt, HI.out, firsts_snoc]
        obtain ⟨gb, o, rfl, hB, hne, hc⟩ := HRD.out _ _ S4.out (fun o ho => .tail _ (.tail _ (.tail _ ho))) (by omega)
        have d0 : wr.cell? ⟨gb, o + k * 2, none⟩ = some (.int .u64 j1) := hc k hlt 0 _ (by rw [show m.ids.getD k (0, 0) = (j1, j2) from HI.out]; rfl)
        have d1 : wr.cell? ⟨gb, o + k * 2 + 1, none⟩ = some (.int .i64 j2) := hc k hlt 1 _ (by rw [show m.ids.getD k (0, 0) = (j1, j2) from HI.out]; rfl)
        clear hc hmem
        have S5 := Lib.hid (S4.out.newCell 36 #[.int .u64 j1, .int .i64 j2])
        go_upto_region 14 with fail
        obtain ⟨w3, HW3⟩ : ∃ W, Hid (wr.alloc (.cells #[.int .u64 j1, .int .i64 j2] 36) = W) := ⟨_, rfl⟩
        rw [HW3.out] at S5 ⊢
        obtain ⟨gX, HGX⟩ : ∃ x, Hid (wr.heap.size = x) := ⟨_, rfl⟩
        rw [HGX.out] at S5 ⊢
        have b0 := (S5.out.cell 0 rfl).cell 0
        have b1 := (S5.out.cell 0 rfl).cell 1
        have hmv := HMM.out (j1, j2)
        obtain ⟨v, hv⟩ : ∃ v, inS M (j1, j2) = v := ⟨_, rfl⟩
        have HLK : (Instr.lookup 146 (.map (some mM)) (.agg #[.int .u64 j1, .int .i64 j2]) false).run Tryz.prog w3 = .ok (.bool v) w3 := by
          have := MapIs.lookB mkI Tryz.underlying146 (S5.out.get 1 rfl : MapIs okID vID vB1 w3 mM M) hoi
          rw [hv] at this
          exact this
        rw [hv] at hmv
        have HMV := Lib.hid hmv
        clear hmv hv HW3 HGX S4 d0 d1
        cases v with
        | true =>
          have HNX : Hid (firsts (m.ids.take (k + 1)) = firsts (m.ids.take k)) := by
            rw [Hid, HTK.out, addF, if_pos (of_decide_eq_true HMV.out.symm)]
          go_wp2_with fail
          go_roundw
          case rel => exact ⟨k + 1, M, B, bc, by omega, by go_num, by rw [HNX.out, HQ.out], by rw [HNX.out]; exact HMM.out, by rw [HNX.out, HQ.out]; exact S5.out.tail⟩
          case measure => simp [intOf]; omega
        | false =>
          have HNX : Hid (firsts (m.ids.take (k + 1)) = firsts (m.ids.take k) ++ [(j1, j2)]) := by
            rw [Hid, HTK.out, addF, if_neg (of_decide_eq_false HMV.out.symm)]
          have HM2 : Hid (∀ x, inS (setL M (j1, j2) true) x = decide (x ∈ firsts (m.ids.take k) ++ [(j1, j2)])) := fun x => by
            rw [inS_set, HMM.out x]
            by_cases hx : (j1, j2) = x
            · rw [if_pos hx]; simp [hx]
            · rw [if_neg hx]
              exact decide_eq_decide.2 ⟨fun h => List.mem_append_left _ h, fun h => (List.mem_append.1 h).resolve_right (fun h' => hx (List.mem_singleton.1 h').symm)⟩
          obtain ⟨w4, hup, hmp, hgr, hsz⟩ := MapIs.update mkI Tryz.underlying146 (S5.out.get 1 rfl : MapIs okID vID vB1 w3 mM M) hoi true
          have S6 := Lib.hid (S5.out.updMp 1 rfl hmp hgr)
          go_upto_region 16 with fail
          have f0 := (S6.out.cell 0 rfl).cell 0
          have f1 := (S6.out.cell 0 rfl).cell 1
          clear S5 hmp hgr hsz b0 b1 hup HLK
          have S7 := Lib.hid (S6.out.alloc (.cells #[.int .u64 j1, .int .i64 j2] 36))
          go_wp2_with (at_builtin; (refine wpList_rowS (t := 31) (e := 36) (size := 2) (bytes := 16) (i := ii) S7.out 2 rfl (by rfl) (.tmp 43) (.tmp 45) (by rfl) Tryz.underlying31 gi gz0 gz1 gz2 rfl (by omega) (by rfl) ⟨w4.heap.size, 0, none⟩ 1 [.int .u64 j1, .int .i64 j2] (by rfl) rfl (two_new _ _ _ _ _ (by simp)) (encID_one (j1, j2)) (by unfold maxLen; omega) (by omega) ?_); refine halt_ ?_)
          intro v8 w8 s8
          obtain ⟨g8, c8, rfl⟩ := own_some (s8.get 2 rfl) (by omega)
          have S8 : Hid (SW b w0 (mpOb okID vID vB1 mM (setL M (j1, j2) true) :: rowOb 36 2 (.slice (some ⟨g8, 0, none⟩) (firsts (m.ids.take (k + 1))).length c8) (firsts (m.ids.take (k + 1))).length ((firsts (m.ids.take (k + 1))).flatMap encID) :: cellOb gc 33 #[.int .i64 m.size, .slice (some ⟨gb, o, none⟩) m.ids.length c] :: l) w8) := by
            rw [Hid, HNX.out, List.length_append, List.flatMap_append, HQ.out]
            exact s8.tail
          clear s8 S6 S7 f0 f1
          go_wp2_with fail
          go_roundw
          case rel => exact ⟨k + 1, _, some ⟨g8, 0, none⟩, c8, by omega, by go_num, by rw [HNX.out, List.length_append, HQ.out]; rfl, by rw [HNX.out]; exact HM2.out, S8.out⟩
          case measure => simp [intOf]; omega
      · obtain rfl : k = m.ids.length := by omega
        rw [List.take_length] at S4 HQ
        rw [← HQ.out] at S4 ⊢
        have S5 : Hid (SW b w0 (rowOb 36 2 (.slice B (firsts m.ids).length bc) (firsts m.ids).length ((firsts m.ids).flatMap encID) :: l) wr) := SW.sub S4.out (.cons _ (.cons_cons _ (.cons _ (List.Sublist.refl _))))
        clear S4
        go_wp2_with fail
        go_ret2
        exact ⟨B, bc, rfl, S5.out⟩
end
end Go.Proofs.YtmiknfneeipkeaaGreat
namespace Go.Proofs.YtmiknfneeipkeaaGreat
open Go.RowKit Go.MapKept Go.ChangeMaps Go.Shelf Go.Sort
theorem take_from (pre s : List UInt8) (x : Nat) (hx : x < 18446744073709551616) {bs : List UInt8} {k : Nat} (hb : bs = pre ++ (putU x ++ s)) (hk : k = pre.length) : takeU 0 0 (bs.drop k) = some (x, (putU x).length) := by
  subst hb hk
  rw [List.drop_left]
  exact take_put0 x hx s
theorem numD_put (pre s : List UInt8) (x most : Nat) (hx : x < 18446744073709551616) (hm : x ≤ most) {bs : List UInt8} {k : Nat} (hb : bs = pre ++ (putU x ++ s)) (hk : k = pre.length) : numD bs k false most = (x, k + (putU x).length, false) := by
  unfold numD
  rw [if_neg (by simp), take_from pre s x hx hb hk]
  simp only
  rw [if_neg (by omega)]
def idB (i : ID) : List UInt8 := putU i.2.toNat ++ putU i.1.toNat
def okI (i : ID) : Prop := 0 ≤ i.2 ∧ i.2 ≤ 8192 ∧ 0 ≤ i.1 ∧ i.1 < 2305843009213693951
theorem stepD_put (pre s : List UInt8) (i : ID) (h : okI i) {bs : List UInt8} {k : Nat} (acc : List ID) (hb : bs = pre ++ (idB i ++ s)) (hk : k = pre.length) : stepD bs (acc, k, false) = (acc ++ [i], k + (idB i).length, false) := by
  obtain ⟨h1, h2, h3, h4⟩ := h
  have e1 := numD_put pre (putU i.1.toNat ++ s) i.2.toNat 8192 (by omega) (by omega) (bs := bs) (k := k) (by rw [hb, idB, List.append_assoc]) hk
  have e2 := numD_put (pre ++ putU i.2.toNat) s i.1.toNat 2305843009213693951 (by omega) (by omega) (bs := bs) (k := k + (putU i.2.toNat).length) (by rw [hb, idB]; simp only [List.append_assoc]) (by rw [hk, List.length_append])
  unfold stepD
  rw [if_neg (by simp)]
  simp only [e1, e2]
  rw [if_neg (by simp)]
  have e3 : (((i.1.toNat : Nat) : Int), ((i.2.toNat : Nat) : Int)) = i := by
    obtain ⟨a, c⟩ := i
    simp only at *
    rw [Int.toNat_of_nonneg h3, Int.toNat_of_nonneg h1]
  rw [e3, idB, List.length_append, Nat.add_assoc]
theorem idsD_put (pre s : List UInt8) (ids : List ID) (h : ∀ i ∈ ids, okI i) {bs : List UInt8} (hb : bs = pre ++ (ids.flatMap idB ++ s)) {k : Nat} (hk : k = pre.length) : ∀ n, n ≤ ids.length → idsD bs ([], k, false) n = (ids.take n, k + ((ids.take n).flatMap idB).length, false) := by
  intro n
  induction n with
  | zero => intro _; simp [idsD]
  | succ n ih =>
    intro hn
    have hlt : n < ids.length := by omega
    have e1 : ids.take (n + 1) = ids.take n ++ [ids[n]] := by rw [List.take_succ_eq_append_getElem hlt]
    rw [idsD, ih (by omega)]
    rw [stepD_put (pre ++ (ids.take n).flatMap idB) ((ids.drop (n + 1)).flatMap idB ++ s) ids[n] (h _ (List.getElem_mem hlt)) _ ?_ (by rw [hk, List.length_append])]
    · rw [e1, List.flatMap_append, List.length_append, List.flatMap_singleton, Nat.add_assoc]
    · have e2 : ids = ids.take n ++ (ids[n] :: ids.drop (n + 1)) := by rw [← List.drop_eq_getElem_cons hlt, List.take_append_drop]
      have e3 : ids.flatMap idB = (ids.take n).flatMap idB ++ (idB ids[n] ++ (ids.drop (n + 1)).flatMap idB) := by
        conv => lhs; rw [e2]
        rw [List.flatMap_append, List.flatMap_cons]
      rw [hb, e3]
      simp only [List.append_assoc]
theorem manB_eq (m : Man) : manB m = putU m.size.toNat ++ (putU m.ids.length ++ m.ids.flatMap idB) := by
  have key : ∀ l : List ID, (l.flatMap (fun i => [i.2, i.1])).flatMap (fun n : Int => putU n.toNat) = l.flatMap idB := fun l => by
    induction l with
    | nil => rfl
    | cons a l ih =>
      rw [List.flatMap_cons, List.flatMap_append, ih, List.flatMap_cons]
      simp [idB]
  rw [manB, numsM, List.flatMap_append, key]
  simp
theorem okI_of {m : Man} (h : ManOk m) : ∀ i ∈ m.ids, okI i := fun i hi => by
  have h1 := List.all_eq_true.1 (manE_zero h.1).1 i hi
  have h2 := chunkB_sound h1
  have h3 : 0 ≤ i.1 := okID_pos (i1 := i.1) (i2 := i.2) (h.2 i hi)
  simp only [chunkB, validB, Bool.and_eq_true, decide_eq_true_eq] at h1
  exact ⟨by omega, by omega, h3, by omega⟩
theorem man_size {m : Man} (h : ManOk m) : 0 ≤ m.size ∧ m.size ≤ 1048576 := by
  have hv := manE_zero h.1
  have h1 := sum_take_bd (l := m.ids) (k := m.ids.length) (by rw [List.take_length]; exact hv.1)
  rw [List.take_length] at h1
  exact ⟨by rw [hv.2.1]; exact h1.1, hv.2.2⟩
theorem decM_put {m : Man} (h : ManOk m) : decM (manB m) = some m := by
  have hs := man_size h
  have hl := manE_len h.1
  have e0 := manB_eq m
  have e1 : headD (manB m) = (m.size.toNat, (putU m.size.toNat).length, false) := by
    have := numD_put [] (putU m.ids.length ++ m.ids.flatMap idB) m.size.toNat 1048576 (by omega) (by omega) (bs := manB m) (k := 0) (by rw [e0]; rfl) rfl
    rw [headD, this, Nat.zero_add]
  have e2 : cntD (manB m) = (m.ids.length, (putU m.size.toNat).length + (putU m.ids.length).length, false) := by
    have := numD_put (putU m.size.toNat) (m.ids.flatMap idB) m.ids.length 1024 (by omega) (by omega) (bs := manB m) (k := (putU m.size.toNat).length) e0 rfl
    rw [cntD, e1]
    exact this
  have e3 : allD (manB m) = (m.ids, (manB m).length, false) := by
    have := idsD_put (putU m.size.toNat ++ putU m.ids.length) [] m.ids (okI_of h) (bs := manB m) (by rw [e0, List.append_nil, List.append_assoc]) (k := (putU m.size.toNat).length + (putU m.ids.length).length) (by rw [List.length_append]) m.ids.length (Nat.le_refl _)
    rw [allD, e2]
    simp only
    rw [this, List.take_length]
    congr 2
    rw [e0]
    simp only [List.length_append]
    omega
  have e4 : (⟨((m.size.toNat : Nat) : Int), m.ids⟩ : Man) = m := by
    obtain ⟨z, ids⟩ := m
    simp only at *
    rw [Int.toNat_of_nonneg hs.1]
  unfold decM
  rw [e3, e1]
  simp only
  rw [e4, if_neg]
  rintro (h1 | h1 | h1)
  · cases h1
  · exact h1 rfl
  · exact h1 h.1
theorem oneM_put {m : Man} (h : ManOk m) (s : List UInt8) : oneM (partB m ++ s) = some (m, (partB m).length) := by
  have hl := manB_len h.1 h.2
  have e1 : partB m ++ s = putU (manB m).length ++ (manB m ++ s) := by rw [partB, List.append_assoc]
  unfold oneM
  rw [e1, take_put0 _ (by omega)]
  simp only
  rw [List.drop_left, if_neg (by rw [List.length_append]; omega), List.take_left, decM_put h]
  simp [partB]
theorem mansL_put {s : List UInt8} : ∀ (ys : List Man) (pre bs : List UInt8) (k : Nat), (∀ m ∈ ys, ManOk m) → bs = pre ++ (ys.flatMap partB ++ s) → k = pre.length → mansL bs ys.length k = some (ys, k + (ys.flatMap partB).length) := by
  intro ys
  induction ys with
  | nil => intro pre bs k _ _ _; simp [mansL]
  | cons m ys ih =>
    intro pre bs k h hb hk
    have e1 : bs.drop k = partB m ++ (ys.flatMap partB ++ s) := by rw [hb, hk, List.drop_left, List.flatMap_cons, List.append_assoc]
    rw [List.length_cons, mansL, e1, oneM_put (h m (.head _))]
    simp only
    rw [ih (pre ++ partB m) bs (k + (partB m).length) (fun x hx => h x (.tail _ hx)) (by rw [hb, List.flatMap_cons]; simp only [List.append_assoc]) (by rw [hk, List.length_append])]
    simp [Nat.add_assoc]
theorem rdMans_put (ys : List Man) (s : List UInt8) (h : ∀ m ∈ ys, ManOk m) (hn : ys.length < 18446744073709551616) : rdMans (volH ys.length ys ++ s) = some (ys, (volH ys.length ys).length) := by
  have e1 : volH ys.length ys ++ s = [83, 89, 65, 82] ++ (putU ys.length ++ (ys.flatMap partB ++ s)) := by rw [volH]; simp only [List.append_assoc]
  unfold rdMans
  rw [if_pos (by rw [e1]; exact List.prefix_append _ _), take_from [83, 89, 65, 82] (ys.flatMap partB ++ s) ys.length hn (k := 4) e1 rfl]
  simp only
  rw [mansL_put (s := s) ys ([83, 89, 65, 82] ++ putU ys.length) _ _ h (by rw [e1]; simp only [List.append_assoc]) (by simp; omega)]
  congr 2
  rw [volH]
  simp only [List.length_append, List.length_cons, List.length_nil]
theorem opnV_put (ys : List Man) (X : List UInt8) (h : ∀ m ∈ ys, ManOk m) (hn : ys.length < 18446744073709551616) : opnV (volH ys.length ys ++ X) = (decP X).map (fun cs => (ys, cs)) := by
  unfold opnV
  rw [rdMans_put ys X h hn]
  simp only
  rw [List.drop_left]
theorem frP_gen (pre cs s : List UInt8) (sz sm : Nat) (last : Option ID) (hc : cs.length = sz) (h1 : 1 ≤ sz) (h2 : sz ≤ 8192) (h3 : sm < 18446744073709551616) {bs : List UInt8} {k : Nat} (hb : bs = pre ++ (putU sz ++ (putU sm ++ (cs ++ s)))) (hk : k = pre.length) :
    frP bs k last = if fpOf cs ≠ ((sm : Int), (sz : Int)) then none else if last.any (fun x => decide (0 ≤ cmpID x ((sm : Int), (sz : Int)))) = true then none else some (((((sm : Int), (sz : Int)) : ID), cs), k + (putU sz).length + (putU sm).length + sz) := by
  have e1 := take_from pre _ sz (by omega) hb hk
  have e2 := take_from (pre ++ putU sz) (cs ++ s) sm h3 (bs := bs) (k := k + (putU sz).length) (by rw [hb]; simp only [List.append_assoc]) (by rw [hk, List.length_append])
  have e3 : bs.drop (k + (putU sz).length + (putU sm).length) = cs ++ s := by
    have : bs = (pre ++ putU sz ++ putU sm) ++ (cs ++ s) := by rw [hb]; simp only [List.append_assoc]
    rw [this, show k + (putU sz).length + (putU sm).length = (pre ++ putU sz ++ putU sm).length by rw [hk, List.length_append, List.length_append], List.drop_left]
  have e4 : (cs ++ s).take sz = cs := by rw [← hc, List.take_left]
  have e5 : bs.length = k + (putU sz).length + (putU sm).length + sz + s.length := by
    rw [hb, hk]
    simp only [List.length_append]
    omega
  unfold frP
  rw [e1]
  simp only
  rw [e2]
  simp only
  rw [if_neg (by omega), e3, e4]
theorem okCH_id {e : CH} (h : okCH e = true) : (((fpSum e.2.bs : Nat) : Int), ((e.2.bs.length : Nat) : Int)) = e.1 ∧ 1 ≤ e.2.bs.length ∧ e.2.bs.length ≤ 8192 := by
  obtain ⟨⟨i1, i2⟩, e⟩ := e
  obtain ⟨h1, h2, h3, h4⟩ := okCH_eq h
  exact ⟨by rw [h1, h2], h3, h4⟩
theorem getD_from (pre s : List UInt8) (x : UInt8) : (pre ++ x :: s).getD pre.length 0 = x := by simp [List.getD_eq_getElem?_getD]
theorem sum_small (bs : List UInt8) : fpSum bs < 18446744073709551616 := Nat.lt_trans (fpSum_lt bs) (by decide)
theorem last_any {acc : List PC} {c : PC} (h : AscI ((acc ++ [c]).map (·.1))) : (acc.getLast?.map (·.1)).any (fun x => decide (0 ≤ cmpID x c.1)) = false := by
  rcases List.eq_nil_or_concat acc with rfl | ⟨l, a, rfl⟩
  · rfl
  · rw [List.concat_eq_append] at h ⊢
    rw [List.getLast?_append, List.getLast?_singleton]
    have h1 := (List.pairwise_append.1 (by simpa only [List.map_append] using h)).2.2 a.1 (by simp) c.1 (by simp)
    have h2 := cmpID_lt h1
    simp only [Option.some_or, Option.map_some, Option.any_some, decide_eq_false_iff_not]
    omega
theorem frsP_put {s bs : List UInt8} : ∀ (T : List CH) (pre : List UInt8) (k f : Nat) (acc : List PC), (∀ e ∈ T, okCH e = true) → AscI ((acc ++ pcs T).map (·.1)) → T.length ≤ f → bs = pre ++ (T.flatMap frameP ++ s) → k = pre.length → frsP bs f k acc = frsP bs (f - T.length) (k + (T.flatMap frameP).length) (acc ++ pcs T) := by
  intro T
  induction T with
  | nil => intro pre k f acc _ _ _ _ _; simp [pcs]
  | cons e T ih =>
    intro pre k f acc hok ha hf hb hk
    obtain ⟨hid, hl1, hl2⟩ := okCH_id (hok e (.head _))
    have hpc : pcs (e :: T) = (e.1, e.2.bs) :: pcs T := rfl
    have ha1 : AscI ((acc ++ [((e.1, e.2.bs) : PC)]).map (·.1)) := by
      rw [hpc, show acc ++ (e.1, e.2.bs) :: pcs T = (acc ++ [((e.1, e.2.bs) : PC)]) ++ pcs T by simp, List.map_append] at ha
      exact (List.pairwise_append.1 ha).1
    have hlast := last_any ha1
    rw [List.length_cons] at hf
    obtain ⟨f, rfl⟩ : ∃ f', f = f' + 1 := ⟨f - 1, by omega⟩
    have eb : bs = pre ++ ((1 : UInt8) :: (putU e.2.bs.length ++ (putU (fpSum e.2.bs) ++ (e.2.bs ++ (T.flatMap frameP ++ s))))) := by
      rw [hb, List.flatMap_cons, frameP]
      simp
    have eb1 : bs = (pre ++ [(1 : UInt8)]) ++ (putU e.2.bs.length ++ (putU (fpSum e.2.bs) ++ (e.2.bs ++ (T.flatMap frameP ++ s)))) := by
      rw [eb]
      simp
    have e1 := frP_gen (pre ++ [(1 : UInt8)]) e.2.bs (T.flatMap frameP ++ s) e.2.bs.length (fpSum e.2.bs) (acc.getLast?.map (·.1)) rfl hl1 hl2 (sum_small _) eb1 (k := k + 1) (by rw [hk, List.length_append]; rfl)
    rw [hid, if_neg (by simp only [ne_eq, Decidable.not_not]; exact hid), if_neg (by rw [hlast]; simp)] at e1
    have eg : bs.getD k 0 = 1 := by rw [eb, hk]; exact getD_from _ _ _
    have efl : (frameP e).length = 1 + (putU e.2.bs.length).length + (putU (fpSum e.2.bs)).length + e.2.bs.length := by
      rw [frameP]
      simp only [List.length_append, List.length_cons, List.length_nil]
    rw [frsP, if_neg (by rw [eb, hk, List.length_append, List.length_cons]; omega), if_neg (by rw [eg]; decide), if_pos eg, e1]
    simp only
    rw [ih (pre ++ frameP e) _ f (acc ++ [(e.1, e.2.bs)]) (fun x hx => hok x (.tail _ hx)) (by rw [hpc] at ha; simpa using ha) (by omega) (by rw [hb, List.flatMap_cons]; simp only [List.append_assoc]) (by rw [hk, List.length_append, efl]; omega)]
    rw [List.length_cons, List.flatMap_cons, List.length_append, efl, hpc, show f + 1 - (T.length + 1) = f - T.length by omega]
    congr 1
    · omega
    · simp
theorem frames_le (T : List CH) : T.length ≤ (T.flatMap frameP).length := by
  induction T with
  | nil => exact Nat.le_refl _
  | cons e T ih =>
    rw [List.flatMap_cons, List.length_append, List.length_cons]
    have : 1 ≤ (frameP e).length := by
      rw [frameP]
      simp only [List.length_append, List.length_cons, List.length_nil]
      omega
    omega
theorem decP_put {T : List CH} (hok : ∀ e ∈ T, okCH e = true) (ha : AscI (T.map (·.1))) (hl : (packP T).length ≤ 1048576) : decP (packP T) = some (pcs T) := by
  have e0 : packP T = packM ++ (T.flatMap frameP ++ ([0] ++ (putU T.length ++ putU (fpSum (packB T))))) := by
    rw [packP, packB, packF, packM]
    simp only [List.append_assoc]
  have hln : (packP T).length = 4 + (T.flatMap frameP).length + 1 + (putU T.length).length + (putU (fpSum (packB T))).length := by
    rw [e0, packM]
    simp only [List.length_append, List.length_cons, List.length_nil]
    omega
  have hfl := frames_le T
  have hasc : AscI ((([] : List PC) ++ pcs T).map (·.1)) := by
    rw [List.nil_append, pcs, List.map_map]
    exact ha
  have e1 := frsP_put (s := [0] ++ (putU T.length ++ putU (fpSum (packB T)))) (bs := packP T) T packM 4 ((packP T).length + 1) [] hok hasc (by omega) e0 rfl
  obtain ⟨f, hf⟩ : ∃ f, (packP T).length + 1 - T.length = f + 1 := ⟨(packP T).length - T.length, by omega⟩
  have eb : packP T = (packM ++ T.flatMap frameP) ++ ((0 : UInt8) :: (putU T.length ++ putU (fpSum (packB T)))) := by rw [e0]; simp
  have hk4 : 4 + (T.flatMap frameP).length = (packM ++ T.flatMap frameP).length := by rw [List.length_append]; rfl
  have eg : (packP T).getD (4 + (T.flatMap frameP).length) 0 = 0 := by rw [eb, hk4]; exact getD_from _ _ _
  have e3 : frsP (packP T) (f + 1) (4 + (T.flatMap frameP).length) (pcs T) = some (pcs T, 4 + (T.flatMap frameP).length + 1) := by rw [frsP, if_neg (by omega), if_pos eg]
  rw [hf, List.nil_append, e3] at e1
  have e2 : endP (packP T) (4 + (T.flatMap frameP).length + 1) (pcs T).length = true := by
    have t1 := take_from (packM ++ T.flatMap frameP ++ [0]) (putU (fpSum (packB T))) T.length (by omega) (bs := packP T) (k := 4 + (T.flatMap frameP).length + 1) (by rw [e0]; simp only [List.append_assoc]) (by rw [List.length_append, List.length_append]; rfl)
    have t2 := take_from (packB T) [] (fpSum (packB T)) (sum_small _) (bs := packP T) (k := 4 + (T.flatMap frameP).length + 1 + (putU T.length).length) (by rw [List.append_nil, packP]) (by rw [packB, packF]; simp only [List.length_append, List.length_cons, List.length_nil])
    have t3 : (packP T).take (4 + (T.flatMap frameP).length + 1 + (putU T.length).length) = packB T := by
      rw [packP, show 4 + (T.flatMap frameP).length + 1 + (putU T.length).length = (packB T).length by rw [packB, packF]; simp only [List.length_append, List.length_cons, List.length_nil], List.take_left]
    unfold endP
    rw [t1]
    simp only
    rw [t2]
    simp only
    rw [t3, decide_eq_true_eq, pcs_len]
    exact ⟨rfl, by omega, rfl⟩
  unfold decP
  rw [if_neg (by omega), if_pos (by rw [e0]; exact List.prefix_append _ _), e1]
  simp only
  rw [if_pos e2]
theorem frP_last {bs : List UInt8} {k j : Nat} {last : Option ID} {c : PC} (h : frP bs k last = some (c, j)) : last.any (fun x => decide (0 ≤ cmpID x c.1)) = false := by
  unfold frP at h
  split at h
  · cases h
  · split at h
    · cases h
    · split at h
      · cases h
      · split at h
        · cases h
        · split at h
          · cases h
          · rename_i hl
            injection h with h
            injection h with h1 _
            rw [← h1]
            simpa using hl
theorem asc_snocP {acc : List PC} {c : PC} (ha : AscI (acc.map (·.1))) (h : (acc.getLast?.map (·.1)).any (fun x => decide (0 ≤ cmpID x c.1)) = false) : AscI ((acc ++ [c]).map (·.1)) := by
  rw [List.map_append]
  refine List.pairwise_append.2 ⟨ha, by simp, fun x hx y hy => ?_⟩
  rw [List.map_singleton, List.mem_singleton] at hy
  subst hy
  rcases List.eq_nil_or_concat acc with rfl | ⟨l, a, rfl⟩
  · cases hx
  · rw [List.concat_eq_append] at h ha hx
    rw [List.getLast?_append, List.getLast?_singleton] at h
    simp only [Option.some_or, Option.map_some, Option.any_some, decide_eq_false_iff_not] at h
    have h1 : ltID a.1 c.1 = true := by
      cases hc : ltID a.1 c.1 with
      | true => rfl
      | false => exact absurd (cmpID_ge hc) h
    rw [List.map_append, List.mem_append, List.map_singleton, List.mem_singleton] at hx
    rcases hx with hx | rfl
    · rw [List.map_append] at ha
      exact ltI_trans ((List.pairwise_append.1 ha).2.2 x hx a.1 (by simp)) h1
    · exact h1
theorem frsP_asc {bs : List UInt8} : ∀ (f k : Nat) (acc l : List PC) (j : Nat), frsP bs f k acc = some (l, j) → AscI (acc.map (·.1)) → AscI (l.map (·.1)) := by
  intro f
  induction f with
  | zero => intro k acc l j h; cases h
  | succ f ih =>
    intro k acc l j h ha
    rw [frsP] at h
    split at h
    · cases h
    · split at h
      · injection h with h
        injection h with h1 _
        rw [← h1]
        exact ha
      · split at h
        · split at h
          · rename_i c j' hfr
            exact ih _ _ _ _ h (asc_snocP ha (frP_last hfr))
          · cases h
        · cases h
theorem decP_asc {bs : List UInt8} {S : List CH} (h : decP bs = some (pcs S)) : AscI (S.map (·.1)) := by
  unfold decP at h
  split at h
  · cases h
  · split at h
    · split at h
      · rename_i l k hfr
        split at h
        · injection h with h
          subst h
          have := frsP_asc _ _ _ _ _ hfr List.Pairwise.nil
          rw [pcs, List.map_map] at this
          exact this
        · cases h
      · cases h
    · cases h
theorem opnV_asc {bs : List UInt8} {ms : List Man} {S : List CH} (h : opnV bs = some (ms, pcs S)) : AscI (S.map (·.1)) ∧ ∀ m ∈ ms, ManOk m := by
  unfold opnV at h
  split at h
  · rename_i ms' k hr
    obtain ⟨x, h1, e⟩ := Option.map_eq_some_iff.1 h
    injection e with e1 e2
    subst e1 e2
    exact ⟨decP_asc h1, rdMans_ok hr⟩
  · cases h
end Go.Proofs.YtmiknfneeipkeaaGreat
