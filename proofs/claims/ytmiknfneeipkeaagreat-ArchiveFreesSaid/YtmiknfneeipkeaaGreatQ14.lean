/- Contracts of the walk, part 14. -/
import Derived.Shelf.Small.Bits
import Derived.Shelf.Small.Wraps
import Derived.Shelf.Strconv.Itoa0
import Derived.Shelf.Strings.Prefix
import Derived.Shelf.Bits.Mul64
import Derived.Ground.Names2Prog
import Derived.Shelf.Slices.SearchI
import Derived.Shelf.Bytes.SlSearch0
import Derived.Shelf.Bytes.SlSmallAll
import Derived.Shelf.Bytes.SlEqualAll
import Derived.Shelf.Bytes.Small
import Derived.Test.YtmiknfneeipkeaaGreatProg
import Derived.Laws.Bits64b
import Derived.Test.YtmiknfneeipkeaaGreatQ13
import Derived.Test.YtmiknfneeipkeaaGreatQ04
namespace Go.Proofs.YtmiknfneeipkeaaGreat
open Go.RowKit Go.MapKept Go.ChangeMaps
attribute [local go_sem] wext_cell
theorem q93 (w : World) (a : Option Addr) (n c n' c' : Nat) : (binOp .eql 93 (.slice a n c) (.slice none n' c')).run Tryz.prog w = .ok (.bool a.isNone) w := Lib.run_eql_slice_nil w _ _ a n c n' c' Tryz.underlying93
theorem info111 : (Tryz.prog.info? 111).map (fun i => (i.zero, i.size, i.bytes)) = some (some zR, 12, 96) := by kernel_rfl
theorem encR_one (L : List Int) : ∀ u ∈ L.flatMap encR, u.oneCell' = true := by
  intro u hu
  obtain ⟨x, _, hx⟩ := List.mem_flatMap.1 hu
  simp only [encR, List.mem_cons, List.not_mem_nil, or_false] at hx
  rcases hx with rfl | rfl | rfl | rfl | rfl | rfl | rfl | rfl | rfl | rfl | rfl | rfl <;> rfl
section
variable {b : Nat} {w0 w : World} {l : List Ob} {A : Option Addr} {m cm : Nat}
theorem Grow_none (w : World) : Calls Tryz.prog 137 #[.slice none 0 0, .int .i64 0] w (fun e w' => e = .returned (.slice none 0 0) ∧ w = w') := by
  go_enter Tryz.func137, Tryz.ntmps137
  go_wp2_with fail
  go_ret
  exact ⟨rfl, rfl⟩
theorem insort_none (w : World) (f : Value) : Calls Tryz.prog 180 #[.slice none 0 0, .int .i64 0, .int .i64 0, f] w (fun e w' => e = .returned (.tuple #[]) ∧ w = w') := by
  go_enter Tryz.func180, Tryz.ntmps180
  go_wp2_with fail
  go_loopw [8] (fun s8 wr => s8 = .int .i64 1 ∧ w = wr) (fun _ _ => 0)
  case atStart => exact ⟨rfl, rfl⟩
  case round =>
    obtain ⟨rfl, rfl⟩ := hrel
    go_wp2_with fail
    refine bodyPost_end (v := .tuple #[]) (results_none rfl _ _ _) rfl ?_
    exact ⟨rfl, rfl⟩
theorem stable_none (w : World) (f : Value) : Calls Tryz.prog 138 #[.slice none 0 0, .int .i64 0, f] w (fun e w' => e = .returned (.tuple #[]) ∧ w = w') := by
  go_enter Tryz.func138, Tryz.ntmps138
  go_wp2_with fail
  go_loopw [7, 8] (fun s7 s8 wr => s7 = .int .i64 0 ∧ s8 = .int .i64 20 ∧ w = wr) (fun _ _ _ => 0)
  case atStart => exact ⟨rfl, rfl, rfl⟩
  case round =>
    obtain ⟨rfl, rfl, rfl⟩ := hrel
    go_wp2_with (go_at_call 180; (with_reducible refine (insort_none _ _).mono ?_); refine halt_ ?_)
    rintro e w3 ⟨rfl, rfl⟩
    go_wp2_with fail
    go_loopw [6] (fun s6 wr => s6 = .int .i64 20 ∧ w = wr) (fun _ _ => 0)
    case atStart => exact ⟨rfl, rfl⟩
    case round =>
      obtain ⟨rfl, rfl⟩ := hrel
      go_wp2_with fail
      refine bodyPost_end (v := .tuple #[]) (results_none rfl _ _ _) rfl ?_
      exact ⟨rfl, rfl⟩
theorem sort_none (w : World) (f : Value) : Calls Tryz.prog 100 #[.slice none 0 0, f] w (fun e w' => e = .returned (.tuple #[]) ∧ w = w') := by
  go_enter Tryz.func100, Tryz.ntmps100
  go_wp2_with (go_at_call 138; (with_reducible refine (stable_none _ _).mono ?_); refine halt_ ?_)
  rintro e w3 ⟨rfl, rfl⟩
  go_wp2_with fail
  refine bodyPost_end (v := .tuple #[]) (results_none rfl _ _ _) rfl ?_
  exact ⟨rfl, rfl⟩
theorem SW.emptyRow (h : SW b w0 l w) (e : TypeId) (size : Nat) : SW b w0 (rowOb e size (.slice (some ⟨w.heap.size, 0, none⟩) 0 0) 0 [] :: l) (w.alloc (.cells #[] e)) := by
  have ho : (w.alloc (.cells #[] e)).ownsRow 0 e size (.slice (some ⟨w.heap.size, 0, none⟩) 0 0) 0 [] := ⟨by simp, .inr ⟨w.heap.size, 0, #[], rfl, Nat.zero_le _, IsB.new _ _ _, Nat.le_refl _, by decide, by simp, by simp⟩⟩
  have := h.1.add (o' := rowOb e size (.slice (some ⟨w.heap.size, 0, none⟩) 0 0) 0 []) (w' := w.alloc (.cells #[] e)) (bel1q _ _) ho (fun i hi => by have e : some w.heap.size = some i := hi; injection e with e; simp [← e]) (fun i hi => hi.elim) (fun i hi => hi.elim)
  exact ⟨this.1, h.2.trans this.2⟩
/-- Elements are appended to a row. -/
theorem wpList_rowM {ops : Array Oper} {o : Oper} {rest : List Oper} {a : Act} {Q : Exit → Act → World → Prop} {t e : TypeId} {i : TypeInfo} {z : Value} {size bytes : Nat} (hS : SW b w0 l w) (k : Nat) {v : Value} {n : Nat} {xs : List Value} (hk : l[k]? = some (rowOb e size v n xs))
    (hgd : o.guard = none) (s x : Operand) (ho : o.op = .call { callee := .builtin .append, args := #[s, x], argTypes := #[t, t] })
    (ht : Tryz.prog.underlying t = some (.slice e)) (hi : Tryz.prog.info? e = some i) (hz : i.zero = some z) (hsize : i.size = size) (hby : i.bytes = bytes) (hzs : z.cells.size = size) (hsz : 0 < size)
    (hs : a.eval s = v) (ad : Addr) (m c : Nat) (news : List Value) (hx : a.eval x = .slice (some ad) m c) (hl : news.length = m * size) (hnews : ∀ j u, news[j]? = some u → w.cell? (ad.add j) = some u) (h1 : ∀ u ∈ news, u.oneCell' = true) (hm : 0 < m)
    (h63 : n + m ≤ maxLen) (hbytes : (n + m) * bytes ≤ 140737488355328)
    (h : ∀ v' w', SW b w0 (l.set k (rowOb e size v' (n + m) (xs ++ news))) w' → wpList Tryz.prog ops Q rest (a.put o.dst v') w') :
    wpList Tryz.prog ops Q (o :: rest) a w := by
  have := step_append_row (ops := ops) (Q := Q) (E := False) (K := wpList Tryz.prog ops Q rest) hgd s x t ho e i z size bytes ht hi hz hsize hby hzs hsz v n xs hs (hS.get k hk) ad m c news hx hl hnews h1 hm h63 hbytes (fun v' w' h2 hg hv => h v' w' (hS.row k hk h2 hg hv))
  have hw : Region.wanted o (yielded ops a.tmps) = true := by simp [Region.wanted, hgd]
  rw [if_pos hw] at this
  unfold wpList
  first
    | (rw [if_pos hw]; exact .inl this)
    | (simp only [hw, if_true]; exact .inl this)
    | (simp only [hw, if_true]; exact this)
/-- Two rows of no records. -/
theorem Concat_none {g : Nat} (h : SW b w0 l w) (hm : cellOb g 94 #[.slice none 0 0, .slice none 0 0] ∈ l) : Calls Tryz.prog 98 #[.slice (some ⟨g, 0, none⟩) 2 2] w (fun e w' => e = .returned (.slice none 0 0) ∧ w = w') := by
  have hb : IsB w g 94 #[.slice none 0 0, .slice none 0 0] := h.1.holds (cellOb g 94 #[.slice none 0 0, .slice none 0 0]) hm
  have c0 : w.cell? ⟨g, 0, none⟩ = some (.slice none 0 0) := hb.cell 0
  have c1 : w.cell? ⟨g, 1, none⟩ = some (.slice none 0 0) := hb.cell 1
  clear h hm hb
  go_enter Tryz.func98, Tryz.ntmps98
  go_wp2_with fail
  go_loopw [3, 11] (fun s3 s11 wr => s3 = .int .i64 0 ∧ (s11 = .int .i64 0 ∨ s11 = .int .i64 1 ∨ s11 = .int .i64 2) ∧ w = wr) (fun _ s11 _ => 2 - (intOf s11).toNat)
  case atStart => exact ⟨rfl, .inl rfl, rfl⟩
  case round =>
    obtain ⟨rfl, h11, rfl⟩ := hrel
    rcases h11 with rfl | rfl | rfl
    · go_wp2_with fail
      go_roundw
      case rel => exact ⟨by go_num, .inr (.inl (by go_num)), trivial⟩
      case measure => simp [intOf]
    · go_wp2_with fail
      go_roundw
      case rel => exact ⟨by go_num, .inr (.inr (by go_num)), trivial⟩
      case measure => simp [intOf]
    · go_wp2_with (go_at_call 137; (with_reducible refine (Grow_none _).mono ?_); refine halt_ ?_)
      rintro e w3 ⟨rfl, rfl⟩
      go_wp2_with fail
      go_loopw [6, 27] (fun s6 s27 wr => s6 = .slice none 0 0 ∧ (s27 = .int .i64 0 ∨ s27 = .int .i64 1 ∨ s27 = .int .i64 2) ∧ w = wr) (fun _ s27 _ => 2 - (intOf s27).toNat)
      case atStart => exact ⟨rfl, .inl rfl, rfl⟩
      case round =>
        obtain ⟨rfl, h11, rfl⟩ := hrel
        rcases h11 with rfl | rfl | rfl
        · go_wp2_with fail
          go_roundw
          case rel => exact ⟨rfl, .inr (.inl (by go_num)), trivial⟩
          case measure => simp [intOf]
        · go_wp2_with fail
          go_roundw
          case rel => exact ⟨rfl, .inr (.inr (by go_num)), trivial⟩
          case measure => simp [intOf]
        · go_wp2_with fail
          go_ret
          exact ⟨rfl, rfl⟩
set_option maxRecDepth 100000 in
set_option maxHeartbeats 2000000 in
theorem Clone_any (h : SW b w0 l w) (hv : rvOb A m ∈ l) (h0 : m = 0 → A = none ∧ cm = 0) (hm : m ≤ 100) : Calls Tryz.prog 97 #[.slice A m cm] w (fun e w' => ∃ A' c', e = .returned (.slice A' m c') ∧ SW b w0 (rowOb 111 12 (.slice A' m c') m ((revs m).flatMap encR) :: l) w') := by
  by_cases hz : m = 0
  · obtain ⟨rfl, rfl⟩ := h0 hz
    subst hz
    have q := q93
    have S0 := Lib.hid h
    clear h hv h0
    go_enter Tryz.func97, Tryz.ntmps97
    go_wp2_with fail
    go_ret
    exact ⟨none, 0, rfl, S0.out.newRow 111 12⟩
  · have HV : Hid (RowV w 111 12 A m ((revs m).flatMap encR)) := h.1.holds (rvOb A m) hv
    obtain ⟨g, hA, hg, hc⟩ := HV.out.at (by omega)
    subst hA
    obtain ⟨i0, hi, hz0, hz1, hz2⟩ := info_parts info111
    have S0 := Lib.hid h
    have HN : Hid (∀ j u, ((revs m).flatMap encR)[j]? = some u → (w.alloc (.cells #[] 111)).cell? ((⟨g, 0, none⟩ : Addr).add j) = some u) := fun j u hu => by
      have hj : j < m * 12 := by
        have := (List.getElem?_eq_some_iff.1 hu).1
        rwa [HV.out.1] at this
      rw [lit_add, Nat.zero_add, (bel1q w (.cells #[] 111)).cell (p := ⟨g, j, none⟩) hg, hc j hj]
      exact hu
    have q := q93
    have HFl := Lib.hid HV.out.1
    clear h hv hc
    go_enter Tryz.func97, Tryz.ntmps97
    have S1 := Lib.hid (S0.out.emptyRow 111 12)
    go_wp2_with (at_builtin; refine wpList_rowM S1.out 0 rfl rfl _ _ rfl Tryz.underlying93 hi hz0 hz1 hz2 rfl (by decide) rfl ⟨g, 0, none⟩ m cm ((revs m).flatMap encR) rfl HFl.out HN.out (encR_one _) (by omega) (by unfold maxLen; omega) (by omega) ?_)
    intro v1 w1 hs1
    obtain ⟨A1, c1, rfl⟩ := own_slice (hs1.get 0 rfl : w1.ownsRow 0 111 12 v1 _ _)
    have S2 := Lib.hid hs1
    clear hs1 S1 S0
    go_wp2_with fail
    go_ret
    exact ⟨A1, c1, rfl, S2.out⟩
/-- The steps of a check. -/
abbrev stC (kb : Nat) : Array Value := #[.func (.func 132) #[vPtr kb] #[], .func (.func 133) #[vPtr kb] #[], .func (.func 134) #[vPtr kb] #[], .func (.func 135) #[vPtr kb] #[], .func (.func 136) #[vPtr kb] #[]]
theorem steps_any (w : World) (kb : Nat) : Calls Tryz.prog 96 #[vPtr kb] w (fun e w' => e = .returned (.slice (some ⟨w.heap.size, 0, none⟩) 5 5) ∧ w' = w.alloc (.cells (stC kb) 156)) := by
  go_enter Tryz.func96, Tryz.ntmps96
  go_wp2_with fail
  go_ret
  exact ⟨rfl, rfl⟩
section
variable {R E : Value} {kb ml me mi : Nat} {n a s bs : Int}
theorem oneEdit_m (h : SW b w0 l w) (hk : cellOb kb 209 (ckC R n E ml me mi) ∈ l) (hl : mpOb okS kS vRw ml (lastL m) ∈ l) (ha : actI ((m : Int) + 1) = a) (hb : (m : Int) = bs) : Calls Tryz.prog 177 #[vPtr kb, vEg a s bs] w (fun e w' => e = .returned (.int .i64 0) ∧ Below w.heap.size w w') := by
  subst ha hb
  by_cases h0 : m = 0
  · subst h0
    exact oneEdit_first h hk hl rfl
  · have e : actI ((m : Int) + 1) = 2 := by rw [actI, if_neg (by omega)]
    rw [e]
    have h3 : actI (m : Int) ≠ 3 := by unfold actI; split <;> decide
    have h5 : actI (m : Int) ≠ 5 := by unfold actI; split <;> decide
    exact oneEdit_next h hk hl (by rw [lastL_asc, if_neg h0]) h3 h5
theorem revision_m (h : SW b w0 l w) (hk : cellOb kb 209 (ckC R n E ml me mi) ∈ l) (hl : mpOb okS kS vRw ml (lastL m) ∈ l) (hm : m ≤ 100) : Calls Tryz.prog 99 #[vPtr kb, vEg a s bs] w (fun e w' => e = .returned (vRh ((m : Int) + 1) n a s) ∧ Below w.heap.size w w') := by
  by_cases h0 : m = 0
  · subst h0
    exact rev_first h hk (fun W hW => look_R (h.1.holds (mpOb okS kS vRw ml (lastL 0)) hl) false W hW)
  · exact rev_next h hk (k := m) (d := 10 * m) (e := actI m) (fun W hW => by
      have := look_R (h.1.holds (mpOb okS kS vRw ml (lastL m)) hl) false W hW
      rw [lastL_asc, if_neg h0] at this
      exact this) (by omega) (by omega)
end
end
end Go.Proofs.YtmiknfneeipkeaaGreat
namespace Go.Proofs
open Go.Shelf
def Tryz.lays128_ren : Go.Shelf.Ren := ⟨fun | 128 => 164 | n => n, fun | 51 => 245 | 3 => 3 | 4 => 4 | 46 => 174 | 5 => 5 | 9 => 9 | n => n, fun | n => n⟩
theorem Tryz.lays128 : Go.Proofs.Lays.n128 Tryz.prog Tryz.lays128_ren := {
  mixed := by kernel_rfl
  f128 := Tryz.func164.trans (congrArg some (by kernel_rfl))
  t3 := Tryz.underlying3
  a3 := Tryz.isAgg3
  z3 := Tryz.sizeOf3
  v3 := Tryz.zeroValue3
  t4 := Tryz.underlying4
  a4 := Tryz.isAgg4
  z4 := Tryz.sizeOf4
  v4 := Tryz.zeroValue4
  t5 := Tryz.underlying5
  a5 := Tryz.isAgg5
  z5 := Tryz.sizeOf5
  v5 := Tryz.zeroValue5
  t9 := Tryz.underlying9
  a9 := Tryz.isAgg9
  z9 := Tryz.sizeOf9
  v9 := Tryz.zeroValue9
  t46 := Tryz.underlying174
  a46 := Tryz.isAgg174
  z46 := Tryz.sizeOf174
  v46 := Tryz.zeroValue174
  t51 := Tryz.underlying245
  a51 := Tryz.isAgg245
  z51 := Tryz.sizeOf245
  v51 := Tryz.zeroValue245 }
/-- bits.Len32: "Len32 returns the minimum number of bits required to represent x; the result is 0 for x == 0.": IT RETURNS 'Lib.bitLen x'; the world is as it was. ('h0', 'h1': x is a uint32.) (LAID: no walk: one application.) -/
theorem Tryz.bits_Len32 (x : Int) (w : World) (h0 : 0 ≤ x) (h1 : x ≤ 4294967295) :
    Calls Tryz.prog 164 #[.int .u32 x] w fun e w' => e = .returned (.int .i64 (Lib.bitLen x.toNat)) ∧ w' = w := Any.bits_Len32 Tryz.lays128 x w h0 h1
def Tryz.lays125_ren : Go.Shelf.Ren := ⟨fun | 125 => 127 | 128 => 164 | 129 => 165 | n => n, fun | 46 => 174 | 3 => 3 | 51 => 245 | 53 => 34 | 4 => 4 | 5 => 5 | 9 => 9 | n => n, fun | n => n⟩
theorem Tryz.lays125 : Go.Proofs.Lays.n125 Tryz.prog Tryz.lays125_ren := {
  mixed := by kernel_rfl
  f125 := Tryz.func127.trans (congrArg some (by kernel_rfl))
  f128 := Tryz.func164.trans (congrArg some (by kernel_rfl))
  f129 := Tryz.func165.trans (congrArg some (by kernel_rfl))
  t3 := Tryz.underlying3
  a3 := Tryz.isAgg3
  z3 := Tryz.sizeOf3
  v3 := Tryz.zeroValue3
  t4 := Tryz.underlying4
  a4 := Tryz.isAgg4
  z4 := Tryz.sizeOf4
  v4 := Tryz.zeroValue4
  t5 := Tryz.underlying5
  a5 := Tryz.isAgg5
  z5 := Tryz.sizeOf5
  v5 := Tryz.zeroValue5
  t9 := Tryz.underlying9
  a9 := Tryz.isAgg9
  z9 := Tryz.sizeOf9
  v9 := Tryz.zeroValue9
  t46 := Tryz.underlying174
  a46 := Tryz.isAgg174
  z46 := Tryz.sizeOf174
  v46 := Tryz.zeroValue174
  t51 := Tryz.underlying245
  a51 := Tryz.isAgg245
  z51 := Tryz.sizeOf245
  v51 := Tryz.zeroValue245
  t53 := Tryz.underlying34
  a53 := Tryz.isAgg34
  z53 := Tryz.sizeOf34
  v53 := Tryz.zeroValue34 }
/-- bits.Len: "Len returns the minimum number of bits required to represent x; the result is 0 for x == 0.": IT RETURNS 'Lib.bitLen x'; the world is as it was. (A uint has 64 bits in the model.) ITS CALLEE bits.Len64 IS MET BY ITS OWN CONTRACT OFF THE SHELF (lay that first). (LAID: no walk: one application.) -/
theorem Tryz.bits_Len (x : Int) (w : World) (h0 : 0 ≤ x) (h1 : x ≤ 18446744073709551615) :
    Calls Tryz.prog 127 #[.int .u64 x] w fun e w' => e = .returned (.int .i64 (Lib.bitLen x.toNat)) ∧ w' = w := Any.bits_Len Tryz.lays125 x w h0 h1
def Tryz.lays215_ren : Go.Shelf.Ren := ⟨fun | 215 => 144 | n => n, fun | 3 => 3 | 4 => 4 | n => n, fun | n => n⟩
theorem Tryz.lays215 : Go.Proofs.Lays.n215 Tryz.prog Tryz.lays215_ren := {
  mixed := by kernel_rfl
  f215 := Tryz.func144.trans (congrArg some (by kernel_rfl))
  t3 := Tryz.underlying3
  a3 := Tryz.isAgg3
  z3 := Tryz.sizeOf3
  v3 := Tryz.zeroValue3
  t4 := Tryz.underlying4
  a4 := Tryz.isAgg4
  z4 := Tryz.sizeOf4
  v4 := Tryz.zeroValue4 }
open Go.RowKit in
/-- cmp.isNaN at int: 'x != x': false. (LAID: no walk: one application.) -/
theorem Tryz.cmp_isNaN_int (x : Int) (w : World) :
    Calls Tryz.prog 144 #[.int .i64 x] w fun e w' => e = .returned (.bool false) ∧ w' = w := Any.cmp_isNaN_int Tryz.lays215 x w
def Tryz.lays122_ren : Go.Shelf.Ren := ⟨fun | 122 => 108 | 215 => 144 | n => n, fun | 3 => 3 | 4 => 4 | n => n, fun | n => n⟩
theorem Tryz.lays122 : Go.Proofs.Lays.n122 Tryz.prog Tryz.lays122_ren := {
  mixed := by kernel_rfl
  f122 := Tryz.func108.trans (congrArg some (by kernel_rfl))
  f215 := Tryz.func144.trans (congrArg some (by kernel_rfl))
  t3 := Tryz.underlying3
  a3 := Tryz.isAgg3
  z3 := Tryz.sizeOf3
  v3 := Tryz.zeroValue3
  t4 := Tryz.underlying4
  a4 := Tryz.isAgg4
  z4 := Tryz.sizeOf4
  v4 := Tryz.zeroValue4 }
open Go.RowKit in
/-- cmp.Compare at int: "Compare returns -1 if x is less than y, 0 if x equals y, +1 if x is greater than y.": IT RETURNS 'Lib.compareInt x y'; the world is as it was. (LAID: no walk: one application.) -/
theorem Tryz.cmp_Compare_int (x y : Int) (w : World) :
    Calls Tryz.prog 108 #[.int .i64 x, .int .i64 y] w fun e w' => e = .returned (.int .i64 (Lib.compareInt x y)) ∧ w' = w := Any.cmp_Compare_int Tryz.lays122 x y w
def Tryz.lays129_ren : Go.Shelf.Ren := ⟨fun | 129 => 165 | n => n, fun | 53 => 34 | 3 => 3 | 4 => 4 | 46 => 174 | 5 => 5 | 9 => 9 | n => n, fun | n => n⟩
theorem Tryz.lays129 : Go.Proofs.Lays.n129 Tryz.prog Tryz.lays129_ren := {
  mixed := by kernel_rfl
  f129 := Tryz.func165.trans (congrArg some (by kernel_rfl))
  t3 := Tryz.underlying3
  a3 := Tryz.isAgg3
  z3 := Tryz.sizeOf3
  v3 := Tryz.zeroValue3
  t4 := Tryz.underlying4
  a4 := Tryz.isAgg4
  z4 := Tryz.sizeOf4
  v4 := Tryz.zeroValue4
  t5 := Tryz.underlying5
  a5 := Tryz.isAgg5
  z5 := Tryz.sizeOf5
  v5 := Tryz.zeroValue5
  t9 := Tryz.underlying9
  a9 := Tryz.isAgg9
  z9 := Tryz.sizeOf9
  v9 := Tryz.zeroValue9
  t46 := Tryz.underlying174
  a46 := Tryz.isAgg174
  z46 := Tryz.sizeOf174
  v46 := Tryz.zeroValue174
  t53 := Tryz.underlying34
  a53 := Tryz.isAgg34
  z53 := Tryz.sizeOf34
  v53 := Tryz.zeroValue34 }
/-- bits.Len64: "Len64 returns the minimum number of bits required to represent x; the result is 0 for x == 0.": IT RETURNS 'Lib.bitLen x'; the world is as it was. ('h0', 'h1': x is a uint64.) (LAID: no walk: one application.) -/
theorem Tryz.bits_Len64 (x : Int) (w : World) (h0 : 0 ≤ x) (h1 : x ≤ 18446744073709551615) :
    Calls Tryz.prog 165 #[.int .u64 x] w fun e w' => e = .returned (.int .i64 (Lib.bitLen x.toNat)) ∧ w' = w := Any.bits_Len64 Tryz.lays129 x w h0 h1
def Tryz.lays206_ren : Go.Shelf.Ren := ⟨fun | 206 => 222 | n => n, fun | 9 => 9 | 4 => 4 | 3 => 3 | n => n, fun | n => n⟩
theorem Tryz.lays206 : Go.Proofs.Lays.n206 Tryz.prog Tryz.lays206_ren := {
  mixed := by kernel_rfl
  f206 := Tryz.func222.trans (congrArg some (by kernel_rfl))
  t3 := Tryz.underlying3
  a3 := Tryz.isAgg3
  z3 := Tryz.sizeOf3
  v3 := Tryz.zeroValue3
  t4 := Tryz.underlying4
  a4 := Tryz.isAgg4
  z4 := Tryz.sizeOf4
  v4 := Tryz.zeroValue4
  t9 := Tryz.underlying9
  a9 := Tryz.isAgg9
  z9 := Tryz.sizeOf9
  v9 := Tryz.zeroValue9 }
open Go.RowKit Go.Lib in
/-- internal/stringslite.HasPrefix (what strings.HasPrefix calls). (LAID: no walk: one application.) -/
theorem Tryz.stringslite_HasPrefix (s p : ByteArray) (w : World) :
    Calls Tryz.prog 222 #[.string s, .string p] w fun e w' => e = .returned (.bool (Lib.hasPrefix s.data.toList p.data.toList)) ∧ w' = w := Any.stringslite_HasPrefix Tryz.lays206 s p w
def Tryz.lays99_ren : Go.Shelf.Ren := ⟨fun | 99 => 195 | 206 => 222 | n => n, fun | 9 => 9 | 4 => 4 | 3 => 3 | n => n, fun | n => n⟩
theorem Tryz.lays99 : Go.Proofs.Lays.n99 Tryz.prog Tryz.lays99_ren := {
  mixed := by kernel_rfl
  f99 := Tryz.func195.trans (congrArg some (by kernel_rfl))
  f206 := Tryz.func222.trans (congrArg some (by kernel_rfl))
  t3 := Tryz.underlying3
  a3 := Tryz.isAgg3
  z3 := Tryz.sizeOf3
  v3 := Tryz.zeroValue3
  t4 := Tryz.underlying4
  a4 := Tryz.isAgg4
  z4 := Tryz.sizeOf4
  v4 := Tryz.zeroValue4
  t9 := Tryz.underlying9
  a9 := Tryz.isAgg9
  z9 := Tryz.sizeOf9
  v9 := Tryz.zeroValue9 }
open Go.RowKit Go.Lib in
/-- strings.HasPrefix: "HasPrefix reports whether the string s begins with prefix.": IT RETURNS 'Lib.hasPrefix s prefix'; the world is as it was. (LAID: no walk: one application.) -/
theorem Tryz.strings_HasPrefix (s p : ByteArray) (w : World) :
    Calls Tryz.prog 195 #[.string s, .string p] w fun e w' => e = .returned (.bool (Lib.hasPrefix s.data.toList p.data.toList)) ∧ w' = w := Any.strings_HasPrefix Tryz.lays99 s p w
def Tryz.lays264_ren : Go.Shelf.Ren := ⟨fun | 264 => 125 | n => n, fun | 53 => 34 | 46 => 174 | n => n, fun | n => n⟩
theorem Tryz.lays264 : Go.Proofs.Lays.n264 Tryz.prog Tryz.lays264_ren := {
  mixed := by kernel_rfl
  f264 := Tryz.func125.trans (congrArg some (by kernel_rfl))
  t46 := Tryz.underlying174
  a46 := Tryz.isAgg174
  z46 := Tryz.sizeOf174
  v46 := Tryz.zeroValue174
  t53 := Tryz.underlying34
  a53 := Tryz.isAgg34
  z53 := Tryz.sizeOf34
  v53 := Tryz.zeroValue34 }
open Go.RowKit Go.Lib in
theorem Tryz.bits_Mul64 (x y : Nat) (hx : x < 18446744073709551616) (hy : y < 18446744073709551616) (w : World) :
    Calls Tryz.prog 125 #[.int .u64 x, .int .u64 y] w fun e w' => e = .returned (.tuple #[.int .u64 ((x * y / 18446744073709551616 : Nat) : Int), .int .u64 ((x * y % 18446744073709551616 : Nat) : Int)]) ∧ w' = w := Any.bits_Mul64 Tryz.lays264 x y hx hy w
def Tryz.laysNm237_ren : Go.Shelf.Ren := ⟨fun | 37 => 144 | n => n, fun | 3 => 3 | 4 => 4 | n => n, fun | n => n⟩
theorem Tryz.laysNm237 : Go.Proofs.Lays2.n37 Tryz.prog Tryz.laysNm237_ren := {
  mixed := by kernel_rfl
  f37 := Tryz.func144.trans (congrArg some (by kernel_rfl))
  t3 := Tryz.underlying3
  a3 := Tryz.isAgg3
  z3 := Tryz.sizeOf3
  v3 := Tryz.zeroValue3
  t4 := Tryz.underlying4
  a4 := Tryz.isAgg4
  z4 := Tryz.sizeOf4
  v4 := Tryz.zeroValue4 }
open Go.RowKit Go.Lib in
/-- cmp.isNaN[int]: 'x != x': false. (LAID: no walk: one application.) -/
theorem Tryz.cmp_isNaN_int2 (x : Int) (w : World) :
    Calls Tryz.prog 144 #[.int .i64 x] w fun e w' => e = .returned (.bool false) ∧ w' = w := Any.cmp_isNaN_int2 Tryz.laysNm237 x w
def Tryz.lays115_ren : Go.Shelf.Ren := ⟨fun | 115 => 115 | n => n, fun | 37 => 40 | 4 => 4 | 9 => 9 | 5 => 5 | n => n, fun | n => n⟩
theorem Tryz.lays115 : Go.Proofs.Lays.n115 Tryz.prog Tryz.lays115_ren := {
  mixed := by kernel_rfl
  f115 := Tryz.func115.trans (congrArg some (by kernel_rfl))
  t4 := Tryz.underlying4
  a4 := Tryz.isAgg4
  z4 := Tryz.sizeOf4
  v4 := Tryz.zeroValue4
  t9 := Tryz.underlying9
  a9 := Tryz.isAgg9
  z9 := Tryz.sizeOf9
  v9 := Tryz.zeroValue9
  t37 := Tryz.underlying40
  a37 := Tryz.isAgg40
  z37 := Tryz.sizeOf40
  v37 := Tryz.zeroValue40 }
open Go.Proofs Go.RowKit Go.Lib in
/-- bytes.Equal, each argument with what 'string(..)' of it gives. (LAID: no walk: one application.) -/
theorem Tryz.bytes_Equal_strs (v1 v2 : Value) (t1 t2 : ByteArray) (w : World) (h1 : (convert 40 9 v1).run Tryz.prog w = .ok (.string t1) w) (h2 : (convert 40 9 v2).run Tryz.prog w = .ok (.string t2) w) :
    Calls Tryz.prog 115 #[v1, v2] w fun e w' => e = .returned (.bool (t1.toList == t2.toList)) ∧ w' = w := Any.bytes_Equal_strs Tryz.lays115 v1 v2 t1 t2 w h1 h2
def Tryz.laysnb116_ren : Go.Shelf.Ren := ⟨fun | 116 => 220 | 115 => 115 | n => n, fun | 37 => 40 | 4 => 4 | 3 => 3 | 9 => 9 | 5 => 5 | n => n, fun | n => n⟩
theorem Tryz.laysnb116 : Go.Proofs.Lays.nb116 Tryz.prog Tryz.laysnb116_ren := {
  mixed := by kernel_rfl
  f115 := Tryz.func115.trans (congrArg some (by kernel_rfl))
  f116 := Tryz.func220.trans (congrArg some (by kernel_rfl))
  t3 := Tryz.underlying3
  a3 := Tryz.isAgg3
  z3 := Tryz.sizeOf3
  v3 := Tryz.zeroValue3
  t4 := Tryz.underlying4
  a4 := Tryz.isAgg4
  z4 := Tryz.sizeOf4
  v4 := Tryz.zeroValue4
  t9 := Tryz.underlying9
  a9 := Tryz.isAgg9
  z9 := Tryz.sizeOf9
  v9 := Tryz.zeroValue9
  t37 := Tryz.underlying40
  a37 := Tryz.isAgg40
  z37 := Tryz.sizeOf40
  v37 := Tryz.zeroValue40
  t5 := Tryz.underlying5
  a5 := Tryz.isAgg5
  z5 := Tryz.sizeOf5
  v5 := Tryz.zeroValue5 }
theorem Tryz.bytes_HasPrefix_e2 (p1 p2 : Option Addr) (n c d : Nat) (w : World) :
    Calls Tryz.prog 220 #[.slice p1 n c, .slice p2 0 d] w fun e w' => e = .returned (.bool true) ∧ w' = w := Any.bytes_HasPrefix_e2 Tryz.laysnb116 p1 p2 n c d w
theorem Tryz.bytes_HasPrefix_e1 (p1 p2 : Option Addr) (c m d : Nat) (hm : 0 < m) (w : World) :
    Calls Tryz.prog 220 #[.slice p1 0 c, .slice p2 m d] w fun e w' => e = .returned (.bool false) ∧ w' = w := Any.bytes_HasPrefix_e1 Tryz.laysnb116 p1 p2 c m d hm w
def Tryz.laysnb141_ren : Go.Shelf.Ren := ⟨fun | 141 => 192 | 116 => 220 | 115 => 115 | n => n, fun | 37 => 40 | 4 => 4 | 3 => 3 | 9 => 9 | 5 => 5 | n => n, fun | n => n⟩
theorem Tryz.laysnb141 : Go.Proofs.Lays.nb141 Tryz.prog Tryz.laysnb141_ren := {
  mixed := by kernel_rfl
  f115 := Tryz.func115.trans (congrArg some (by kernel_rfl))
  f116 := Tryz.func220.trans (congrArg some (by kernel_rfl))
  f141 := Tryz.func192.trans (congrArg some (by kernel_rfl))
  t3 := Tryz.underlying3
  a3 := Tryz.isAgg3
  z3 := Tryz.sizeOf3
  v3 := Tryz.zeroValue3
  t4 := Tryz.underlying4
  a4 := Tryz.isAgg4
  z4 := Tryz.sizeOf4
  v4 := Tryz.zeroValue4
  t9 := Tryz.underlying9
  a9 := Tryz.isAgg9
  z9 := Tryz.sizeOf9
  v9 := Tryz.zeroValue9
  t37 := Tryz.underlying40
  a37 := Tryz.isAgg40
  z37 := Tryz.sizeOf40
  v37 := Tryz.zeroValue40
  t5 := Tryz.underlying5
  a5 := Tryz.isAgg5
  z5 := Tryz.sizeOf5
  v5 := Tryz.zeroValue5 }
theorem Tryz.bytes_CutPrefix_e2 (p1 p2 : Option Addr) (n c d : Nat) (_hnc : n ≤ c) (w : World) :
    Calls Tryz.prog 192 #[.slice p1 n c, .slice p2 0 d] w fun e w' => e = .returned (.tuple #[.slice p1 n c, .bool true]) ∧ w' = w := Any.bytes_CutPrefix_e2 Tryz.laysnb141 p1 p2 n c d _hnc w
theorem Tryz.bytes_CutPrefix_e1 (p1 p2 : Option Addr) (c m d : Nat) (hm : 0 < m) (w : World) :
    Calls Tryz.prog 192 #[.slice p1 0 c, .slice p2 m d] w fun e w' => e = .returned (.tuple #[.slice p1 0 c, .bool false]) ∧ w' = w := Any.bytes_CutPrefix_e1 Tryz.laysnb141 p1 p2 c m d hm w
/-- bytes.HasPrefix: WHOLE: each argument nil, or of no byte at whatever address, or at an address with its cells. (LAID: no walk: one application.) -/
theorem Tryz.bytes_HasPrefix_all (p1 p2 : Option Addr) (n c m d : Nat) (xs ys : List Int) (w : World) (hx : xs.length = n) (hy : ys.length = m) (hnc : n ≤ c) (h1 : Lib.BytesIn w p1 n xs) (h2 : Lib.BytesIn w p2 m ys) :
    Calls Tryz.prog 220 #[.slice p1 n c, .slice p2 m d] w fun e w' => e = .returned (.bool (Lib.hasPrefix (Lib.bytesOf xs) (Lib.bytesOf ys))) ∧ w' = w := Any.bytes_HasPrefix_all Tryz.laysnb116 p1 p2 n c m d xs ys w hx hy hnc h1 h2
/-- bytes.CutPrefix: WHOLE. (LAID: no walk: one application.) -/
theorem Tryz.bytes_CutPrefix_all (p1 p2 : Option Addr) (n c m d : Nat) (xs ys : List Int) (w : World) (hx : xs.length = n) (hy : ys.length = m) (hnc : n ≤ c) (h1 : Lib.BytesIn w p1 n xs) (h2 : Lib.BytesIn w p2 m ys) :
    Calls Tryz.prog 192 #[.slice p1 n c, .slice p2 m d] w fun e w' => e = .returned (.tuple #[Lib.trimPrefixV p1 n c xs ys, .bool (Lib.hasPrefix (Lib.bytesOf xs) (Lib.bytesOf ys))]) ∧ w' = w := Any.bytes_CutPrefix_all Tryz.laysnb141 p1 p2 n c m d xs ys w hx hy hnc h1 h2
def Tryz.laysnb115_ren : Go.Shelf.Ren := ⟨fun | 115 => 115 | n => n, fun | 37 => 40 | 4 => 4 | 9 => 9 | 5 => 5 | n => n, fun | n => n⟩
theorem Tryz.laysnb115 : Go.Proofs.Lays.nb115 Tryz.prog Tryz.laysnb115_ren := {
  mixed := by kernel_rfl
  f115 := Tryz.func115.trans (congrArg some (by kernel_rfl))
  t4 := Tryz.underlying4
  a4 := Tryz.isAgg4
  z4 := Tryz.sizeOf4
  v4 := Tryz.zeroValue4
  t9 := Tryz.underlying9
  a9 := Tryz.isAgg9
  z9 := Tryz.sizeOf9
  v9 := Tryz.zeroValue9
  t37 := Tryz.underlying40
  a37 := Tryz.isAgg40
  z37 := Tryz.sizeOf40
  v37 := Tryz.zeroValue40
  t5 := Tryz.underlying5
  a5 := Tryz.isAgg5
  z5 := Tryz.sizeOf5
  v5 := Tryz.zeroValue5 }
/-- bytes.Equal: WHOLE. (LAID: no walk: one application.) -/
theorem Tryz.bytes_Equal_all (p1 p2 : Option Addr) (n c m d : Nat) (xs ys : List Int) (w : World) (hx : xs.length = n) (hy : ys.length = m) (h1 : Lib.BytesIn w p1 n xs) (h2 : Lib.BytesIn w p2 m ys) :
    Calls Tryz.prog 115 #[.slice p1 n c, .slice p2 m d] w fun e w' => e = .returned (.bool (Lib.bytesOf xs == Lib.bytesOf ys)) ∧ w' = w := Any.bytes_Equal_all Tryz.laysnb115 p1 p2 n c m d xs ys w hx hy h1 h2
/-- bytes.Equal: "Equal reports whether a and b are the same length and contain the same bytes. A nil argument is equivalent to an empty slice.": IT RETURNS 'the bytes of the one == the bytes of the other'; the world is as it was. THE TWO ARGUMENTS COME AS WHATEVER VALUES, each with the one fact that the walk wants of it: what 'string(..)' of it gives: for a slice whose cells you know: 'run_convert_bytes_arg' (Derived/Laws/BytesArg.lean) hands that fact; for a nil one: 'run_convert_bytes_nil' (with xs := []). (LAID: no walk: one application.) -/
theorem Tryz.bytes_Equal (v1 v2 : Value) (xs ys : List Int) (w : World) (h1 : (convert 40 9 v1).run Tryz.prog w = .ok (.string (strOfNums xs)) w) (h2 : (convert 40 9 v2).run Tryz.prog w = .ok (.string (strOfNums ys)) w) :
    Calls Tryz.prog 115 #[v1, v2] w fun e w' => e = .returned (.bool (Lib.bytesOf xs == Lib.bytesOf ys)) ∧ w' = w := Any.bytes_Equal Tryz.lays115 v1 v2 xs ys w h1 h2
/-- bytes.HasPrefix: "HasPrefix reports whether the byte slice s begins with prefix.": IT RETURNS 'Lib.hasPrefix (the bytes of s) (the bytes of prefix)'; the world is as it was. ITS CALLEE bytes.Equal IS MET BY ITS OWN CONTRACT OFF THE SHELF (lay that first). 'xs', 'ys': the numbers that the two slices' cells hold. (LAID: no walk: one application.) -/
theorem Tryz.bytes_HasPrefix (b1 o1 n c b2 o2 m d : Nat) (xs ys : List Int) (w : World) (hx : xs.length = n) (hy : ys.length = m) (hnc : n ≤ c) (hc1 : ∀ i, i < n → w.cell? ⟨b1, o1 + i, none⟩ = some (.int .u8 (xs.getD i 0))) (hc2 : ∀ i, i < m → w.cell? ⟨b2, o2 + i, none⟩ = some (.int .u8 (ys.getD i 0))) :
    Calls Tryz.prog 220 #[.slice (some ⟨b1, o1, none⟩) n c, .slice (some ⟨b2, o2, none⟩) m d] w fun e w' => e = .returned (.bool (Lib.hasPrefix (Lib.bytesOf xs) (Lib.bytesOf ys))) ∧ w' = w := Any.bytes_HasPrefix Tryz.laysnb116 b1 o1 n c b2 o2 m d xs ys w hx hy hnc hc1 hc2
/-- bytes.CutPrefix: "CutPrefix returns s without the provided leading prefix byte slice and reports whether it found the prefix. If s doesn't start with prefix, CutPrefix returns s, false. If prefix is the empty byte slice, CutPrefix returns s, true.": IT RETURNS ('Lib.bytesTrimPrefix', 'Lib.hasPrefix'): the first a slice OF THE ARGUMENT's OWN MEMORY ("CutPrefix returns slices of the original slice s, not copies."); the world is as it was. (LAID: no walk: one application.) -/
theorem Tryz.bytes_CutPrefix (b1 o1 n c b2 o2 m d : Nat) (xs ys : List Int) (w : World) (hx : xs.length = n) (hy : ys.length = m) (hnc : n ≤ c) (hc1 : ∀ i, i < n → w.cell? ⟨b1, o1 + i, none⟩ = some (.int .u8 (xs.getD i 0))) (hc2 : ∀ i, i < m → w.cell? ⟨b2, o2 + i, none⟩ = some (.int .u8 (ys.getD i 0))) :
    Calls Tryz.prog 192 #[.slice (some ⟨b1, o1, none⟩) n c, .slice (some ⟨b2, o2, none⟩) m d] w fun e w' => e = .returned (.tuple #[Lib.bytesTrimPrefix b1 o1 n c xs ys, .bool (Lib.hasPrefix (Lib.bytesOf xs) (Lib.bytesOf ys))]) ∧ w' = w := Any.bytes_CutPrefix Tryz.laysnb141 b1 o1 n c b2 o2 m d xs ys w hx hy hnc hc1 hc2
end Go.Proofs
namespace Go.Proofs.YtmiknfneeipkeaaGreat
open Go.RowKit

theorem halt_q {p : Prop} (h : Hid p) : p := h
theorem rint_u {p q : Nat} {w W : World} (h : p = q) (hw : w = W) : Ending.returned (.int .u64 ((q : Nat) : Int)) = .returned (.int .u64 ((p : Nat) : Int)) ∧ w = W := ⟨by rw [h], hw⟩
set_option maxRecDepth 100000 in
set_option maxHeartbeats 1000000 in
theorem fadd_any (a b : Nat) (w : World) (ha : a < 2305843009213693951) (hb : b < 2305843009213693951) : Calls Tryz.prog 119 #[.int .u64 (a : Int), .int .u64 (b : Int)] w fun e w' => e = .returned (.int .u64 (((a + b) % pP : Nat) : Int)) ∧ w = w' := by
  by_cases h : a + b < 2305843009213693951
  · have e1 : Hid ((a + b) % pP = a + b) := Nat.mod_eq_of_lt h
    have h' : ¬ (2305843009213693951 ≤ (a : Int) + b) := by omega
    go_enter Tryz.func119, Tryz.ntmps119
    go_wp2
    go_ret
    exact rint_u (q := a + b) e1.out rfl
  · have e1 : Hid ((a + b) % pP = a + b - 2305843009213693951) := by
      rw [Hid, Nat.mod_eq_sub_mod (by unfold pP; omega)]
      exact Nat.mod_eq_of_lt (by unfold pP; omega)
    have h' : 2305843009213693951 ≤ (a : Int) + b := by omega
    go_enter Tryz.func119, Tryz.ntmps119
    go_wp2
    go_ret
    have e2 : ((a + b - 2305843009213693951 : Nat) : Int) = (a : Int) + b - 2305843009213693951 := by omega
    rw [e1.out, e2]
    exact ⟨rfl, rfl⟩
theorem mask61 (a : Nat) (ha : a < 18446744073709551616) : bits .and .u64 (a : Int) 2305843009213693951 = ((a % 2305843009213693952 : Nat) : Int) := by
  have h := bits_and_u64_nat a 2305843009213693951 ha (by omega)
  have e : a &&& 2305843009213693951 = a % 2305843009213693952 := Nat.and_two_pow_sub_one_eq_mod a 61
  rw [e] at h
  exact h
theorem or3 (x y : Nat) (hy : y < 8) : x * 8 ||| y = x * 8 + y := by
  have := Nat.two_pow_add_eq_or_of_lt (i := 3) (b := y) (by omega) x
  rw [show 2 ^ 3 * x = x * 8 by omega] at this
  exact this.symm
theorem prod_lt {a b : Nat} (ha : a < 2305843009213693951) (hb : b < 2305843009213693951) : a * b < pP * pP := Nat.mul_lt_mul'' (by unfold pP; exact ha) (by unfold pP; exact hb)
theorem mul_lo (m : Nat) : (bits .and .u64 ((m : Int) % 18446744073709551616) 2305843009213693951).tmod 2305843009213693951 = ((m % 18446744073709551616 % 2305843009213693952 % pP : Nat) : Int) := by
  have e : (m : Int) % 18446744073709551616 = ((m % 18446744073709551616 : Nat) : Int) := by omega
  rw [e, mask61 _ (Nat.mod_lt _ (by omega)), Int.tmod_eq_emod_of_nonneg (by omega)]
  unfold pP
  omega
theorem mul_hi (m : Nat) (hm : m < pP * pP) : bits .or .u64 (IntKind.u64.wrap ((m : Int) / 18446744073709551616 * 8)) ((m : Int) % 18446744073709551616 / 2305843009213693952) = ((m / 18446744073709551616 * 8 + m % 18446744073709551616 / 2305843009213693952 : Nat) : Int) := by
  have hh := mul_high m hm
  have e1 : IntKind.u64.wrap ((m : Int) / 18446744073709551616 * 8) = ((m / 18446744073709551616 * 8 : Nat) : Int) := by
    rw [IntKind.wrap_u64]
    omega
  have e2 : (m : Int) % 18446744073709551616 / 2305843009213693952 = ((m % 18446744073709551616 / 2305843009213693952 : Nat) : Int) := by omega
  rw [e1, e2, bits_or_u64_nat _ _ (by omega) (by omega), or3 _ _ (by omega)]
theorem mul_sum (m : Nat) (hm : m < pP * pP) : (m % 18446744073709551616 % 2305843009213693952 % pP + (m / 18446744073709551616 * 8 + m % 18446744073709551616 / 2305843009213693952) % pP) % pP = m % pP := by
  rw [← Nat.add_mod, mul_words m hm]
set_option maxRecDepth 100000 in
set_option maxHeartbeats 1000000 in
theorem fmul_any (a b : Nat) (w : World) (ha : a < 2305843009213693951) (hb : b < 2305843009213693951) : Calls Tryz.prog 120 #[.int .u64 (a : Int), .int .u64 (b : Int)] w fun e w' => e = .returned (.int .u64 (((a * b) % pP : Nat) : Int)) ∧ w = w' := by
  have HP := Lib.hid (prod_lt ha hb)
  go_enter Tryz.func120, Tryz.ntmps120
  go_wp2_with (first | (go_at_call 125; refine (Tryz.bits_Mul64 a b (by omega) (by omega) _).mono ?_; rintro e w' ⟨rfl, hw⟩; rw [hw]) | (go_at_call 119; refine halt_q ?_))
  have e1 := mul_lo (a * b)
  have e2 := mul_hi (a * b) HP.out
  rw [Int.natCast_mul] at e1 e2
  have e3 : (((a * b / 18446744073709551616 * 8 + a * b % 18446744073709551616 / 2305843009213693952 : Nat) : Int)).tmod 2305843009213693951 = (((a * b / 18446744073709551616 * 8 + a * b % 18446744073709551616 / 2305843009213693952) % pP : Nat) : Int) := by
    rw [Int.tmod_eq_emod_of_nonneg (by omega)]
    unfold pP
    omega
  rw [e2, e1, e3]
  refine (fadd_any (a * b % 18446744073709551616 % 2305843009213693952 % pP) ((a * b / 18446744073709551616 * 8 + a * b % 18446744073709551616 / 2305843009213693952) % pP) w (Nat.mod_lt _ pP_pos) (Nat.mod_lt _ pP_pos)).mono ?_
  rintro e w' ⟨rfl, rfl⟩
  rw [mul_sum _ HP.out]
  clear e1 e2 e3
  go_wp2_with fail
  go_ret
  exact ⟨rfl, rfl⟩
theorem fp_byte (bs : List UInt8) (x : UInt8) : (fpSum bs * 747382712868975713 % pP + (x.toNat + 1)) % pP = fpSum (bs ++ [x]) := by
  rw [fpSum_snoc, fpStep, Nat.add_mod, Nat.mod_mod, ← Nat.add_mod]
  rfl
/-- A slice at whatever place that reads as bs. -/
def RS (w : World) (A : Option Addr) (bs : List UInt8) : Prop := (A = none → bs.length = 0) ∧ ∀ ad, A = some ad → ∃ g o, ad = ⟨g, o, none⟩ ∧ ∀ j, j < bs.length → w.cell? ⟨g, o + j, none⟩ = some (encU (bs.getD j 0))
theorem RS.sb {w : World} {A : Option Addr} {bs : List UInt8} (h : RS w A bs) : SB w A bs := by
  refine ⟨h.1, fun ad e j u hu => ?_⟩
  obtain ⟨g, o, rfl, hc⟩ := h.2 ad e
  obtain ⟨hj, hu'⟩ := List.getElem?_eq_some_iff.1 hu
  have hj' : j < bs.length := by simpa using hj
  rw [lit_add, hc j hj', ← hu', List.getElem_map, List.getD_eq_getElem?_getD, List.getElem?_eq_getElem hj']
  rfl
theorem RB.rs {w : World} {d : BD} {bs : List UInt8} (h : RB w d bs) : RS w d.A bs := by
  obtain ⟨h1, h2, h3, h4⟩ := h
  refine ⟨fun e => by have := h3 e; omega, fun ad e => ?_⟩
  obtain ⟨g, cur, rfl, hg, _, hc⟩ := h4 ad e
  refine ⟨g, 0, rfl, fun j hj => ?_⟩
  rw [hg.cell, Nat.zero_add]
  refine hc j _ ?_
  rw [List.getElem?_map, List.getD_eq_getElem?_getD, List.getElem?_eq_getElem hj]
  rfl
theorem RS.lt {w : World} {A : Option Addr} {bs : List UInt8} (h : RS w A bs) {g o : Nat} (e : A = some ⟨g, o, none⟩) (hp : 0 < bs.length) : g < w.heap.size := h.sb.lt _ e hp
theorem RS.on {w w' : World} {A : Option Addr} {bs : List UInt8} (h : RS w A bs) (hb : Below w.heap.size w w') : RS w' A bs := by
  refine ⟨h.1, fun ad e => ?_⟩
  obtain ⟨g, o, rfl, hc⟩ := h.2 ad e
  exact ⟨g, o, rfl, fun j hj => by rw [hb.cell (p := ⟨g, o + j, none⟩) (h.lt e (by omega))]; exact hc j hj⟩
theorem RS.sub {w : World} {g o : Nat} {bs : List UInt8} (h : RS w (some ⟨g, o, none⟩) bs) (k n : Nat) (hk : k + n ≤ bs.length) : RS w (some ⟨g, o + k, none⟩) ((bs.drop k).take n) := by
  obtain ⟨g', o', e, hc⟩ := h.2 _ rfl
  injection e with e1 e2 _
  subst e1 e2
  refine ⟨(fun e => by cases e), fun ad e => ?_⟩
  injection e with e
  subst e
  refine ⟨g, o + k, rfl, fun j hj => ?_⟩
  simp only [List.length_take, List.length_drop] at hj
  have := hc (k + j) (by omega)
  rw [Nat.add_assoc, this]
  congr 2
  rw [List.getD_eq_getElem?_getD, List.getD_eq_getElem?_getD, List.getElem?_take_of_lt (by omega), List.getElem?_drop]
theorem take_snocU (bs : List UInt8) (k : Nat) (h : k < bs.length) : bs.take (k + 1) = bs.take k ++ [bs.getD k 0] := by
  rw [List.take_succ_eq_append_getElem h, List.getD_eq_getElem?_getD, List.getElem?_eq_getElem h]
  rfl
set_option maxRecDepth 100000 in
set_option maxHeartbeats 1000000 in
theorem Sum_any (A : Option Addr) (c : Nat) (bs : List UInt8) (w : World) (h : RS w A bs) (hn : bs.length ≤ 1099511627776) : Calls Tryz.prog 77 #[.slice A bs.length c] w fun e w' => e = .returned (.int .u64 ((fpSum bs : Nat) : Int)) ∧ w = w' := by
  have H := Lib.hid h
  clear h
  go_enter Tryz.func77, Tryz.ntmps77
  go_wp2_with fail
  go_loop [3, 8] (fun v i => ∃ k : Nat, k ≤ bs.length ∧ i = .int .i64 k ∧ v = .int .u64 ((fpSum (bs.take k) : Nat) : Int)) (fun _ i => bs.length - (intOf i).toNat)
  case atStart => exact ⟨0, Nat.zero_le _, rfl, by rw [List.take_zero, fpSum_nil]; rfl⟩
  case round =>
    obtain ⟨k, hk, rfl, rfl⟩ := hrel
    by_cases hlt : k < bs.length
    · cases A with
      | none => exact absurd (H.out.1 rfl) (by omega)
      | some ad =>
        obtain ⟨g, o, rfl, hc⟩ := H.out.2 ad rfl
        have hcl : w.cell? ⟨g, o + k, none⟩ = some (.int .u8 (((bs.getD k 0).toNat : Nat) : Int)) := hc k hlt
        have HT : Hid ((fpSum (bs.take k) * 747382712868975713 % pP + ((bs.getD k 0).toNat + 1)) % pP = fpSum (bs.take (k + 1))) := by rw [Hid, take_snocU bs k hlt, ← fp_byte]
        have hf := fpSum_lt (bs.take k)
        have HF : Hid (fpSum (bs.take k) < pP) := hf
        clear hc hf
        generalize hx : bs.getD k 0 = x at *
        have hx2 := x.toNat_lt
        have HX := Lib.hid hx
        clear hx
        generalize fpSum (bs.take k) = sm at *
        generalize hs' : fpSum (bs.take (k + 1)) = sm' at *
        have HS := Lib.hid hs'
        clear hs'
        have hm := fun w => fmul_any sm 747382712868975713 w HF.out (by omega)
        have hmt : sm * 747382712868975713 % pP < pP := Nat.mod_lt _ pP_pos
        generalize sm * 747382712868975713 % pP = t at *
        have ha := fun w => fadd_any t (x.toNat + 1) w hmt (by omega)
        rw [HT.out] at ha
        simp only [Int.natCast_add, Int.natCast_one] at ha
        have HM := Lib.hid hm
        have HA := Lib.hid ha
        clear hm ha hmt
        go_wp2_with (first | (go_at_call 120; refine (HM.out _).mono ?_; rintro e w' ⟨rfl, rfl⟩) | (go_at_call 119; refine (HA.out _).mono ?_; rintro e w' ⟨rfl, rfl⟩))
        go_round
        case rel => exact ⟨k + 1, by omega, by go_num, by rw [HS.out]⟩
        case measure => simp [intOf]; omega
    · obtain rfl : k = bs.length := by omega
      rw [List.take_length]
      go_wp2_with fail
      go_ret
      exact ⟨rfl, rfl⟩
theorem fold_of {α : Sort _} (x : α) : ∃ y, Hid (x = y) := ⟨x, rfl⟩
set_option maxRecDepth 100000 in
set_option maxHeartbeats 1000000 in
theorem Of_any (A : Option Addr) (c : Nat) (bs : List UInt8) (w : World) (h : RS w A bs) (hn : bs.length ≤ 1099511627776) : Calls Tryz.prog 33 #[.slice A bs.length c] w fun e w' => e = .returned (.agg #[.int .u64 (fpOf bs).1, .int .i64 (fpOf bs).2]) ∧ Below w.heap.size w w' := by
  have H := Lib.hid (fun W (hW : RS W A bs) => Sum_any A c bs W hW hn)
  have H1 := Lib.hid (h.on ((Below.refl _ w).alloc (Nat.le_refl _) (.cells #[.int .u64 0, .int .i64 0] 36)))
  clear h
  simp only [fpOf]
  generalize fpSum bs = sm at *
  go_enter Tryz.func33, Tryz.ntmps33
  go_wp2_with (go_at_call 77; refine (H.out _ H1.out).mono ?_; rintro e w' ⟨rfl, rfl⟩)
  refine bodyPost_ret (v := .agg #[.int .u64 ((sm : Nat) : Int), .int .i64 ((bs.length : Nat) : Int)]) ?_ rfl ⟨rfl, ?_⟩
  · simp [results, Tryz.results33, go_sem]
  · exact (Below.refl _ _).alloc (Nat.le_refl _) _
end Go.Proofs.YtmiknfneeipkeaaGreat
