/- Contracts of the walk, part 10. -/
import Derived.Sort.Walk0
import Derived.Shelf.SlSortCmp.Insertion
import Derived.Lib.Small
import Derived.Lib.Hide
import Derived.Test.YtmiknfneeipkeaaGreatR09
import Derived.Test.YtmiknfneeipkeaaGreatR05
import Derived.Test.YtmiknfneeipkeaaGreatR02
import Derived.Test.YtmiknfneeipkeaaGreatR04
import Derived.Test.YtmiknfneeipkeaaGreatR03
namespace Go.Proofs.YtmiknfneeipkeaaGreat
open Go.RowKit Go.MapKept Go.ChangeMaps
attribute [local go_sem] wext_cell
theorem q93 (w : World) (a : Option Addr) (n c n' c' : Nat) : (binOp .eql 93 (.slice a n c) (.slice none n' c')).run Tryz.prog w = .ok (.bool a.isNone) w := Lib.run_eql_slice_nil w _ _ a n c n' c' Tryz.underlying93
theorem info111 : (Tryz.prog.info? 111).map (fun i => (i.zero, i.size, i.bytes)) = some (some zR, 12, 96) := by kernel_rfl
theorem encR_one (L : List Int) : ∀ u ∈ L.flatMap encR, u.oneCell' = true := by
  intro u hu
  obtain ⟨x, _, hx⟩ := List.mem_flatMap.1 hu
  simp only [encR, List.mem_cons, List.not_mem_nil, or_false] at hx
  rcases hx with rfl | rfl | rfl | rfl | rfl | rfl | rfl | rfl | rfl | rfl | rfl | rfl <;> rfl
section
variable {b : Nat} {w0 w : World} {l : List Ob} {A : Option Addr} {m cm : Nat}
theorem Grow_none (w : World) : Calls Tryz.prog 137 #[.slice none 0 0, .int .i64 0] w (fun e w' => e = .returned (.slice none 0 0) ∧ w = w') := by
  go_enter Tryz.func137, Tryz.ntmps137
  go_wp2_with fail
  go_ret
  exact ⟨rfl, rfl⟩
theorem insort_none (w : World) (f : Value) : Calls Tryz.prog 180 #[.slice none 0 0, .int .i64 0, .int .i64 0, f] w (fun e w' => e = .returned (.tuple #[]) ∧ w = w') := by
  go_enter Tryz.func180, Tryz.ntmps180
  go_wp2_with fail
  go_loopw [8] (fun s8 wr => s8 = .int .i64 1 ∧ w = wr) (fun _ _ => 0)
  case atStart => exact ⟨rfl, rfl⟩
  case round =>
    obtain ⟨rfl, rfl⟩ := hrel
    go_wp2_with fail
    refine bodyPost_end (v := .tuple #[]) (results_none rfl _ _ _) rfl ?_
    exact ⟨rfl, rfl⟩
theorem stable_none (w : World) (f : Value) : Calls Tryz.prog 138 #[.slice none 0 0, .int .i64 0, f] w (fun e w' => e = .returned (.tuple #[]) ∧ w = w') := by
  go_enter Tryz.func138, Tryz.ntmps138
  go_wp2_with fail
  go_loopw [7, 8] (fun s7 s8 wr => s7 = .int .i64 0 ∧ s8 = .int .i64 20 ∧ w = wr) (fun _ _ _ => 0)
  case atStart => exact ⟨rfl, rfl, rfl⟩
  case round =>
    obtain ⟨rfl, rfl, rfl⟩ := hrel
    go_wp2_with (go_at_call 180; (with_reducible refine (insort_none _ _).mono ?_); refine halt_ ?_)
    rintro e w3 ⟨rfl, rfl⟩
    go_wp2_with fail
    go_loopw [6] (fun s6 wr => s6 = .int .i64 20 ∧ w = wr) (fun _ _ => 0)
    case atStart => exact ⟨rfl, rfl⟩
    case round =>
      obtain ⟨rfl, rfl⟩ := hrel
      go_wp2_with fail
      refine bodyPost_end (v := .tuple #[]) (results_none rfl _ _ _) rfl ?_
      exact ⟨rfl, rfl⟩
theorem sort_none (w : World) (f : Value) : Calls Tryz.prog 100 #[.slice none 0 0, f] w (fun e w' => e = .returned (.tuple #[]) ∧ w = w') := by
  go_enter Tryz.func100, Tryz.ntmps100
  go_wp2_with (go_at_call 138; (with_reducible refine (stable_none _ _).mono ?_); refine halt_ ?_)
  rintro e w3 ⟨rfl, rfl⟩
  go_wp2_with fail
  refine bodyPost_end (v := .tuple #[]) (results_none rfl _ _ _) rfl ?_
  exact ⟨rfl, rfl⟩
theorem SW.emptyRow (h : SW b w0 l w) (e : TypeId) (size : Nat) : SW b w0 (rowOb e size (.slice (some ⟨w.heap.size, 0, none⟩) 0 0) 0 [] :: l) (w.alloc (.cells #[] e)) := by
  have ho : (w.alloc (.cells #[] e)).ownsRow 0 e size (.slice (some ⟨w.heap.size, 0, none⟩) 0 0) 0 [] := ⟨by simp, .inr ⟨w.heap.size, 0, #[], rfl, Nat.zero_le _, IsB.new _ _ _, Nat.le_refl _, by decide, by simp, by simp⟩⟩
  have := h.1.add (o' := rowOb e size (.slice (some ⟨w.heap.size, 0, none⟩) 0 0) 0 []) (w' := w.alloc (.cells #[] e)) (bel1q _ _) ho (fun i hi => by have e : some w.heap.size = some i := hi; injection e with e; simp [← e]) (fun i hi => hi.elim) (fun i hi => hi.elim)
  exact ⟨this.1, h.2.trans this.2⟩
theorem wpList_rowM {ops : Array Oper} {o : Oper} {rest : List Oper} {a : Act} {Q : Exit → Act → World → Prop} {t e : TypeId} {i : TypeInfo} {z : Value} {size bytes : Nat} (hS : SW b w0 l w) (k : Nat) {v : Value} {n : Nat} {xs : List Value} (hk : l[k]? = some (rowOb e size v n xs))
    (hgd : o.guard = none) (s x : Operand) (ho : o.op = .call { callee := .builtin .append, args := #[s, x], argTypes := #[t, t] })
    (ht : Tryz.prog.underlying t = some (.slice e)) (hi : Tryz.prog.info? e = some i) (hz : i.zero = some z) (hsize : i.size = size) (hby : i.bytes = bytes) (hzs : z.cells.size = size) (hsz : 0 < size)
    (hs : a.eval s = v) (ad : Addr) (m c : Nat) (news : List Value) (hx : a.eval x = .slice (some ad) m c) (hl : news.length = m * size) (hnews : ∀ j u, news[j]? = some u → w.cell? (ad.add j) = some u) (h1 : ∀ u ∈ news, u.oneCell' = true) (hm : 0 < m)
    (h63 : n + m ≤ maxLen) (hbytes : (n + m) * bytes ≤ 140737488355328)
    (h : ∀ v' w', SW b w0 (l.set k (rowOb e size v' (n + m) (xs ++ news))) w' → wpList Tryz.prog ops Q rest (a.put o.dst v') w') :
    wpList Tryz.prog ops Q (o :: rest) a w := by
  have := step_append_row (ops := ops) (Q := Q) (E := False) (K := wpList Tryz.prog ops Q rest) hgd s x t ho e i z size bytes ht hi hz hsize hby hzs hsz v n xs hs (hS.get k hk) ad m c news hx hl hnews h1 hm h63 hbytes (fun v' w' h2 hg hv => h v' w' (hS.row k hk h2 hg hv))
  have hw : Region.wanted o (yielded ops a.tmps) = true := by simp [Region.wanted, hgd]
  rw [if_pos hw] at this
  unfold wpList
  first
    | (rw [if_pos hw]; exact .inl this)
    | (simp only [hw, if_true]; exact .inl this)
    | (simp only [hw, if_true]; exact this)
theorem Concat_none {g : Nat} (h : SW b w0 l w) (hm : cellOb g 94 #[.slice none 0 0, .slice none 0 0] ∈ l) : Calls Tryz.prog 98 #[.slice (some ⟨g, 0, none⟩) 2 2] w (fun e w' => e = .returned (.slice none 0 0) ∧ w = w') := by
  have hb : IsB w g 94 #[.slice none 0 0, .slice none 0 0] := h.1.holds (cellOb g 94 #[.slice none 0 0, .slice none 0 0]) hm
  have c0 : w.cell? ⟨g, 0, none⟩ = some (.slice none 0 0) := hb.cell 0
  have c1 : w.cell? ⟨g, 1, none⟩ = some (.slice none 0 0) := hb.cell 1
  clear h hm hb
  go_enter Tryz.func98, Tryz.ntmps98
  go_wp2_with fail
  go_loopw [3, 11] (fun s3 s11 wr => s3 = .int .i64 0 ∧ (s11 = .int .i64 0 ∨ s11 = .int .i64 1 ∨ s11 = .int .i64 2) ∧ w = wr) (fun _ s11 _ => 2 - (intOf s11).toNat)
  case atStart => exact ⟨rfl, .inl rfl, rfl⟩
  case round =>
    obtain ⟨rfl, h11, rfl⟩ := hrel
    rcases h11 with rfl | rfl | rfl
    · go_wp2_with fail
      go_roundw
      case rel => exact ⟨by go_num, .inr (.inl (by go_num)), trivial⟩
      case measure => simp [intOf]
    · go_wp2_with fail
      go_roundw
      case rel => exact ⟨by go_num, .inr (.inr (by go_num)), trivial⟩
      case measure => simp [intOf]
    · go_wp2_with (go_at_call 137; (with_reducible refine (Grow_none _).mono ?_); refine halt_ ?_)
      rintro e w3 ⟨rfl, rfl⟩
      go_wp2_with fail
      go_loopw [6, 27] (fun s6 s27 wr => s6 = .slice none 0 0 ∧ (s27 = .int .i64 0 ∨ s27 = .int .i64 1 ∨ s27 = .int .i64 2) ∧ w = wr) (fun _ s27 _ => 2 - (intOf s27).toNat)
      case atStart => exact ⟨rfl, .inl rfl, rfl⟩
      case round =>
        obtain ⟨rfl, h11, rfl⟩ := hrel
        rcases h11 with rfl | rfl | rfl
        · go_wp2_with fail
          go_roundw
          case rel => exact ⟨rfl, .inr (.inl (by go_num)), trivial⟩
          case measure => simp [intOf]
        · go_wp2_with fail
          go_roundw
          case rel => exact ⟨rfl, .inr (.inr (by go_num)), trivial⟩
          case measure => simp [intOf]
        · go_wp2_with fail
          go_ret
          exact ⟨rfl, rfl⟩
set_option maxRecDepth 100000 in
set_option maxHeartbeats 2000000 in
theorem Clone_any (h : SW b w0 l w) (hv : rvOb A m ∈ l) (h0 : m = 0 → A = none ∧ cm = 0) (hm : m ≤ 100) : Calls Tryz.prog 97 #[.slice A m cm] w (fun e w' => ∃ A' c', e = .returned (.slice A' m c') ∧ SW b w0 (rowOb 111 12 (.slice A' m c') m ((revs m).flatMap encR) :: l) w') := by
  by_cases hz : m = 0
  · obtain ⟨rfl, rfl⟩ := h0 hz
    subst hz
    have q := q93
    have S0 := Lib.hid h
    clear h hv h0
    go_enter Tryz.func97, Tryz.ntmps97
    go_wp2_with fail
    go_ret
    exact ⟨none, 0, rfl, S0.out.newRow 111 12⟩
  · have HV : Hid (RowV w 111 12 A m ((revs m).flatMap encR)) := h.1.holds (rvOb A m) hv
    obtain ⟨g, hA, hg, hc⟩ := HV.out.at (by omega)
    subst hA
    obtain ⟨i0, hi, hz0, hz1, hz2⟩ := info_parts info111
    have S0 := Lib.hid h
    have HN : Hid (∀ j u, ((revs m).flatMap encR)[j]? = some u → (w.alloc (.cells #[] 111)).cell? ((⟨g, 0, none⟩ : Addr).add j) = some u) := fun j u hu => by
      have hj : j < m * 12 := by
        have := (List.getElem?_eq_some_iff.1 hu).1
        rwa [HV.out.1] at this
      rw [lit_add, Nat.zero_add, (bel1q w (.cells #[] 111)).cell (p := ⟨g, j, none⟩) hg, hc j hj]
      exact hu
    have q := q93
    have HFl := Lib.hid HV.out.1
    clear h hv hc
    go_enter Tryz.func97, Tryz.ntmps97
    have S1 := Lib.hid (S0.out.emptyRow 111 12)
    go_wp2_with (at_builtin; refine wpList_rowM S1.out 0 rfl rfl _ _ rfl Tryz.underlying93 hi hz0 hz1 hz2 rfl (by decide) rfl ⟨g, 0, none⟩ m cm ((revs m).flatMap encR) rfl HFl.out HN.out (encR_one _) (by omega) (by unfold maxLen; omega) (by omega) ?_)
    intro v1 w1 hs1
    obtain ⟨A1, c1, rfl⟩ := own_slice (hs1.get 0 rfl : w1.ownsRow 0 111 12 v1 _ _)
    have S2 := Lib.hid hs1
    clear hs1 S1 S0
    go_wp2_with fail
    go_ret
    exact ⟨A1, c1, rfl, S2.out⟩
abbrev stC (kb : Nat) : Array Value := #[.func (.func 132) #[vPtr kb] #[], .func (.func 133) #[vPtr kb] #[], .func (.func 134) #[vPtr kb] #[], .func (.func 135) #[vPtr kb] #[], .func (.func 136) #[vPtr kb] #[]]
theorem steps_any (w : World) (kb : Nat) : Calls Tryz.prog 96 #[vPtr kb] w (fun e w' => e = .returned (.slice (some ⟨w.heap.size, 0, none⟩) 5 5) ∧ w' = w.alloc (.cells (stC kb) 156)) := by
  go_enter Tryz.func96, Tryz.ntmps96
  go_wp2_with fail
  go_ret
  exact ⟨rfl, rfl⟩
section
variable {R E : Value} {kb ml me mi : Nat} {n a s bs : Int}
theorem oneEdit_m (h : SW b w0 l w) (hk : cellOb kb 209 (ckC R n E ml me mi) ∈ l) (hl : mpOb okS kS vRw ml (lastL m) ∈ l) (ha : actI ((m : Int) + 1) = a) (hb : (m : Int) = bs) : Calls Tryz.prog 177 #[vPtr kb, vEg a s bs] w (fun e w' => e = .returned (.int .i64 0) ∧ Below w.heap.size w w') := by
  subst ha hb
  by_cases h0 : m = 0
  · subst h0
    exact oneEdit_first h hk hl rfl
  · have e : actI ((m : Int) + 1) = 2 := by rw [actI, if_neg (by omega)]
    rw [e]
    have h3 : actI (m : Int) ≠ 3 := by unfold actI; split <;> decide
    have h5 : actI (m : Int) ≠ 5 := by unfold actI; split <;> decide
    exact oneEdit_next h hk hl (by rw [lastL_asc, if_neg h0]) h3 h5
theorem revision_m (h : SW b w0 l w) (hk : cellOb kb 209 (ckC R n E ml me mi) ∈ l) (hl : mpOb okS kS vRw ml (lastL m) ∈ l) (hm : m ≤ 100) : Calls Tryz.prog 99 #[vPtr kb, vEg a s bs] w (fun e w' => e = .returned (vRh ((m : Int) + 1) n a s) ∧ Below w.heap.size w w') := by
  by_cases h0 : m = 0
  · subst h0
    exact rev_first h hk (fun W hW => look_R (h.1.holds (mpOb okS kS vRw ml (lastL 0)) hl) false W hW)
  · exact rev_next h hk (k := m) (d := 10 * m) (e := actI m) (fun W hW => by
      have := look_R (h.1.holds (mpOb okS kS vRw ml (lastL m)) hl) false W hW
      rw [lastL_asc, if_neg h0] at this
      exact this) (by omega) (by omega)
end
end
end Go.Proofs.YtmiknfneeipkeaaGreat
namespace Go.Proofs.YtmiknfneeipkeaaGreat
open Go.RowKit Go.MapKept Go.ChangeMaps
open Go.Maps (Keyed)
abbrev vID (i : ID) : Value := .agg #[.int .u64 i.1, .int .i64 i.2]
def encID (i : ID) : List Value := [.int .u64 i.1, .int .i64 i.2]
theorem encID_len (i : ID) : (encID i).length = 2 := rfl
def okID (i : ID) : Prop := (Lit.int .u64 i.1).wf = true ∧ (Lit.int .i64 i.2).wf = true
theorem row36 : (36 : TypeId) < Tryz.prog.types.size := of_decide_eq_true (by kernel_rfl)
theorem kta36 : Tryz.prog.keyTypeAt 2 36 = true := by kernel_rfl
theorem keyed36 : Keyed Tryz.prog 36 := Keyed.of_law (deep_law_laid laidOutC (m := 2) (by omega) row36 kta36 (by rw [Tryz.underlying36]))
theorem kt36 : Tryz.prog.keyType 36 = true := by kernel_rfl
theorem cellsOf36 : Tryz.prog.cellsOf 36 = 2 := by kernel_rfl
theorem cellsOf34 : Tryz.prog.cellsOf 34 = 1 := by kernel_rfl
theorem keyOf36 (i : ID) (h : okID i) : keyOf Tryz.prog 36 (vID i) = some (.string (keyBytes [.int .u64 i.1, .int .i64 i.2])) := by
  obtain ⟨wa, wb⟩ := h
  obtain ⟨m, hm⟩ := typesC
  have hkt := kt36
  unfold keyOf
  simp only [Tryz.underlying36]
  rw [if_pos (by simp [hkt, Value.formed, Tryz.underlying36, cellsOf36]), hm]
  unfold Program.keyLits
  simp only [Tryz.underlying36, Value.cells]
  rw [if_pos (by rw [cellsOf36]; exact ⟨rfl, by simp⟩)]
  simp [cellsOf34, cellsOf3, Program.keyLits, Tryz.underlying34, Tryz.underlying3, wa, wb]
theorem mkI : MK Tryz.prog 36 okID vID := ⟨keyed36, fun i h => ⟨_, keyOf36 i h⟩, fun a b h => by
  simp [vID] at h
  exact Prod.ext h.1 h.2⟩
abbrev vN (n : Int) : Value := .int .i64 n
theorem okID_of {i : ID} (h0 : 0 ≤ i.1) (h1 : i.1 < 18446744073709551616) (h2 : -9223372036854775808 ≤ i.2) (h3 : i.2 ≤ 9223372036854775807) : okID i := by
  exact ⟨WalkArith.wf_u64 ⟨h0, by omega⟩, WalkArith.wf_i64 ⟨h2, h3⟩⟩
theorem okID_fp (bs : List UInt8) (h : bs.length ≤ 9223372036854775807) : okID (fpOf bs) := by
  have := fpSum_lt bs
  unfold pP at this
  exact okID_of (by simp [fpOf]) (by simp only [fpOf]; omega) (by simp only [fpOf]; omega) (by simp only [fpOf]; omega)
theorem bel1 (w : World) (o : Obj) : Below w.heap.size w (w.alloc o) := bel1q w o
theorem setL_nodup {α β : Type} [DecidableEq α] {L : List (α × β)} (h : (L.map (·.1)).Nodup) (a : α) (v : β) : ((setL L a v).map (·.1)).Nodup := by
  have h1 : L.Pairwise (fun x y => x.1 ≠ y.1) := by simpa [List.Nodup, List.pairwise_map] using h
  have := (setL_pairwise (R := fun x y => x.1 ≠ y.1) h h1 a v (fun x y hxy => hxy.symm) (fun c _ hc => hc)).1
  simpa [List.Nodup, List.pairwise_map] using this
abbrev vB1 (b : Bool) : Value := .bool b
theorem zero4 (W : World) : (zeroValue 4).run Tryz.prog W = .ok (.bool false) W := by
  simp only [zeroValue]
  kernel_rfl
section
variable {α : Type} [DecidableEq α] {k : TypeId} {ok : α → Prop} {kv : α → Value}
def inS (L : List (α × Bool)) (a : α) : Bool := (asc L a).getD false
theorem MapIs.lookB (M : MK Tryz.prog k ok kv) {t : TypeId} (ht : Tryz.prog.underlying t = some (.map k 4)) {w : World} {b : Nat} {L : List (α × Bool)} (h : MapIs ok kv vB1 w b L) {a : α} (ha : ok a) :
    (Instr.lookup t (.map (some b)) (kv a) false).run Tryz.prog w = .ok (.bool (inS L a)) w := by
  rw [h.look M ht (zero4 w) ha false]
  unfold inS
  cases asc L a <;> rfl
theorem inS_set (L : List (α × Bool)) (a a' : α) (v : Bool) : inS (setL L a v) a' = if a = a' then v else inS L a' := by
  unfold inS
  rw [asc_setL]
  split <;> rfl
theorem inS_nil (a : α) : inS ([] : List (α × Bool)) a = false := rfl
end
end Go.Proofs.YtmiknfneeipkeaaGreat
namespace Go.Proofs.YtmiknfneeipkeaaGreat
open Go.RowKit Go.Shelf Go.Sort
attribute [local go_sem] wext_cell
def Gives (v : Value) (w : World) (e : Ending) (w' : World) : Prop := e = .returned v ∧ Below w.heap.size w w'
theorem gv {a r : Int} {w W : World} (h : a = r) (hb : Below w.heap.size w W) : Gives (.int .i64 a) w (.returned (.int .i64 r)) W := ⟨by rw [h], hb⟩
theorem encID_one (i : ID) : ∀ u ∈ encID i, u.oneCell' = true := by
  intro u hu
  simp [encID] at hu
  rcases hu with rfl | rfl <;> rfl
abbrev RdID (w : World) (x : Nat) (A : Option Addr) (l : List ID) : Prop := Rd encID 2 (0, 0) w x A l
theorem info36 : (Tryz.prog.info? 36).map (fun i => (i.zero, i.size, i.bytes)) = some (some (.agg #[.int .u64 0, .int .i64 0]), 2, 16) := by kernel_rfl
def orI (a b : Int) : Int := if a = 0 then b else a
theorem nan65 (x : Int) (w : World) : Calls Tryz.prog 143 #[.int .u64 x] w fun e w' => e = .returned (.bool false) ∧ w' = w := by
  go_enter Tryz.func143, Tryz.ntmps143
  go_wp2
  go_ret
  exact ⟨by simp, rfl⟩
set_option maxHeartbeats 1000000 in
theorem cmpU_any (x y : Int) (w : World) : Calls Tryz.prog 107 #[.int .u64 x, .int .u64 y] w fun e w' => e = .returned (.int .i64 (Lib.compareInt x y)) ∧ w' = w := by
  go_enter Tryz.func107, Tryz.ntmps107
  go_wp2_with (go_at_call 143; refine (nan65 _ _).mono ?_; rintro e w' ⟨rfl, hw⟩; rw [hw])
  all_goals (go_ret; refine ⟨?_, rfl⟩; unfold Lib.compareInt; (repeat' split) <;> first | rfl | (exfalso; omega))
theorem nan66 (x : Int) (w : World) : Calls Tryz.prog 144 #[.int .i64 x] w fun e w' => e = .returned (.bool false) ∧ w' = w := by
  go_enter Tryz.func144, Tryz.ntmps144
  go_wp2
  go_ret
  exact ⟨by simp, rfl⟩
set_option maxHeartbeats 1000000 in
theorem cmpI_any (x y : Int) (w : World) : Calls Tryz.prog 108 #[.int .i64 x, .int .i64 y] w fun e w' => e = .returned (.int .i64 (Lib.compareInt x y)) ∧ w' = w := by
  go_enter Tryz.func108, Tryz.ntmps108
  go_wp2_with (go_at_call 144; refine (nan66 _ _).mono ?_; rintro e w' ⟨rfl, hw⟩; rw [hw])
  all_goals (go_ret; refine ⟨?_, rfl⟩; unfold Lib.compareInt; (repeat' split) <;> first | rfl | (exfalso; omega))
set_option maxHeartbeats 400000 in
theorem Or_two (g : Nat) (a b : Int) (w : World) (h0 : w.cell? ⟨g, 0, none⟩ = some (.int .i64 a)) (h1 : w.cell? ⟨g, 1, none⟩ = some (.int .i64 b)) :
    Calls Tryz.prog 106 #[.slice (some ⟨g, 0, none⟩) 2 2] w fun e w' => e = .returned (.int .i64 (orI a b)) ∧ w = w' := by
  obtain ⟨r, Hr⟩ : ∃ r, Hid (orI a b = r) := ⟨_, rfl⟩
  rw [Hr.out]
  go_enter Tryz.func106, Tryz.ntmps106
  go_wp2
  go_loop [8] (fun i => ∃ k : Nat, k ≤ 2 ∧ i = .int .i64 k ∧ Hid (0 < k → a = 0) ∧ Hid (1 < k → b = 0)) (fun i => 2 - (intOf i).toNat)
  case atStart => exact ⟨0, by omega, rfl, fun h => absurd h (by omega), fun h => absurd h (by omega)⟩
  case round =>
    obtain ⟨k, hk, rfl, HA, HB⟩ := hrel
    by_cases hk0 : k = 0
    · have hc : w.cell? ⟨g, k, none⟩ = some (.int .i64 a) := by rw [hk0]; exact h0
      have Hk := Lib.hid hk0
      have hk2 : k < 2 := by omega
      clear h0 h1 hk0
      by_cases ha : a = 0
      · have hb' : (a != 0) = false := by simp [ha]
        have Ha := Lib.hid ha
        clear ha
        go_wp2
        go_round
        case rel => exact ⟨k + 1, by omega, by go_num, fun _ => Ha.out, fun h => absurd h (by have := Hk.out; omega)⟩
        case measure => simp [intOf]; omega
      · have hb' : (a != 0) = true := by simp [ha]
        have hr : r = a := by rw [← Hr.out, orI, if_neg ha]
        subst hr
        clear ha
        go_wp2
        go_ret
        exact ⟨rfl, rfl⟩
    · by_cases hk1 : k = 1
      · have hc : w.cell? ⟨g, k, none⟩ = some (.int .i64 b) := by rw [hk1]; exact h1
        have Hk := Lib.hid hk1
        have hk2 : k < 2 := by omega
        have hr : r = b := by rw [← Hr.out, orI, if_pos (HA.out (by omega))]
        subst hr
        clear h0 h1 hk0 hk1
        by_cases hb : r = 0
        · have hb' : (r != 0) = false := by simp [hb]
          have Hb := Lib.hid hb
          clear hb
          go_wp2
          go_round
          case rel => exact ⟨k + 1, by omega, by go_num, fun _ => HA.out (by have := Hk.out; omega), fun _ => Hb.out⟩
          case measure => simp [intOf]; omega
        · have hb' : (r != 0) = true := by simp [hb]
          clear hb
          go_wp2
          go_ret
          exact ⟨rfl, rfl⟩
      · have hk2 : ¬ k < 2 := by omega
        have hr : r = 0 := by rw [← Hr.out, orI, if_pos (HA.out (by omega)), HB.out (by omega)]
        subst hr
        go_wp2
        go_ret
        exact ⟨rfl, rfl⟩
theorem grow3 (W : World) (a b c : Obj) (q : Nat) : (((W.alloc a).alloc b).drewN q).alloc c = grow (W.drewN q) #[a, b, c] := by
  show ((((W.drewN q).alloc a).alloc b).alloc c) = grow (W.drewN q) #[a, b, c]
  rw [alloc_eq_grow, alloc_eq_grow, alloc_eq_grow, grow_grow, grow_grow]
  rfl
def cmpID (x y : ID) : Int := orI (Lib.compareInt x.1 y.1) (Lib.compareInt x.2 y.2)
set_option maxHeartbeats 1000000 in
theorem compareIDs_grow (x1 x2 y1 y2 : Int) (W : World) : Calls Tryz.prog 111 #[.agg #[.int .u64 x1, .int .i64 x2], .agg #[.int .u64 y1, .int .i64 y2]] W fun e w' => e = .returned (.int .i64 (cmpID (x1, x2) (y1, y2))) ∧ ∃ q os', w' = grow (W.drewN q) os' := by
  have hcon1 := fun W' => cmpU_any x1 y1 W'
  have hcon2 := fun W' => cmpI_any x2 y2 W'
  obtain ⟨r, Hr⟩ : ∃ r, Hid (cmpID (x1, x2) (y1, y2) = r) := ⟨_, rfl⟩
  have Hr2 : Hid (orI (Lib.compareInt x1 y1) (Lib.compareInt x2 y2) = r) := Hr
  rw [Hr.out]
  generalize Lib.compareInt x1 y1 = c1 at hcon1 Hr2
  generalize Lib.compareInt x2 y2 = c2 at hcon2 Hr2
  have H1 := Lib.hid hcon1
  have H2 := Lib.hid hcon2
  clear hcon1 hcon2
  go_enter Tryz.func111, Tryz.ntmps111
  go_wp2_with fail
  refine wp_region_draw_tail 10 (by kernel_rfl) (by kernel_rfl) ?_
  simp only [List.take_succ_cons, List.take_zero, List.drop_succ_cons, List.drop_zero]
  repeat (go_big_quiet_step ((first | (go_at_call 107; exact Calls.quiet_of_same (H1.out _)) | (go_at_call 108; exact Calls.quiet_of_same (H2.out _)))))
  refine wpQuiet_nil ?_
  intro q2
  go_wp2_with (go_at_call 106; refine (Or_two _ c1 c2 _ ?c1 ?c2).mono ?_)
  case c1 => exact new_cell _ _ _ _ (by simp) 0
  case c2 => exact new_cell _ _ _ _ (by simp) 1
  rintro e w' ⟨rfl, rfl⟩
  rw [Hr2.out]
  go_wp2
  go_ret
  exact ⟨rfl, q2, _, grow3 W _ _ _ q2⟩
set_option maxHeartbeats 1000000 in
theorem acmp_grow (x1 x2 y1 y2 : Int) (W : World) : Calls Tryz.prog 55 #[.agg #[.int .u64 x1, .int .i64 x2], .agg #[.int .u64 y1, .int .i64 y2]] W fun e w' => e = .returned (.int .i64 (cmpID (x1, x2) (y1, y2))) ∧ ∃ q os', w' = grow (W.drewN q) os' := by
  have hcon1 := fun W' => cmpU_any x1 y1 W'
  have hcon2 := fun W' => cmpI_any x2 y2 W'
  obtain ⟨r, Hr⟩ : ∃ r, Hid (cmpID (x1, x2) (y1, y2) = r) := ⟨_, rfl⟩
  have Hr2 : Hid (orI (Lib.compareInt x1 y1) (Lib.compareInt x2 y2) = r) := Hr
  rw [Hr.out]
  generalize Lib.compareInt x1 y1 = c1 at hcon1 Hr2
  generalize Lib.compareInt x2 y2 = c2 at hcon2 Hr2
  have H1 := Lib.hid hcon1
  have H2 := Lib.hid hcon2
  clear hcon1 hcon2
  go_enter Tryz.func55, Tryz.ntmps55
  go_wp2_with fail
  refine wp_region_draw_tail 10 (by kernel_rfl) (by kernel_rfl) ?_
  simp only [List.take_succ_cons, List.take_zero, List.drop_succ_cons, List.drop_zero]
  repeat (go_big_quiet_step ((first | (go_at_call 107; exact Calls.quiet_of_same (H1.out _)) | (go_at_call 108; exact Calls.quiet_of_same (H2.out _)))))
  refine wpQuiet_nil ?_
  intro q2
  go_wp2_with (go_at_call 106; refine (Or_two _ c1 c2 _ ?c1 ?c2).mono ?_)
  case c1 => exact new_cell _ _ _ _ (by simp) 0
  case c2 => exact new_cell _ _ _ _ (by simp) 1
  rintro e w' ⟨rfl, rfl⟩
  rw [Hr2.out]
  go_wp2
  go_ret
  exact ⟨rfl, q2, _, grow3 W _ _ _ q2⟩
set_option maxHeartbeats 1000000 in
theorem pcmp_grow (x1 x2 y1 y2 : Int) (W : World) : Calls Tryz.prog 90 #[.agg #[.int .u64 x1, .int .i64 x2], .agg #[.int .u64 y1, .int .i64 y2]] W fun e w' => e = .returned (.int .i64 (cmpID (x1, x2) (y1, y2))) ∧ ∃ q os', w' = grow (W.drewN q) os' := by
  have hcon1 := fun W' => cmpU_any x1 y1 W'
  have hcon2 := fun W' => cmpI_any x2 y2 W'
  obtain ⟨r, Hr⟩ : ∃ r, Hid (cmpID (x1, x2) (y1, y2) = r) := ⟨_, rfl⟩
  have Hr2 : Hid (orI (Lib.compareInt x1 y1) (Lib.compareInt x2 y2) = r) := Hr
  rw [Hr.out]
  generalize Lib.compareInt x1 y1 = c1 at hcon1 Hr2
  generalize Lib.compareInt x2 y2 = c2 at hcon2 Hr2
  have H1 := Lib.hid hcon1
  have H2 := Lib.hid hcon2
  clear hcon1 hcon2
  go_enter Tryz.func90, Tryz.ntmps90
  go_wp2_with fail
  refine wp_region_draw_tail 10 (by kernel_rfl) (by kernel_rfl) ?_
  simp only [List.take_succ_cons, List.take_zero, List.drop_succ_cons, List.drop_zero]
  repeat (go_big_quiet_step ((first | (go_at_call 107; exact Calls.quiet_of_same (H1.out _)) | (go_at_call 108; exact Calls.quiet_of_same (H2.out _)))))
  refine wpQuiet_nil ?_
  intro q2
  go_wp2_with (go_at_call 106; refine (Or_two _ c1 c2 _ ?c1 ?c2).mono ?_)
  case c1 => exact new_cell _ _ _ _ (by simp) 0
  case c2 => exact new_cell _ _ _ _ (by simp) 1
  rintro e w' ⟨rfl, rfl⟩
  rw [Hr2.out]
  go_wp2
  go_ret
  exact ⟨rfl, q2, _, grow3 W _ _ _ q2⟩
theorem below_grow (W : World) (q : Nat) (os : Array Obj) : Below W.heap.size W (grow (W.drewN q) os) :=
  ⟨rfl, rfl, rfl, by simp [grow], fun k hk => heap_grow_old _ _ hk⟩
theorem compareIDs_any (x1 x2 y1 y2 : Int) (w : World) : Calls Tryz.prog 111 #[.agg #[.int .u64 x1, .int .i64 x2], .agg #[.int .u64 y1, .int .i64 y2]] w (Gives (.int .i64 (cmpID (x1, x2) (y1, y2))) w) :=
  (compareIDs_grow x1 x2 y1 y2 w).mono fun _ _ ⟨he, q, os, hw⟩ => ⟨he, hw ▸ below_grow w q os⟩
theorem acmp_any (x1 x2 y1 y2 : Int) (w : World) : Calls Tryz.prog 55 #[.agg #[.int .u64 x1, .int .i64 x2], .agg #[.int .u64 y1, .int .i64 y2]] w (Gives (.int .i64 (cmpID (x1, x2) (y1, y2))) w) :=
  (acmp_grow x1 x2 y1 y2 w).mono fun _ _ ⟨he, q, os, hw⟩ => ⟨he, hw ▸ below_grow w q os⟩
theorem pcmp_any (x1 x2 y1 y2 : Int) (w : World) : Calls Tryz.prog 90 #[.agg #[.int .u64 x1, .int .i64 x2], .agg #[.int .u64 y1, .int .i64 y2]] w (Gives (.int .i64 (cmpID (x1, x2) (y1, y2))) w) :=
  (pcmp_grow x1 x2 y1 y2 w).mono fun _ _ ⟨he, q, os, hw⟩ => ⟨he, hw ▸ below_grow w q os⟩
def ltID (x y : ID) : Bool := decide (x.1 < y.1 ∨ x.1 = y.1 ∧ x.2 < y.2)
theorem lt_cmpID (x y : ID) : ltOf cmpID x y = ltID x y := by
  unfold ltOf cmpID orI Lib.compareInt ltID
  by_cases h1 : x.1 < y.1
  · simp [h1]
  · by_cases h2 : y.1 < x.1
    · have : ¬ x.1 = y.1 := by omega
      simp [h1, h2, this]
    · have : x.1 = y.1 := by omega
      by_cases h3 : x.2 < y.2
      · simp [this, h3]
      · by_cases h4 : y.2 < x.2 <;> simp [this, h3, h4]
theorem cmpID_lt {x y : ID} (h : ltID x y = true) : cmpID x y < 0 := by
  have := lt_cmpID x y
  rw [h] at this
  simpa [ltOf] using this
theorem cmpID_ge {x y : ID} (h : ltID x y = false) : 0 ≤ cmpID x y := by
  have := lt_cmpID x y
  rw [h] at this
  simpa [ltOf] using this
theorem cmpID_bd (x y : ID) : -1 ≤ cmpID x y ∧ cmpID x y ≤ 1 := by
  unfold cmpID orI Lib.compareInt
  repeat' split
  all_goals omega
set_option maxHeartbeats 1000000 in
theorem Less_any (x1 x2 y1 y2 : Int) (w : World) : Calls Tryz.prog 71 #[.agg #[.int .u64 x1, .int .i64 x2], .agg #[.int .u64 y1, .int .i64 y2]] w (Gives (.bool (ltID (x1, x2) (y1, y2))) w) := by
  have fin : ∀ b : Bool, ltID (x1, x2) (y1, y2) = b → ∀ W, W = (w.alloc (.cells #[.int .u64 x1, .int .i64 x2] 36)).alloc (.cells #[.int .u64 y1, .int .i64 y2] 36) → Gives (.bool (ltID (x1, x2) (y1, y2))) w (.returned (.bool b)) W := by
    rintro b h W rfl
    exact ⟨by rw [h], (bel1 _ _).alloc (by simp) _⟩
  by_cases h1 : x1 < y1
  · go_enter Tryz.func71, Tryz.ntmps71
    go_wp2_with fail
    go_ret
    exact fin _ (by simp [ltID]; omega) _ rfl
  · by_cases h2 : x1 = y1
    · subst h2
      by_cases h3 : x2 < y2
      · have V : Hid (ltID (x1, x2) (x1, y2) = true) := by simp [Hid, ltID]; omega
        go_enter Tryz.func71, Tryz.ntmps71
        go_wp2_with fail
        go_ret
        exact fin _ V.out _ rfl
      · have V : Hid (ltID (x1, x2) (x1, y2) = false) := by simp [Hid, ltID]; omega
        go_enter Tryz.func71, Tryz.ntmps71
        go_wp2_with fail
        go_ret
        exact fin _ V.out _ rfl
    · have hb : (x1 == y1) = false := by rw [beq_eq_false_iff_ne]; exact h2
      have V : Hid (ltID (x1, x2) (y1, y2) = false) := by simp [Hid, ltID]; omega
      go_enter Tryz.func71, Tryz.ntmps71
      go_wp2_with fail
      go_ret
      exact fin _ V.out _ rfl
theorem swoID : SWO (ltOf cmpID) where
  irrefl x := by rw [lt_cmpID]; simp [ltID]
  trans x y z h1 h2 := by rw [lt_cmpID] at *; simp [ltID] at *; omega
  ntrans x y z h1 h2 := by rw [lt_cmpID] at *; simp [ltID] at *; omega
end Go.Proofs.YtmiknfneeipkeaaGreat
namespace Go.Proofs.YtmiknfneeipkeaaGreat
open Go.RowKit Go.MapKept Go.ChangeMaps Go.Shelf Go.Sort
attribute [local go_sem] wext_cell
abbrev id0 : ID := (0, 0)
def RowI (w : World) (g : Nat) (l : List ID) : Prop := ∃ cur, IsB w g 36 cur ∧ l.length * 2 ≤ cur.size ∧ ∀ j, j < l.length → cur[j * 2]? = some (.int .u64 (l.getD j id0).1) ∧ cur[j * 2 + 1]? = some (.int .i64 (l.getD j id0).2)
theorem RowI.on {w w' : World} {g : Nat} {l : List ID} (h : RowI w g l) (hb : Below w.heap.size w w') : RowI w' g l := by
  obtain ⟨cur, h1, h2⟩ := h
  exact ⟨cur, h1.on hb, h2⟩
theorem RowI.cells {w : World} {g : Nat} {l : List ID} (h : RowI w g l) {j : Nat} (hj : j < l.length) {x : ID} (hx : l.getD j id0 = x) : w.cell? ⟨g, j * 2, none⟩ = some (.int .u64 x.1) ∧ w.cell? ⟨g, j * 2 + 1, none⟩ = some (.int .i64 x.2) ∧ w.frozen? ⟨g, j * 2, none⟩ = false ∧ w.frozen? ⟨g, j * 2 + 1, none⟩ = false := by
  obtain ⟨cur, h1, h2, h3⟩ := h
  subst hx
  exact ⟨(h1.cell _).trans (h3 j hj).1, (h1.cell _).trans (h3 j hj).2, h1.frozen _, h1.frozen _⟩
theorem RowI.put {w : World} {g : Nat} {l : List ID} (h : RowI w g l) (k : Nat) (hk : k < l.length) (x : ID) : RowI ((w.setCell ⟨g, k * 2, none⟩ (.int .u64 x.1)).setCell ⟨g, k * 2 + 1, none⟩ (.int .i64 x.2)) g (l.set k x) := by
  obtain ⟨cur, h1, h2, h3⟩ := h
  refine ⟨_, (h1.set_ (k * 2) (.int .u64 x.1)).set_ (k * 2 + 1) (.int .i64 x.2), by simp; omega, fun j hj => ?_⟩
  simp only [List.length_set] at hj
  obtain ⟨c0, c1⟩ := h3 j hj
  by_cases e : k = j
  · subst e
    have e1 : (l.set k x).getD k id0 = x := by rw [List.getD_eq_getElem?_getD, List.getElem?_set_self hk]; rfl
    rw [e1]
    refine ⟨?_, ?_⟩
    · rw [Array.getElem?_setIfInBounds_ne (by omega), Array.getElem?_setIfInBounds_self_of_lt (by omega)]
    · rw [Array.getElem?_setIfInBounds_self_of_lt (by simp; omega)]
  · have e1 : (l.set k x).getD j id0 = l.getD j id0 := by rw [List.getD_eq_getElem?_getD, List.getElem?_set_ne e, List.getD_eq_getElem?_getD]
    rw [e1]
    refine ⟨?_, ?_⟩
    · rw [Array.getElem?_setIfInBounds_ne (by omega), Array.getElem?_setIfInBounds_ne (by omega)]; exact c0
    · rw [Array.getElem?_setIfInBounds_ne (by omega), Array.getElem?_setIfInBounds_ne (by omega)]; exact c1
def riOb (A : Option Addr) (ys : List ID) : Ob where
  own := fun _ => False
  rd := fun i => A = some ⟨i, 0, none⟩
  holds := fun w => (A = none → ys = []) ∧ ∀ ad, A = some ad → ∃ g, ad = ⟨g, 0, none⟩ ∧ RowI w g ys ∧ g < w.heap.size
  stable := fun w w' h hs hk => by
    refine ⟨h.1, fun ad e => ?_⟩
    obtain ⟨g, rfl, ⟨cur, hi, hr⟩, hlt⟩ := h.2 ad e
    exact ⟨g, rfl, ⟨cur, (hk g (.inr e)).trans hi, hr⟩, Nat.lt_of_lt_of_le hlt hs.2.2.2⟩
theorem own_rowI {w : World} {base g n cap : Nat} {xs : List ID} (h : w.ownsRow base 36 2 (.slice (some ⟨g, 0, none⟩) n cap) n (xs.flatMap encID)) : n = xs.length ∧ RowI w g xs ∧ g < w.heap.size ∧ base ≤ g := by
  have hl := h.1
  rw [flat_len encID_len] at hl
  have hn : n = xs.length := by omega
  have hlt := h.lt g rfl
  refine ⟨hn, ?_, hlt.2, hlt.1⟩
  rcases h.2 with ⟨hv, _⟩ | ⟨g', cap', cur, hv, _, hh, hc1, hcs, hcs2, htk⟩
  · cases hv
  · injection hv with h1 h2 h3
    injection h1 with h1
    injection h1 with h1
    subst h1
    refine ⟨cur, hh, ?_, fun j hj => ?_⟩
    · show xs.length * 2 ≤ cur.size
      have := congrArg List.length htk
      rw [List.length_take, flat_len encID_len] at this
      simp at this
      omega
    · have e0 := flat_at encID_len id0 xs j 0 hj (by omega)
      have e1 := flat_at encID_len id0 xs j 1 hj (by omega)
      rw [← htk, List.getElem?_take_of_lt (by omega)] at e0 e1
      exact ⟨by simpa [encID] using e0, by simpa [encID] using e1⟩
theorem two_new (W : World) (x y : Value) (t : TypeId) (H : Nat) (hH : W.heap.size = H) : ∀ j u, [x, y][j]? = some u → (W.alloc (.cells #[x, y] t)).cell? ((⟨H, 0, none⟩ : Addr).add j) = some u := by
  intro j u hu
  rw [lit_add, Nat.zero_add, new_cell W t #[x, y] H hH j]
  simpa using hu
section
variable {b : Nat} {w0 w w' : World} {l t : List Ob} {o o' : Ob}
theorem SW.rowRi {A : Option Addr} {cap : Nat} {F : List ID} (h : SW b w0 (rowOb 36 2 (.slice A F.length cap) F.length (F.flatMap encID) :: t) w) : SW b w0 (riOb A F :: t) w := by
  have hh : w.ownsRow 0 36 2 (.slice A F.length cap) F.length (F.flatMap encID) := h.get 0 (o := rowOb 36 2 (.slice A F.length cap) F.length (F.flatMap encID)) rfl
  refine h.asRead (o' := riOb A F) ?_ (fun i hi => hi) (fun i hi => ?_)
  · by_cases hF : F.length = 0
    · have hF' : F = [] := List.eq_nil_of_length_eq_zero hF
      subst hF'
      refine ⟨fun _ => rfl, fun ad e => ?_⟩
      rcases hh.2 with ⟨hv, _⟩ | ⟨g, cap', cur, hv, _⟩
      · injection hv with hv
        rw [e] at hv
        cases hv
      · subst e
        injection hv with h1
        injection h1 with h1
        subst h1
        obtain ⟨_, h2, h3, _⟩ := own_rowI hh
        exact ⟨g, rfl, h2, h3⟩
    · obtain ⟨g, c', e⟩ := own_some hh hF
      injection e with e1 e2 e3
      subst e1
      obtain ⟨_, h2, h3, _⟩ := own_rowI hh
      exact ⟨(fun e => by cases e), fun ad e => by injection e with e; exact ⟨g, e.symm, h2, h3⟩⟩
  · have hi : A = some ⟨i, 0, none⟩ := hi
    show (Value.slice A F.length cap).ownBlock = some i
    rw [hi]
    rfl
theorem SW.start {w : World} {o : Ob} (h : o.holds w) (ho : ∀ i, ¬ o.own i) (hr : ∀ i, o.rd i → i < w.heap.size) : SW w.heap.size w [o] w :=
  (SW.refl (Sep.nil w (Nat.le_refl _))).also h ho hr (fun _ _ y hy => by cases hy)
theorem SW.fuse {b : Nat} {w0 w : World} {pre t : List Ob} {o' : Ob} (h : SW b w0 (pre ++ t) w) (hh : o'.holds w) (ho : ∀ i, ¬ o'.own i) (hr : ∀ i, o'.rd i → ∃ o ∈ pre, o.own i ∨ o.rd i) : SW b w0 (o' :: t) w := by
  obtain ⟨_, hpt, hap⟩ := List.pairwise_append.1 h.1.apart
  refine ⟨⟨h.1.base, fun y hy => ?_, fun y hy i hi => ?_, fun y hy i hi => ?_, List.pairwise_cons.2 ⟨fun y hy => ⟨fun i hi => absurd hi (ho i), fun i hi hr' => ?_⟩, hpt⟩⟩, h.2⟩
  · rcases List.mem_cons.1 hy with rfl | hy
    · exact hh
    · exact h.1.holds y (List.mem_append_right _ hy)
  · rcases List.mem_cons.1 hy with rfl | hy
    · exact absurd hi (ho i)
    · exact h.1.own y (List.mem_append_right _ hy) i hi
  · rcases List.mem_cons.1 hy with rfl | hy
    · obtain ⟨o, hm, h1 | h1⟩ := hr i hi
      · exact (h.1.own o (List.mem_append_left _ hm) i h1).2
      · exact h.1.rd o (List.mem_append_left _ hm) i h1
    · exact h.1.rd y (List.mem_append_right _ hy) i hi
  · obtain ⟨o, hm, h1 | h1⟩ := hr i hr'
    · exact ((hap o hm y hy).1 i h1).1 hi
    · exact (hap o hm y hy).2 i hi h1
theorem rdID_of {w : World} {A : Option Addr} {ids : List ID} (h : (riOb A ids).holds w) : RdID w w.heap.size A ids := by
  intro hp
  cases A with
  | none =>
    have := h.1 rfl
    rw [this] at hp
    simp at hp
  | some ad =>
    obtain ⟨g, rfl, hr, hlt⟩ := h.2 ad rfl
    refine ⟨g, 0, rfl, hlt, by omega, fun j hj i v hv => ?_⟩
    obtain ⟨a0, a1, _, _⟩ := hr.cells hj rfl
    match i, hv with
    | 0, hv =>
      simp [encID] at hv
      subst hv
      simpa using a0
    | 1, hv =>
      simp [encID] at hv
      subst hv
      simpa using a1
    | i + 2, hv => simp [encID] at hv
theorem encID_all (ids : List ID) : ∀ u ∈ ids.flatMap encID, u.oneCell' = true := fun u hu => by
  obtain ⟨i, _, hi⟩ := List.mem_flatMap.1 hu
  exact encID_one i u hi
end
def bufOb (d : BD) (bs : List UInt8) : Ob where
  own := fun i => blk d = some i
  rd := fun _ => False
  holds := fun w => RB w d bs
  stable := fun w w' h hs hk => by
    have hc : Ch w w' (fun i => ¬ blk d = some i) [] := ⟨hs.1, hs.2.1, hs.2.2.1, hs.2.2.2, fun i _ hn _ => hk i (.inl (Classical.not_not.1 hn)), by simp⟩
    exact h.ch hc (fun g hg hn => hn hg) (by simp)
def rsOb (A : Option Addr) (bs : List UInt8) : Ob where
  own := fun _ => False
  rd := fun i => 0 < bs.length ∧ ∃ o, A = some ⟨i, o, none⟩
  holds := fun w => RS w A bs
  stable := fun w w' h hs hk => by
    refine ⟨h.1, fun ad e hp => ?_⟩
    obtain ⟨g, o, rfl, hc⟩ := h.2 ad e hp
    refine ⟨g, o, rfl, fun j hj => ?_⟩
    have h2 := hk g (.inr ⟨by omega, o, e⟩)
    rw [← hc j hj]
    simp [World.cell?, h2]
theorem AppB.fr {w w' : World} {d d' : BD} {bs bs' : List UInt8} (h : AppB w d bs' d' w') (hr : RB w d bs) : Fr w w' (bufOb d bs).own (bufOb d' bs').own := by
  obtain ⟨_, ⟨e1, _, _, hc⟩ | ⟨H, e1, e2, hb⟩⟩ := h
  · refine ⟨hc.os, hc.tape, hc.output, hc.size, fun i hi hn => hc.block i hi (fun h => h) (fun p hp he => hn ?_), fun i hi => .inl ?_⟩
    · obtain ⟨A, n, c⟩ := d
      cases A with
      | none => simp [room] at hp
      | some ad =>
        obtain ⟨g, cur, rfl, _⟩ := hr.2.2.2 ad rfl
        simp [room] at hp
        obtain ⟨_, rfl⟩ := hp
        show blk _ = some i
        rw [← he]
        rfl
    · show blk d = some i
      rw [← e1]
      exact hi
  · exact Fr.new hb (fun i hi => .inr (by
      have h1 : blk d' = some i := hi
      rw [e1] at h1
      injection h1 with h1
      omega))
theorem Sep.app {b : Nat} {w w' : World} {l : List Ob} (h : Sep b w l) (k : Nat) {d d' : BD} {bs bs' : List UInt8} (hk : l[k]? = some (bufOb d bs)) (ha : AppB w d bs' d' w') : Sep b w' (l.set k (bufOb d' bs')) ∧ Below b w w' := by
  have hr : RB w d bs := h.get hk
  refine h.stepAt k hk (ha.fr hr) (fun i hi => hi.elim) ha.1 (fun i hi => ?_)
  rcases hi with hi | hi
  · exact ha.1.lt hi
  · exact hi.elim
section
variable {w w' : World} {t : TypeId} {sz n : Nat} {A : Option Addr} {xs : List Value}
theorem RowV.of_own {c : Nat} (h : w.ownsRow 0 t sz (.slice A n c) n xs) : RowV w t sz A n xs ∧ n ≤ c := by
  refine ⟨⟨h.1, ?_⟩, ?_⟩
  · rcases h.2 with ⟨hv, h2⟩ | ⟨g, cap, cur, hv, _, hh, hc1, hcs, hcs2, htk⟩
    · exact .inl h2
    · injection hv with e1 e2 e3
      exact .inr ⟨g, cur, e1, hh, htk⟩
  · rcases h.2 with ⟨hv, h2⟩ | ⟨g, cap, cur, hv, _, hh, hc1, hcs, hcs2, htk⟩
    · omega
    · injection hv with e1 e2 e3
      omega
end
structure BS where
  d : BD
  bs : List UInt8
def bs0 : BS := ⟨⟨none, 0, 0⟩, []⟩
def encB (e : BS) : List Value := [.slice e.d.A e.d.len e.d.cap]
theorem encB_len (e : BS) : (encB e).length = 1 := rfl
def blOb (A : Option Addr) (T : List BS) : Ob where
  own := fun _ => False
  rd := fun i => (0 < T.length ∧ A = some ⟨i, 0, none⟩) ∨ ∃ e ∈ T, blk e.d = some i
  holds := fun w => RowV w 40 1 A T.length (T.flatMap encB) ∧ ∀ e ∈ T, RB w e.d e.bs
  stable := fun w w' h hs hk => by
    refine ⟨h.1.same (fun i hn e => hk i (.inr (.inl ⟨hn, e⟩))), fun e he => ?_⟩
    have hc : Ch w w' (fun i => ¬ blk e.d = some i) [] := ⟨hs.1, hs.2.1, hs.2.2.1, hs.2.2.2, fun i _ hn _ => hk i (.inr (.inr ⟨e, he, Classical.not_not.1 hn⟩)), by simp⟩
    exact (h.2 e he).ch hc (fun g hg hn => hn hg) (by simp)
theorem blOb_at {w : World} {A : Option Addr} {T : List BS} (h : (blOb A T).holds w) {j : Nat} (hj : j < T.length) {e : BS} (he : T.getD j bs0 = e) : ∃ g, A = some ⟨g, 0, none⟩ ∧ g < w.heap.size ∧ w.cell? ⟨g, j, none⟩ = some (.slice e.d.A e.d.len e.d.cap) ∧ RB w e.d e.bs := by
  obtain ⟨g, e1, hlt, hc⟩ := h.1.at (by omega)
  refine ⟨g, e1, hlt, ?_, h.2 e ?_⟩
  · have := flat_at encB_len bs0 T j 0 hj (by omega)
    rw [he] at this
    rw [hc j (by omega)]
    simpa [encB] using this
  · rw [← he, List.getD_eq_getElem?_getD, List.getElem?_eq_getElem hj]
    exact List.getElem_mem hj
theorem SW.rowBl {b : Nat} {w0 w : World} {A : Option Addr} {c : Nat} {T : List BS} {t : List Ob} (h : SW b w0 (rowOb 40 1 (.slice A T.length c) T.length (T.flatMap encB) :: t) w) (hb : ∀ e ∈ T, RB w e.d e.bs) : RowV w 40 1 A T.length (T.flatMap encB) :=
  (RowV.of_own (h.get 0 (o := rowOb 40 1 (.slice A T.length c) T.length (T.flatMap encB)) rfl)).1
def bufsOb (T : List BS) : Ob where
  own := fun _ => False
  rd := fun i => ∃ e ∈ T, blk e.d = some i
  holds := fun w => ∀ e ∈ T, RB w e.d e.bs
  stable := fun w w' h hs hk e he => by
    have hc : Ch w w' (fun i => ¬ blk e.d = some i) [] := ⟨hs.1, hs.2.1, hs.2.2.1, hs.2.2.2, fun i _ hn _ => hk i (.inr ⟨e, he, Classical.not_not.1 hn⟩), by simp⟩
    exact (h e he).ch hc (fun g hg hn => hn hg) (by simp)
section
variable {b : Nat} {w0 w w' : World} {l t : List Ob} {o o' : Ob}
theorem SW.fuseB {d : BD} {bs : List UInt8} {T : List BS} (h : SW b w0 (bufOb d bs :: bufsOb T :: l) w) : SW b w0 (bufsOb (T ++ [(⟨d, bs⟩ : BS)]) :: l) w :=
  SW.fuse (pre := [bufOb d bs, bufsOb T]) h (fun e he => by
    rcases List.mem_append.1 he with he | he
    · exact (h.get 1 (o := bufsOb T) rfl) e he
    · rw [List.mem_singleton.1 he]
      exact h.get 0 (o := bufOb d bs) rfl) (fun _ h => h) (fun i hi => by
    obtain ⟨e, he, hb⟩ := hi
    rcases List.mem_append.1 he with he | he
    · exact ⟨bufsOb T, by simp, .inr ⟨e, he, hb⟩⟩
    · rw [List.mem_singleton.1 he] at hb
      exact ⟨bufOb d bs, by simp, .inl hb⟩)
theorem SW.noBufs (h : SW b w0 l w) : SW b w0 (bufsOb [] :: l) w := SW.fuse (pre := []) h (fun e he => by cases he) (fun _ h => h) (fun i hi => by
  obtain ⟨e, he, _⟩ := hi
  cases he)
theorem SW.fuseL {A : Option Addr} {c : Nat} {T : List BS} (h : SW b w0 (rowOb 40 1 (.slice A T.length c) T.length (T.flatMap encB) :: bufsOb T :: l) w) : SW b w0 (blOb A T :: l) w := by
  have hb : ∀ e ∈ T, RB w e.d e.bs := h.get 1 (o := bufsOb T) rfl
  refine SW.fuse (pre := [rowOb 40 1 (.slice A T.length c) T.length (T.flatMap encB), bufsOb T]) h ⟨h.rowBl hb, hb⟩ (fun _ h => h) (fun i hi => ?_)
  rcases hi with ⟨hp, e⟩ | ⟨e, he, hb⟩
  · refine ⟨_, List.mem_cons_self .., .inl ?_⟩
    show (Value.slice A T.length c).ownBlock = some i
    rw [e]
    rfl
  · exact ⟨bufsOb T, by simp, .inr ⟨e, he, hb⟩⟩
end
end Go.Proofs.YtmiknfneeipkeaaGreat
