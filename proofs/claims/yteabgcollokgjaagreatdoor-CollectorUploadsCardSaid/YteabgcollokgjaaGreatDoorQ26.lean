/- RM in one text. -/
import Derived.Test.YteabgcollokgjaaGreatDoorQ12
import Derived.Test.YteabgcollokgjaaGreatDoorQ25
set_option linter.unusedSimpArgs false
set_option linter.unusedVariables false
namespace Go.Proofs.YteabgcollokgjaaGreatDoor
open Go.RowKit Go.MapKept Go.ChangeMaps Go.Shelf Go.Sort

theorem append_zero_run (w : World) (t ty e : TypeId) (i : TypeInfo) (size : Nat) (ht : Tryz.prog.underlying t = some (.slice e)) (hi : Tryz.prog.info? e = some i)
 (v : Value) (n : Nat) (xs : List Value) (hown : w.ownsRow 0 e size v n xs) (A : Option Addr) (c : Nat) : (Builtin.append_ #[t, t] ty #[v, .slice A 0 c]).run Tryz.prog w = .ok v w := by
 rcases hown.2 with ⟨rfl, rfl⟩ | ⟨g, cap, cur, rfl, _, _, hnc, _⟩
 · cases A with
   | none => simp [Builtin.append_, run_underlying ht, sizeOf, typeInfo, hi, Builtin.lenOf, Builtin.firstCells]
   | some ad =>
    have h0 := run_loadCells_list (P := Tryz.prog) w ad [] (fun j v hj => by simp at hj)
    simp only [List.length_nil] at h0
    simp [Builtin.append_, run_underlying ht, sizeOf, typeInfo, hi, Builtin.lenOf, Builtin.firstCells, h0]
 · cases A with
   | none => simp [Builtin.append_, run_underlying ht, sizeOf, typeInfo, hi, Builtin.lenOf, Builtin.firstCells, hnc, storeCells]
   | some ad =>
    have h0 := run_loadCells_list (P := Tryz.prog) w ad [] (fun j v hj => by simp at hj)
    simp only [List.length_nil] at h0
    simp [Builtin.append_, run_underlying ht, sizeOf, typeInfo, hi, Builtin.lenOf, Builtin.firstCells, hnc, h0, storeCells]
section
variable {b : Nat} {w0 w w' : World} {l : List Ob}
/-- Elements are appended to a row. -/
theorem step_rowM {ops : Array Oper} {o : Oper} {a : Act} {K : Act → World → Prop} {Q : Exit → Act → World → Prop} {E : Prop} {t e : TypeId} {i : TypeInfo} {z : Value} {size bytes : Nat} (hS : SW b w0 l w) (k : Nat) {v : Value} {n : Nat} {xs : List Value} (hk : l[k]? = some (rowOb e size v n xs))
 (hgd : o.guard = none) (s x : Operand) (ho : o.op = .call { callee := .builtin .append, args := #[s, x], argTypes := #[t, t] })
 (ht : Tryz.prog.underlying t = some (.slice e)) (hi : Tryz.prog.info? e = some i) (hz : i.zero = some z) (hsize : i.size = size) (hby : i.bytes = bytes) (hzs : z.cells.size = size) (hsz : 0 < size)
 (hs : a.eval s = v) (A : Option Addr) (m c : Nat) (news : List Value) (hx : a.eval x = .slice A m c) (hl : news.length = m * size) (hA : 0 < m → ∃ ad, A = some ad ∧ ∀ j u, news[j]? = some u → w.cell? (ad.add j) = some u) (h1 : ∀ u ∈ news, u.oneCell' = true)
 (h63 : n + m ≤ maxLen) (hbytes : (n + m) * bytes ≤ 140737488355328)
 (h : ∀ v' w', SW b w0 (l.set k (rowOb e size v' (n + m) (xs ++ news))) w' → K (a.put o.dst v') w') :
 if Region.wanted o (yielded ops a.tmps) = true then Oper.wp Tryz.prog o a w K Q else E := by
 rcases Nat.eq_zero_or_pos m with rfl | hm
 · have hw : Region.wanted o (yielded ops a.tmps) = true := by simp [Region.wanted, hgd]
   rw [if_pos hw]
   have hn : news = [] := List.eq_nil_of_length_eq_zero (by simpa using hl)
   subst hn
   have hrun := append_zero_run w t o.type e i size ht hi v n xs (hS.get k hk) A c
   unfold Oper.wp execOp
   simp only [ho, resolve, invoke, builtin, Sem.run_bind, Sem.run_pure, Result.andThen_ok, List.map_toArray, List.map_cons, List.map_nil, hs, hx, hrun]
   refine h v w ?_
   have e : l.set k (rowOb e size v (n + 0) (xs ++ [])) = l := by
    rw [List.append_nil]
    exact set_self l k _ hk
   rw [e]
   exact hS
 · obtain ⟨ad, rfl, hnews⟩ := hA hm
   exact step_append_row hgd s x t ho e i z size bytes ht hi hz hsize hby hzs hsz v n xs hs (hS.get k hk) ad m c news hx hl hnews h1 hm h63 hbytes (fun v' w' h2 hg hv => h v' w' (hS.row k hk h2 hg hv))
end
section
variable {w : World} (t e : TypeId) (sz : Nat) (A : Option Addr) (n c i : Nat)
theorem elem_of (ht : Tryz.prog.underlying t = some (.slice e)) : Tryz.prog.elem t = e := by
 simp [Program.elem, ht]
theorem slice_to (ht : Tryz.prog.underlying t = some (.slice e)) (hz : ∀ w, (sizeOf e).run Tryz.prog w = .ok sz w) (hi : i ≤ n) (hc : n ≤ c) :
 (Instr.slice t (.slice A n c) none (some (.int .i64 (i : Int))) none).run Tryz.prog w = .ok (.slice A i c) w := by
 have he := elem_of t e ht
 have ht' : Tryz.prog.underlying t = some (.slice (Tryz.prog.elem t)) := by rw [he]; exact ht
 rw [Go.run_slice_h (w := w) t A n c ht' .i64 (i : Int) (by omega) (by omega), he, hz]
 simp only [Result.andThen, sliced, Int.toNat_natCast, Nat.sub_zero, Nat.zero_mul]
 have e : (if c = 0 then A else A.map (·.add 0)) = A := by
  split
  · rfl
  · cases A with
    | none => rfl
    | some ad => simp [Addr.add]
 rw [e]
theorem slice_from (ht : Tryz.prog.underlying t = some (.slice e)) (hz : ∀ w, (sizeOf e).run Tryz.prog w = .ok sz w) (hi : i ≤ n) (hc : n ≤ c) :
 ∃ A', (∀ w, (Instr.slice t (.slice A n c) (some (.int .i64 (i : Int))) none none).run Tryz.prog w = .ok (.slice A' (n - i) (c - i)) w) ∧ (i < n → ∀ g, A = some ⟨g, 0, none⟩ → A' = some ⟨g, i * sz, none⟩) := by
 have he := elem_of t e ht
 have ht' : Tryz.prog.underlying t = some (.slice (Tryz.prog.elem t)) := by rw [he]; exact ht
 refine ⟨if c = i then A else A.map (·.add (i * sz)), fun w => ?_, fun hlt g hg => ?_⟩
 · rw [Go.run_slice_l (w := w) t A n c ht' .i64 (i : Int) (by omega) (by omega), he, hz]
   simp only [Result.andThen, sliced, Int.toNat_natCast]
 · rw [if_neg (by omega), hg]
   simp only [Option.map_some, Option.some.injEq]
   by_cases h0 : i * sz = 0 <;> simp [Addr.add, h0]
end
/-- Two rows that grow side by side, and the two blocks that are appended to them. -/
def o6 (g : Option Nat) (cs : Array Value) : List Ob := match g with | none => [] | some g => [cellOb g 65 cs]
def o18 (g : Option Nat) : List Ob := match g with | none => [] | some g => [cellOb g 4 #[.bool true]]
def PX (b : Nat) (w0 : World) (bl : List Ob) (cs : Array Value) (va : Value) (na : Nat) (xa : List Value) (vb : Value) (nb : Nat) (xb : List Value) (g6 g18 : Option Nat) (w : World) : Prop :=
 SW b w0 (rowOb 65 3 va na xa :: rowOb 4 1 vb nb xb :: (o6 g6 cs ++ o18 g18 ++ bl)) w
section
variable {b : Nat} {w0 w w' : World} {bl : List Ob} {cs : Array Value} {va vb : Value} {na nb : Nat} {xa xb : List Value} {g6 g18 : Option Nat}
theorem PX.bas (h : PX b w0 bl cs va na xa vb nb xb g6 g18 w) : SW b w0 bl w := by
 refine SW.sub h ?_
 exact ((List.sublist_append_right _ _).cons _).cons _
theorem PX.six (h : PX b w0 bl cs va na xa vb nb xb none g18 w) : PX b w0 bl cs va na xa vb nb xb (some w.heap.size) g18 (w.alloc (.cells cs 65)) :=
 SW.front (pre := [_, _, _]) (t := o18 g18 ++ bl) (SW.newCell h 65 cs) [1, 2, 0] (n := 3) rfl (by decide)
theorem PX.eight (h : PX b w0 bl cs va na xa vb nb xb g6 none w) : PX b w0 bl cs va na xa vb nb xb g6 (some w.heap.size) (w.alloc (.cells #[.bool true] 4)) := by
 cases g6 with
 | none => exact SW.front (pre := [_, _, _]) (t := bl) (SW.newCell h 4 #[.bool true]) [1, 2, 0] (n := 3) rfl (by decide)
 | some g => exact SW.front (pre := [_, _, _, _]) (t := bl) (SW.newCell h 4 #[.bool true]) [1, 2, 3, 0] (n := 4) rfl (by decide)
theorem PX.cell6 {g : Nat} (h : PX b w0 bl cs va na xa vb nb xb (some g) g18 w) (j : Nat) : w.cell? ⟨g, j, none⟩ = cs[j]? := (SW.cell h 2 rfl).cell j
theorem PX.cell18 {g : Nat} (h : PX b w0 bl cs va na xa vb nb xb g6 (some g) w) : w.cell? ⟨g, 0, none⟩ = some (.bool true) := by
 cases g6 with
 | none => exact (SW.cell h 2 rfl).cell 0
 | some g' => exact (SW.cell h 3 rfl).cell 0
theorem PX.rows (h : PX b w0 bl cs va na xa vb nb xb g6 g18 w) : w.ownsRow 0 65 3 va na xa ∧ w.ownsRow 0 4 1 vb nb xb := ⟨SW.get h 0 rfl, SW.get h 1 rfl⟩
end
section
variable {w : World} {t : TypeId} {sz : Nat} {A : Option Addr} {n : Nat} {xs : List Value}
theorem RowV.src_take (h : RowV w t sz A n xs) {K : Nat} (hK : K ≤ n) (hp : 0 < K) : ∃ ad, A = some ad ∧ ∀ j u, (xs.take (K * sz))[j]? = some u → w.cell? (ad.add j) = some u := by
 obtain ⟨g, e, _, hc⟩ := h.at (by omega)
 refine ⟨_, e, fun j u hu => ?_⟩
 have hj := (List.getElem?_eq_some_iff.1 hu).1
 rw [List.length_take] at hj
 rw [List.getElem?_take_of_lt (by omega)] at hu
 have hj2 : j < n * sz := by have := Nat.mul_le_mul_right sz hK; omega
 rw [lit_add, Nat.zero_add, hc j hj2, hu]
theorem RowV.src_drop (h : RowV w t sz A n xs) {K : Nat} {A' : Option Addr} (hA' : K < n → ∀ g, A = some ⟨g, 0, none⟩ → A' = some ⟨g, K * sz, none⟩) (hp : 0 < n - K) : ∃ ad, A' = some ad ∧ ∀ j u, (xs.drop (K * sz))[j]? = some u → w.cell? (ad.add j) = some u := by
 obtain ⟨g, e, _, hc⟩ := h.at (by omega)
 refine ⟨_, hA' (by omega) g e, fun j u hu => ?_⟩
 rw [List.getElem?_drop] at hu
 have hj := (List.getElem?_eq_some_iff.1 hu).1
 rw [h.1] at hj
 rw [lit_add, hc _ hj, hu]
end
end Go.Proofs.YteabgcollokgjaaGreatDoor
