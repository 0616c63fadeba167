/- AR AS A MP MQ in one text. -/
import Derived.WalkKit
import Derived.Laws.AppendOwn
import Derived.Laws.OwnMore
import Derived.OwnWalk
import Derived.ArgAppend
import Derived.Test.YteabgcollokgjaaGreatDoorProg
import Derived.Test.YteabgcollokgjaaGreatDoorQ01
import Derived.WalkSpells
import Derived.WalkLawsBesides
import Derived.Deep.QuietTactic
import Derived.BigQuiet
import Derived.Lib.Hide
import Derived.Maps.RangeWalk
import Derived.WideKeyEntry
namespace Go.Proofs.YteabgcollokgjaaGreatDoor
open Go.RowKit

section
variable {P : Program}
theorem append_nil_run (w : World) (base : Nat) (t ty e : TypeId) (i : TypeInfo) (size : Nat) (ht : P.underlying t = some (.slice e)) (hi : P.info? e = some i)
    (v : Value) (n : Nat) (xs : List Value) (hown : w.ownsRow base e size v n xs) (c : Nat) : (Builtin.append_ #[t, t] ty #[v, .slice none 0 c]).run P w = .ok v w := by
  rcases hown.2 with ⟨rfl, rfl⟩ | ⟨g, cap, cur, rfl, _, _, hnc, _⟩
  · simp [Builtin.append_, run_underlying ht, sizeOf, typeInfo, hi, Builtin.lenOf, Builtin.firstCells]
  · simp [Builtin.append_, run_underlying ht, sizeOf, typeInfo, hi, Builtin.lenOf, Builtin.firstCells, hnc, storeCells]

theorem wpList_append_opt {w : World} {ops : Array Oper} {rest : List Oper} {o : Oper} {a : Act} {Q : Exit → Act → World → Prop} (hgd : o.guard = none) (s x : Operand) (t : TypeId)
    (ho : o.op = .call { callee := .builtin .append, args := #[s, x], argTypes := #[t, t] })
    (base : Nat) (e : TypeId) (i : TypeInfo) (z : Value) (size bytes : Nat) (ht : P.underlying t = some (.slice e)) (hi : P.info? e = some i) (hz : i.zero = some z)
    (hsize : i.size = size) (hby : i.bytes = bytes) (hzs : z.cells.size = size) (hsz : 0 < size)
    (v : Value) (n : Nat) (xs : List Value) (hs : a.eval s = v) (hown : w.ownsRow base e size v n xs)
    (A : Option Addr) (m c : Nat) (news : List Value) (hx : a.eval x = .slice A m c) (hl : news.length = m * size)
    (hnil : A = none → m = 0) (hnews : ∀ ad, A = some ad → ∀ j u, news[j]? = some u → w.cell? (ad.add j) = some u) (h1 : ∀ u ∈ news, u.oneCell' = true)
    (h63 : n + m ≤ maxLen) (hbytes : (n + m) * bytes ≤ 140737488355328) (hbase : base ≤ w.heap.size)
    (h : ∀ v' w', w'.ownsRow base e size v' (n + m) (xs ++ news) → w.grownBy w' v.ownBlock → wpList P ops Q rest (a.put o.dst v') w') : wpList P ops Q (o :: rest) a w := by
  cases A with
  | none =>
    have hm : m = 0 := hnil rfl
    subst hm
    have hn : news = [] := List.eq_nil_of_length_eq_zero (by simpa using hl)
    subst hn
    refine wpList_plain hgd fun K hK => ?_
    have hrun := append_nil_run (P := P) w base t o.type e i size ht hi v n xs hown c
    unfold Oper.wp execOp
    simp only [ho, resolve, invoke, builtin, Sem.run_bind, Sem.run_pure, Result.andThen_ok, List.map_toArray, List.map_cons, List.map_nil, hs, hx, hrun]
    exact hK _ _ (h v w (by simpa using hown) ⟨rfl, rfl, rfl, Nat.le_refl _, fun _ _ _ => rfl⟩)
  | some ad =>
    exact wpList_append_own w hgd s x t ho base e i z size bytes ht hi hz hsize hby hzs hsz v n xs hs hown ad m c news hx hl (hnews ad rfl) h1 h63 hbytes hbase (fun v' w' h2 h3 _ => h v' w' h2 h3)
end
end Go.Proofs.YteabgcollokgjaaGreatDoor
namespace Go.Proofs.YteabgcollokgjaaGreatDoor
open Go.RowKit

section
variable {P : Program}
theorem append_block (w : World) (t ty e : TypeId) (i : TypeInfo) (z : Value) (ht : P.underlying t = some (.slice e)) (hi : P.info? e = some i) (hz : i.zero = some z)
    (v : Value) (n : Nat) (xs : List Value) (hown : w.ownsRow 0 e i.size v n xs) (a : Addr) (m c : Nat) (news : List Value) (hl : news.length = m * i.size) (hnews : ∀ j u, news[j]? = some u → w.cell? (a.add j) = some u)
    (h1 : ∀ u ∈ news, u.oneCell' = true) (hm : 0 < m) (h63 : n + m ≤ maxLen) (hbytes : (n + m) * i.bytes ≤ 140737488355328) {v' : Value} {w' : World}
    (hr : (Builtin.append_ #[t, t] ty #[v, .slice (some a) m c]).run P w = .ok v' w') : v'.ownBlock = v.ownBlock ∨ v'.ownBlock = some w.heap.size := by
  unfold maxLen at h63
  rcases hown.2 with ⟨rfl, rfl⟩ | ⟨g, cap, cur, rfl, _, hg, hnc, _, hcs, htk⟩
  · rw [run_append_nil w t ty e i z ht hi hz a m c news hl hnews hm (by omega) (by rw [Nat.zero_add] at hbytes; omega)] at hr
    injection hr with hv _
    subst hv
    exact .inr rfl
  · by_cases hroom : n + m ≤ cap
    · have hsz : (n + m) * i.size ≤ cap * i.size := Nat.mul_le_mul_right _ hroom
      rw [Nat.add_mul] at hsz
      rw [run_append_room_cells w t ty e i ht hi g 0 n cap a m c news hl hnews h1 hroom (fun j hj => by
        rw [cell_of_row w g _ cur e (0, 0) hg, Array.getElem?_eq_getElem (by omega)]
        rfl) (fun j hj => by simp [World.frozen?, hg])] at hr
      injection hr with hv _
      subst hv
      exact .inl rfl
    · rw [run_append_grow w t ty e i z ht hi hz ⟨g, 0, none⟩ n cap xs hown.1 (fun j u hu => by
        have hj : j < n * i.size := by
          have := (List.getElem?_eq_some_iff.1 hu).1
          rw [hown.1] at this
          exact this
        rw [show (⟨g, 0, none⟩ : Addr).add j = ⟨g, j, none⟩ by unfold Addr.add; split <;> simp_all, cell_of_row w g _ cur e (0, 0) hg, ← Array.getElem?_toList, ← hu, ← htk, List.getElem?_take_of_lt hj]) a m c news hl hnews (by omega) (by omega) (growslice_fits (by omega) hbytes)] at hr
      injection hr with hv _
      subst hv
      exact .inr rfl
theorem step_append_row {w : World} {ops : Array Oper} {o : Oper} {a : Act} {K : Act → World → Prop} {Q : Exit → Act → World → Prop} {E : Prop} (hgd : o.guard = none) (s x : Operand) (t : TypeId)
    (ho : o.op = .call { callee := .builtin .append, args := #[s, x], argTypes := #[t, t] })
    (e : TypeId) (i : TypeInfo) (z : Value) (size bytes : Nat) (ht : P.underlying t = some (.slice e)) (hi : P.info? e = some i) (hz : i.zero = some z)
    (hsize : i.size = size) (hby : i.bytes = bytes) (hzs : z.cells.size = size) (hsz : 0 < size)
    (v : Value) (n : Nat) (xs : List Value) (hs : a.eval s = v) (hown : w.ownsRow 0 e size v n xs)
    (ad : Addr) (m c : Nat) (news : List Value) (hx : a.eval x = .slice (some ad) m c) (hl : news.length = m * size) (hnews : ∀ j u, news[j]? = some u → w.cell? (ad.add j) = some u) (h1 : ∀ u ∈ news, u.oneCell' = true)
    (hm : 0 < m) (h63 : n + m ≤ maxLen) (hbytes : (n + m) * bytes ≤ 140737488355328)
    (h : ∀ v' w', w'.ownsRow 0 e size v' (n + m) (xs ++ news) → w.grownBy w' v.ownBlock → v'.ownBlock = v.ownBlock ∨ v'.ownBlock = some w.heap.size → K (a.put o.dst v') w') :
    if Region.wanted o (yielded ops a.tmps) = true then Oper.wp P o a w K Q else E := by
  have hw : Region.wanted o (yielded ops a.tmps) = true := by simp [Region.wanted, hgd]
  rw [if_pos hw]
  subst hsize hby
  obtain ⟨v', w', hr, h2, h3, _⟩ := run_append_own (P := P) w 0 t o.type e i z i.size i.bytes ht hi hz rfl rfl hzs hsz v n xs hown ad m c news hl hnews h1 h63 hbytes (Nat.zero_le _)
  have h4 := append_block w t o.type e i z ht hi hz v n xs hown ad m c news hl hnews h1 hm h63 hbytes hr
  unfold Oper.wp execOp
  simp only [ho, resolve, invoke, builtin, Sem.run_bind, Sem.run_pure, Result.andThen_ok, List.map_toArray, List.map_cons, List.map_nil, hs, hx, hr]
  exact h v' w' h2 h3 h4
end
end Go.Proofs.YteabgcollokgjaaGreatDoor
namespace Go.Proofs.YteabgcollokgjaaGreatDoor
open Go.RowKit

/-- A number from 0 to n - 1; 0 if n is below 2. -/
def InN (n r : Int) : Prop := 0 ≤ r ∧ (1 < n → r < n) ∧ (n ≤ 1 → r = 0)
def SomeI (P : Int → Prop) (w : World) (e : Ending) (w' : World) : Prop := ∃ r, P r ∧ e = .returned (.int .i64 r) ∧ w = w'

theorem tmod_lt' (v n : Int) (h : 0 < n) : v.tmod n < n := Int.tmod_lt_of_pos v h
theorem tmod_gt' (v n : Int) (h : 0 < n) : -n < v.tmod n := by
  have := Int.tmod_lt_of_pos (-v) h
  rw [Int.neg_tmod] at this
  omega

set_option maxHeartbeats 400000 in
theorem Fold_any (v n : Int) (w : World) (hn : n ≤ 4294967296) : Calls Tryz.prog 24 #[.int .i64 v, .int .i64 n] w (SomeI (InN n) w) := by
  by_cases h1 : n ≤ 1
  · go_enter Tryz.func24, Tryz.ntmps24
    go_wp2
    go_ret
    exact ⟨0, ⟨by omega, by omega, fun _ => rfl⟩, rfl, rfl⟩
  · have t1 := tmod_lt' v n (by omega)
    have t2 := tmod_gt' v n (by omega)
    obtain ⟨t, ht⟩ : ∃ t, v.tmod n = t := ⟨_, rfl⟩
    rw [ht] at t1 t2
    have hn0 : (n == 0) = false := by rw [beq_eq_false_iff_ne]; omega
    have hnm : (n == -1) = false := by rw [beq_eq_false_iff_ne]; omega
    by_cases h2 : t < 0
    · go_enter Tryz.func24, Tryz.ntmps24
      go_wp2
      go_ret
      exact ⟨t + n, ⟨by omega, by omega, fun h => absurd h (by omega)⟩, rfl, rfl⟩
    · go_enter Tryz.func24, Tryz.ntmps24
      go_wp2
      go_ret
      exact ⟨t, ⟨by omega, by omega, fun h => absurd h (by omega)⟩, rfl, rfl⟩

/-- The tape's list of numbers, in a block ahead of x. -/
def RdT (w : World) (x : Nat) (A : Option Addr) (L : List Int) : Prop :=
  0 < L.length → ∃ b o, A = some ⟨b, o, none⟩ ∧ b < x ∧ ∀ j, j < L.length → w.cell? ⟨b, o + j, none⟩ = some (.int .i64 (L.getD j 0))
/-- Block x is a tape of which at most N numbers have been read. -/
def Tp (w : World) (x N : Nat) : Prop :=
  ∃ (A : Option Addr) (c at' : Nat) (L : List Int), IsB w x 50 #[.slice A L.length c, .int .i64 at'] ∧ at' ≤ N ∧ L.length ≤ 9223372036854775807 ∧ RdT w x A L
theorem Tp.lt {w : World} {x N : Nat} (h : Tp w x N) : x < w.heap.size := by
  obtain ⟨A, c, a, L, hb, _⟩ := h
  exact hb.lt
theorem RdT.keep {w w' : World} {x : Nat} {A : Option Addr} {L : List Int} (h : RdT w x A L) (hk : ∀ b o, b < x → w'.cell? ⟨b, o, none⟩ = w.cell? ⟨b, o, none⟩) : RdT w' x A L := by
  intro hp
  obtain ⟨b, o, e, hb, hc⟩ := h hp
  exact ⟨b, o, e, hb, fun j hj => by rw [hk _ _ hb]; exact hc j hj⟩
theorem Tp.kept {w w' : World} {x N : Nat} {row : Option Nat} (h : Tp w x N) (hg : w.grownBy w' row) (hr : ∀ k, row = some k → x < k) : Tp w' x N := by
  obtain ⟨A, c, a, L, h1, h2, h3, h4⟩ := h
  have hlt := h1.lt
  refine ⟨A, c, a, L, h1.grown hg (fun e => by have := hr x e.symm; omega), h2, h3, h4.keep fun b o hb => World.cell?_of_block (hg.block b (by omega) (fun e => by have := hr b e.symm; omega))⟩
theorem Tp.on {w w' : World} {x N : Nat} (h : Tp w x N) (hb : Below w.heap.size w w') : Tp w' x N := h.kept (only_of_below hb none) (by simp)
theorem Tp.alloc {w : World} {x N : Nat} (h : Tp w x N) (o : Obj) : Tp (w.alloc o) x N := h.on ((Below.refl _ _).alloc (Nat.le_refl _) o)
theorem Tp.drewN {w : World} {x N : Nat} (h : Tp w x N) (n : Nat) : Tp (w.drewN n) x N := h
theorem Tp.set_ {w : World} {x N : Nat} (h : Tp w x N) {p : Addr} (hp : x < p.block) (u : Value) : Tp (w.setCell p u) x N :=
  h.kept (row := some p.block) (g_set (g_refl _ _) (.inl rfl) _) (fun k hk => by injection hk with hk; omega)
theorem Tp.more {w : World} {x N M : Nat} (h : Tp w x N) (hN : N ≤ M) : Tp w x M := by
  obtain ⟨A, c, a, L, h1, h2, h3⟩ := h
  exact ⟨A, c, a, L, h1, by omega, h3⟩

def NextPost (n : Int) (x N : Nat) (w : World) (e : Ending) (w' : World) : Prop :=
  ∃ r, InN n r ∧ e = .returned (.int .i64 r) ∧ Tp w' x (N + 1) ∧ w.grownBy w' (some x)

theorem Tp.next {w : World} {x : Nat} {A : Option Addr} {c at' N n : Nat} {L : List Int} (h1 : IsB w x 50 #[.slice A L.length c, .int .i64 at']) (h2 : at' ≤ N) (h3 : L.length ≤ 9223372036854775807) (h4 : RdT w x A L) :
    Tp ((w.setCell ⟨x, 1, none⟩ (.int .i64 ((at' : Int) + 1))).drewN n) x (N + 1) ∧ w.grownBy ((w.setCell ⟨x, 1, none⟩ (.int .i64 ((at' : Int) + 1))).drewN n) (some x) := by
  have hg : w.grownBy ((w.setCell ⟨x, 1, none⟩ (.int .i64 ((at' : Int) + 1))).drewN n) (some x) := g_drewN (g_set (g_refl _ _) (.inl rfl) _) n
  refine ⟨⟨A, c, at' + 1, L, ?_, by omega, h3, h4.keep fun b o hb => g_cell hg (by have := h1.lt; omega) (by omega)⟩, hg⟩
  have := (h1.set_ 1 (.int .i64 ((at' : Int) + 1))).drewN n
  simpa using this

set_option maxHeartbeats 1000000 in
theorem Next_any (n : Int) (x N : Nat) (w : World) (hn : n ≤ 4294967296) (hN : N ≤ 1000000) (ht : Tp w x N) :
    Calls Tryz.prog 33 #[.pointer (some ⟨x, 0, none⟩), .int .i64 n] w (NextPost n x N w) := by
  obtain ⟨A, c, at', L, h1, h2, h3, h4⟩ := ht
  have hc0 : w.cell? ⟨x, 0, none⟩ = some (.slice A L.length c) := by rw [h1.cell]; rfl
  have hc1 : w.cell? ⟨x, 1, none⟩ = some (.int .i64 at') := by rw [h1.cell]; rfl
  have hf1 : w.frozen? ⟨x, 1, none⟩ = false := h1.frozen 1
  have H1 := Lib.hid h1
  have H4 := Lib.hid h4
  clear h1 h4
  by_cases hlt : at' < L.length
  · obtain ⟨b, o, rfl, hb, hc⟩ := H4.out (by omega)
    have hcl : w.cell? ⟨b, o + at', none⟩ = some (.int .i64 (L.getD at' 0)) := hc at' hlt
    clear hc
    obtain ⟨v, Hv⟩ : ∃ v, Hid (L.getD at' 0 = v) := ⟨_, rfl⟩
    rw [Hv.out] at hcl
    have hltb : decide (at' < L.length) = true := by simp; omega
    go_enter Tryz.func33, Tryz.ntmps33
    go_wp2_with fail
    go_quiet (fail)
    go_wp2_with fail
    go_quiet (fail)
    go_wp2_with fail
    refine (Fold_any v n _ hn).mono ?_
    rintro e w1 ⟨r, hr, rfl, rfl⟩
    have Hr := Lib.hid hr
    clear hr
    go_wp2_with fail
    go_ret
    exact ⟨r, Hr.out, rfl, Tp.next H1.out h2 h3 H4.out⟩
  · have hltb : decide (at' < L.length) = false := by simp; omega
    go_enter Tryz.func33, Tryz.ntmps33
    go_wp2_with fail
    go_quiet (fail)
    go_wp2_with fail
    refine (Fold_any _ n _ hn).mono ?_
    rintro e w1 ⟨r, hr, rfl, rfl⟩
    have Hr := Lib.hid hr
    clear hr
    go_wp2_with fail
    go_ret
    exact ⟨r, Hr.out, rfl, Tp.next H1.out h2 h3 H4.out⟩
end Go.Proofs.YteabgcollokgjaaGreatDoor
namespace Go.Proofs.YteabgcollokgjaaGreatDoor
open Go.RowKit Go.MapKept Go.ChangeMaps
open Go.Maps (Keyed)

section
variable {α β : Type} [DecidableEq α]

/-- What the list has at a key. -/
def asc : List (α × β) → α → Option β
  | [], _ => none
  | c :: L, a => if c.1 = a then some c.2 else asc L a
/-- The list with v at a key. -/
def setL : List (α × β) → α → β → List (α × β)
  | [], a, v => [(a, v)]
  | c :: L, a, v => if c.1 = a then (a, v) :: L else c :: setL L a v
theorem asc_none {L : List (α × β)} {a : α} (h : ∀ c ∈ L, c.1 ≠ a) : asc L a = none := by
  induction L with
  | nil => rfl
  | cons c L ih => rw [asc, if_neg (h c (by simp)), ih (fun c hc => h c (by simp [hc]))]
theorem asc_at {L : List (α × β)} (hn : (L.map (·.1)).Nodup) {j : Nat} {c : α × β} (h : L[j]? = some c) : asc L c.1 = some c.2 := by
  induction L generalizing j with
  | nil => simp at h
  | cons d L ih =>
    simp only [List.map_cons, List.nodup_cons] at hn
    cases j with
    | zero => simp at h; subst h; simp [asc]
    | succ j =>
      simp only [List.getElem?_cons_succ] at h
      have : d.1 ≠ c.1 := fun e => hn.1 (by rw [e]; exact List.mem_map.2 ⟨c, List.mem_of_getElem? h, rfl⟩)
      rw [asc, if_neg this, ih hn.2 h]
theorem asc_mem {L : List (α × β)} (hn : (L.map (·.1)).Nodup) {c : α × β} (h : c ∈ L) : asc L c.1 = some c.2 := by
  obtain ⟨j, hj⟩ := List.mem_iff_getElem?.1 h
  exact asc_at hn hj
theorem mem_of_asc {L : List (α × β)} {a : α} {v : β} (h : asc L a = some v) : (a, v) ∈ L := by
  induction L with
  | nil => cases h
  | cons c L ih =>
    rw [asc] at h
    split at h
    · rename_i e
      injection h with h
      subst e h
      simp
    · exact List.mem_cons_of_mem _ (ih h)
theorem setL_none {L : List (α × β)} {a : α} (h : ∀ c ∈ L, c.1 ≠ a) (v : β) : setL L a v = L ++ [(a, v)] := by
  induction L with
  | nil => rfl
  | cons c L ih => rw [setL, if_neg (h c (by simp)), ih (fun c hc => h c (by simp [hc]))]; rfl
theorem setL_at {L : List (α × β)} (hn : (L.map (·.1)).Nodup) {j : Nat} {c : α × β} (h : L[j]? = some c) (v : β) : setL L c.1 v = L.set j (c.1, v) := by
  induction L generalizing j with
  | nil => simp at h
  | cons d L ih =>
    simp only [List.map_cons, List.nodup_cons] at hn
    cases j with
    | zero => simp at h; subst h; simp [setL]
    | succ j =>
      simp only [List.getElem?_cons_succ] at h
      have : d.1 ≠ c.1 := fun e => hn.1 (by rw [e]; exact List.mem_map.2 ⟨c, List.mem_of_getElem? h, rfl⟩)
      rw [setL, if_neg this, ih hn.2 h]
      rfl
theorem asc_setL (L : List (α × β)) (a a' : α) (v : β) : asc (setL L a v) a' = if a = a' then some v else asc L a' := by
  induction L with
  | nil => simp [setL, asc]
  | cons c L ih =>
    rw [setL]
    split
    · rename_i e
      subst e
      simp only [asc]
      split <;> rfl
    · rename_i e
      simp only [asc, ih]
      split
      · rename_i e2
        rw [if_neg (fun e3 => e (e2.trans e3.symm))]
      · rfl
theorem setL_keys (L : List (α × β)) (a : α) (v : β) (a' : α) : a' ∈ (setL L a v).map (·.1) ↔ a' = a ∨ a' ∈ L.map (·.1) := by
  induction L with
  | nil => simp [setL]
  | cons c L ih =>
    rw [setL]
    split
    · rename_i e; subst e; simp
    · rw [List.map_cons, List.mem_cons, ih, List.map_cons, List.mem_cons]
      constructor <;> rintro (h | h | h) <;> simp [h]
theorem setL_length (L : List (α × β)) (a : α) (v : β) : (setL L a v).length ≤ L.length + 1 := by
  induction L with
  | nil => simp [setL]
  | cons c L ih => rw [setL]; split <;> simp <;> omega
end

section
variable {α β : Type}
variable (P : Program) (k : TypeId) (ok : α → Prop) (kv : α → Value) (vv : β → Value)

/-- What a map's keys must be. -/
structure MK : Prop where
  K : Keyed P k
  key : ∀ a, ok a → ∃ l, keyOf P k (kv a) = some l
  inj : ∀ a b, kv a = kv b → a = b

/-- Block b is a map that holds the pairs L, in the order in which the keys were laid. -/
def MapIs (w : World) (b : Nat) (L : List (α × β)) : Prop :=
  ∃ es clock, w.heap[b]? = some (.map es clock) ∧ Stamped es clock ∧ es.toList.map (fun e => (e.key, e.val)) = L.map (fun c => (kv c.1, vv c.2)) ∧ ∀ c ∈ L, ok c.1

variable {P k ok kv vv}
theorem MapIs.lt {w : World} {b : Nat} {L : List (α × β)} (h : MapIs ok kv vv w b L) : b < w.heap.size := by
  obtain ⟨es, clock, hb, _⟩ := h
  exact (Array.getElem?_eq_some_iff.1 hb).1
theorem MapIs.made (w : World) : MapIs ok kv vv (w.alloc (.map #[] 0)) w.heap.size ([] : List (α × β)) :=
  ⟨#[], 0, (MapKept.heap_alloc w _).1, stamped_empty 0, rfl, by simp⟩
theorem MapIs.same {w w' : World} {b : Nat} {L : List (α × β)} (h : MapIs ok kv vv w b L) (hb : w'.heap[b]? = w.heap[b]?) : MapIs ok kv vv w' b L := by
  obtain ⟨es, clock, h1, h2⟩ := h
  exact ⟨es, clock, hb.trans h1, h2⟩
theorem MapIs.kept {w w' : World} {b : Nat} {L : List (α × β)} {row : Option Nat} (h : MapIs ok kv vv w b L) (hg : w.grownBy w' row) (hne : some b ≠ row) : MapIs ok kv vv w' b L := h.same (hg.block b h.lt hne)
theorem MapIs.on {w w' : World} {b : Nat} {L : List (α × β)} (h : MapIs ok kv vv w b L) (hb : Below w.heap.size w w') : MapIs ok kv vv w' b L := h.same (hb.block b h.lt)
theorem MapIs.alloc {w : World} {b : Nat} {L : List (α × β)} (h : MapIs ok kv vv w b L) (o : Obj) : MapIs ok kv vv (w.alloc o) b L := h.on ((Below.refl _ _).alloc (Nat.le_refl _) o)

theorem keys_nodup {es : Array MapEntry} {clock : Nat} (hs : Stamped es clock) {L : List (α × β)} (he : es.toList.map (fun e => (e.key, e.val)) = L.map (fun c => (kv c.1, vv c.2))) : (L.map (·.1)).Nodup := by
  have h1 : (L.map (fun c => kv c.1)).Nodup := by
    have : es.toList.map (·.key) = L.map (fun c => kv c.1) := by
      have := congrArg (List.map Prod.fst) he
      simpa [Function.comp_def] using this
    rw [← this]
    exact hs.2.2
  have h2 : L.map (fun c => kv c.1) = (L.map (·.1)).map kv := by simp
  rw [h2] at h1
  exact List.Pairwise.of_map kv (fun a b (hne : kv a ≠ kv b) e => hne (by rw [e])) h1
theorem MapIs.nodup {w : World} {b : Nat} {L : List (α × β)} (h : MapIs ok kv vv w b L) : (L.map (·.1)).Nodup := by
  obtain ⟨es, clock, h1, h2, h3, _⟩ := h
  exact keys_nodup h2 h3
theorem MapIs.oks {w : World} {b : Nat} {L : List (α × β)} (h : MapIs ok kv vv w b L) : ∀ c ∈ L, ok c.1 := by
  obtain ⟨es, clock, _, _, _, h4⟩ := h
  exact h4

theorem at_list {es : Array MapEntry} {L : List (α × β)} (he : es.toList.map (fun e => (e.key, e.val)) = L.map (fun c => (kv c.1, vv c.2))) {j : Nat} {e : MapEntry} (hj : es.toList[j]? = some e) : ∃ c, L[j]? = some c ∧ e.key = kv c.1 ∧ e.val = vv c.2 := by
  have := congrArg (fun l => l[j]?) he
  simp only [List.getElem?_map, hj, Option.map_some] at this
  cases hc : L[j]? with
  | none => rw [hc] at this; cases this
  | some c => rw [hc] at this; simp at this; exact ⟨c, rfl, this.1, this.2⟩
theorem in_list {es : Array MapEntry} {L : List (α × β)} (he : es.toList.map (fun e => (e.key, e.val)) = L.map (fun c => (kv c.1, vv c.2))) {c : α × β} (hc : c ∈ L) : ∃ e ∈ es.toList, e.key = kv c.1 ∧ e.val = vv c.2 := by
  have : (kv c.1, vv c.2) ∈ L.map (fun c => (kv c.1, vv c.2)) := List.mem_map.2 ⟨c, hc, rfl⟩
  rw [← he] at this
  obtain ⟨e, he, h⟩ := List.mem_map.1 this
  injection h with h1 h2
  exact ⟨e, he, h1, h2⟩
theorem keys_ok (M : MK P k ok kv) {es : Array MapEntry} {L : List (α × β)} (he : es.toList.map (fun e => (e.key, e.val)) = L.map (fun c => (kv c.1, vv c.2))) (hok : ∀ c ∈ L, ok c.1) : ∀ e ∈ es.toList, ∃ l, keyOf P k e.key = some l := by
  intro e hm
  obtain ⟨j, hj⟩ := List.mem_iff_getElem?.1 hm
  obtain ⟨c, hc, h1, _⟩ := at_list he hj
  rw [h1]
  exact M.key _ (hok c (List.mem_of_getElem? hc))

/-- Where a key is. -/
theorem MapIs.find (M : MK P k ok kv) {w : World} {es : Array MapEntry} {clock : Nat} (_hs : Stamped es clock) {L : List (α × β)} (he : es.toList.map (fun e => (e.key, e.val)) = L.map (fun c => (kv c.1, vv c.2))) (hok : ∀ c ∈ L, ok c.1) {a : α} (ha : ok a) :
    ((Instr.findKey k (kv a) es.toList).run P w = .ok none w ∧ (∀ e ∈ es.toList, e.key ≠ kv a) ∧ ∀ c ∈ L, c.1 ≠ a) ∨
    ∃ j e v, (Instr.findKey k (kv a) es.toList).run P w = .ok (some (j, e.val)) w ∧ es.toList[j]? = some e ∧ e.key = kv a ∧ L[j]? = some (a, v) ∧ e.val = vv v := by
  obtain ⟨l, hl⟩ := M.key a ha
  rcases M.K.find w hl es.toList (keys_ok M he hok) with ⟨h1, h2⟩ | ⟨j, e, h1, h2, h3⟩
  · refine Or.inl ⟨h1, h2, fun c hc e => ?_⟩
    obtain ⟨x, hx, hk, _⟩ := in_list he hc
    exact h2 x hx (by rw [hk, e])
  · obtain ⟨c, hc, hk, hv⟩ := at_list he h2
    have : c.1 = a := M.inj _ _ (by rw [← hk, h3])
    subst this
    exact Or.inr ⟨j, e, c.2, h1, h2, h3, hc, hv⟩

theorem MapIs.len {t e : TypeId} (ht : P.underlying t = some (.map k e)) {w : World} {b : Nat} {L : List (α × β)} (h : MapIs ok kv vv w b L) (ty : TypeId) : (Builtin.len_ #[t] ty #[.map (some b)]).run P w = .ok (.int .i64 L.length) w := by
  obtain ⟨es, clock, hb, hs, he, hok⟩ := h
  have hl : es.size = L.length := by
    have := congrArg List.length he
    simpa using this
  simp [Builtin.len_, run_underlying ht, MapKept.run_getObj_map hb, Result.andThen, hl, goInt]

variable [DecidableEq α]
/-- 'm[a]' and 'm[a]' with ok. -/
theorem MapIs.look (M : MK P k ok kv) {t e : TypeId} (ht : P.underlying t = some (.map k e)) {w : World} {z : Value} (hz : (zeroValue e).run P w = .ok z w) {b : Nat} {L : List (α × β)} (h : MapIs ok kv vv w b L) {a : α} (ha : ok a) (c : Bool) :
    (Instr.lookup t (.map (some b)) (kv a) c).run P w = .ok (match asc L a with | none => if c then .tuple #[z, .bool false] else z | some v => if c then .tuple #[vv v, .bool true] else vv v) w := by
  obtain ⟨es, clock, hb, hs, he, hok⟩ := h
  obtain ⟨l, hl⟩ := M.key a ha
  rcases MapIs.find (w := w) M hs he hok ha with ⟨h1, _, h2⟩ | ⟨j, x, v, h1, h2, h3, h4, h5⟩
  · rw [asc_none h2]
    simp [Instr.lookup, run_underlying ht, MapKept.run_getObj_map hb, M.K.check w _ hl, h1, hz, Result.andThen]
  · have ea : asc L a = some v := asc_at (keys_nodup hs he) h4
    simp only [ea]
    simp [Instr.lookup, run_underlying ht, MapKept.run_getObj_map hb, M.K.check w _ hl, h1, h5, Result.andThen]

theorem setL_enc {es : Array MapEntry} {clock : Nat} (hs : Stamped es clock) {L : List (α × β)} (he : es.toList.map (fun e => (e.key, e.val)) = L.map (fun c => (kv c.1, vv c.2))) {j : Nat} {a : α} {v0 : β} (h4 : L[j]? = some (a, v0)) (v : β) :
    (es.modify j (fun e' => { e' with key := kv a, val := vv v })).toList.map (fun e => (e.key, e.val)) = (setL L a v).map (fun c => (kv c.1, vv c.2)) := by
  rw [show setL L a v = L.set j (a, v) from setL_at (keys_nodup hs he) h4 v, Array.toList_modify]
  have hj : j < L.length := (List.getElem?_eq_some_iff.1 h4).1
  rw [List.map_set, ← he]
  apply List.ext_getElem?
  intro i
  rw [List.getElem?_map, List.getElem?_modify, List.getElem?_set]
  have hl : (es.toList.map (fun e => (e.key, e.val))).length = L.length := by rw [he]; simp
  by_cases hij : j = i
  · subst hij
    rw [if_pos rfl, if_pos (by rw [hl]; exact hj)]
    have hj' : j < es.toList.length := by rw [List.length_map] at hl; rw [hl]; exact hj
    rw [List.getElem?_eq_getElem hj']
    simp
  · rw [if_neg hij, List.getElem?_map]
    cases es.toList[i]? <;> simp [hij]

/-- 'm[a] op= v': the entry, and then the store into it, with nothing written into the map between. -/
theorem MapIs.entry (M : MK P k ok kv) {t e : TypeId} (ht : P.underlying t = some (.map k e)) {z : β} (hz : ∀ u : World, (zeroValue e).run P u = .ok (vv z) u) {w : World} {b : Nat} {L : List (α × β)} (h : MapIs ok kv vv w b L) {a : α} (ha : ok a) :
    ∃ (v0 : Value) (st : Nat) (w1 : World), (Instr.mapEntry t (.map (some b)) (kv a)).run P w = .ok (.tuple #[v0, .int .i64 st]) w1 ∧ w.grownBy w1 (some b) ∧ w1.heap.size = w.heap.size ∧ MapIs ok kv vv w1 b (setL L a ((asc L a).getD z)) ∧
      ∀ (w2 : World) (v : β), w2.heap[b]? = w1.heap[b]? → ∃ w3, (Instr.entryStore t (.map (some b)) (.int .i64 st) (vv v)).run P w2 = .ok () w3 ∧ MapIs ok kv vv w3 b (setL L a v) ∧ w2.grownBy w3 (some b) ∧ w3.heap.size = w2.heap.size := by
  obtain ⟨es, clock, hb, hs, he, hok⟩ := h
  obtain ⟨l, hl⟩ := M.key a ha
  have gset : ∀ (W : World) (o o' : Obj), W.heap[b]? = some o → W.grownBy (setBlock W b o') (some b) ∧ (setBlock W b o').heap.size = W.heap.size ∧ (setBlock W b o').heap[b]? = some o' := by
    intro W o o' ho
    have hlt : b < W.heap.size := (Array.getElem?_eq_some_iff.1 ho).1
    refine ⟨⟨rfl, rfl, rfl, by simp [setBlock], fun i hi hne => ?_⟩, by simp [setBlock], by simp [setBlock, hlt]⟩
    have : b ≠ i := fun e => hne (by rw [e])
    simp [setBlock, this]
  rcases MapIs.find (w := w) M hs he hok ha with ⟨h1, h0, h2⟩ | ⟨j, x, v0, h1, h2, h3, h4, h5⟩
  · refine ⟨vv z, clock, setBlock w b (.map (es.push ⟨kv a, vv z, clock⟩) (clock + 1)), ?_, (gset w _ _ hb).1, (gset w _ _ hb).2.1, ⟨_, _, (gset w _ _ hb).2.2, stamped_push hs h0, ?_, ?_⟩, fun w2 v hw2 => ?_⟩
    · simp [goInt, Instr.mapEntry, run_underlying ht, MapKept.run_getObj_map hb, M.K.check w false hl, h1, hz, MapKept.run_setObj_map _ hb, Result.andThen, setBlock]
    · rw [setL_none h2, asc_none h2]
      simp [he]
    · intro c hc
      rw [setL_none h2] at hc
      rcases List.mem_append.1 hc with hc | hc
      · exact hok c hc
      · simp at hc; subst hc; exact ha
    · rw [(gset w _ _ hb).2.2] at hw2
      have hidx : (es.push ⟨kv a, vv z, clock⟩).findIdx? (fun e => ((e.born : Nat) : Int) == ((clock : Nat) : Int)) = some es.size := by
        rw [WideElems.findIdx_arr]
        exact WideElems.findIdx_born (l := (es.push ⟨kv a, vv z, clock⟩).toList) (j := es.size) (e0 := ⟨kv a, vv z, clock⟩) (stamped_push hs h0).2.1 (by simp)
      have hmod : (es.push ⟨kv a, vv z, clock⟩).modify es.size (fun e => { e with val := vv v }) = es.push ⟨kv a, vv v, clock⟩ := by
        apply Array.ext'
        rw [Array.toList_modify, Array.toList_push, Array.toList_push, ← Array.length_toList, WideElems.modify_last]
      refine ⟨setBlock w2 b (.map (es.push ⟨kv a, vv v, clock⟩) (clock + 1)), ?_, ⟨_, _, (gset w2 _ _ hw2).2.2, stamped_push hs h0, ?_, ?_⟩, (gset w2 _ _ hw2).1, (gset w2 _ _ hw2).2.1⟩
      · simp [Instr.entryStore, MapKept.run_getObj_map hw2, asInt, asIntOf, hidx, hmod, MapKept.run_setObj_map _ hw2, Result.andThen, setBlock]
      · rw [setL_none h2]
        simp [he]
      · intro c hc
        rw [setL_none h2] at hc
        rcases List.mem_append.1 hc with hc | hc
        · exact hok c hc
        · simp at hc; subst hc; exact ha
  · have hj : es[j]? = some x := by simpa using h2
    have hsame : es.modify j (fun e => { e with key := kv a }) = es := by
      apply Array.ext'
      rw [Array.toList_modify, modify_eq_set _ _ _ _ h2]
      have : ({ x with key := kv a } : MapEntry) = x := by rw [← h3]
      rw [this]
      exact WideElems.set_self _ _ _ h2
    have ea : asc L a = some v0 := asc_at (keys_nodup hs he) h4
    have eL : setL L a ((asc L a).getD z) = L := by
      rw [ea, show setL L a ((some v0).getD z) = L.set j (a, v0) from setL_at (keys_nodup hs he) h4 v0]
      exact WideElems.set_self _ _ _ h4
    refine ⟨x.val, x.born, setBlock w b (.map es clock), ?_, (gset w _ _ hb).1, (gset w _ _ hb).2.1, by rw [eL]; exact ⟨es, clock, (gset w _ _ hb).2.2, hs, he, hok⟩, fun w2 v hw2 => ?_⟩
    · simp [goInt, Instr.mapEntry, run_underlying ht, MapKept.run_getObj_map hb, M.K.check w false hl, h1, hj, h3, M.K.stays w hl, hsame, MapKept.run_setObj_map _ hb, Result.andThen, setBlock]
    · rw [(gset w _ _ hb).2.2] at hw2
      have hidx : es.findIdx? (fun e => ((e.born : Nat) : Int) == ((x.born : Nat) : Int)) = some j := by
        rw [WideElems.findIdx_arr]
        exact WideElems.findIdx_born hs.2.1 h2
      have hmod : es.modify j (fun e => { e with val := vv v }) = es.modify j (fun e' => { e' with key := kv a, val := vv v }) := by
        apply Array.ext'
        rw [Array.toList_modify, Array.toList_modify, modify_eq_set _ _ _ _ h2, modify_eq_set _ _ _ _ h2, ← h3]
      refine ⟨setBlock w2 b (.map (es.modify j (fun e' => { e' with key := kv a, val := vv v })) clock), ?_, ⟨_, _, (gset w2 _ _ hw2).2.2, ?_, setL_enc hs he h4 v, ?_⟩, (gset w2 _ _ hw2).1, (gset w2 _ _ hw2).2.1⟩
      · simp [Instr.entryStore, MapKept.run_getObj_map hw2, asInt, asIntOf, hidx, hmod, MapKept.run_setObj_map _ hw2, Result.andThen, setBlock]
      · refine stamped_modify hs _ _ (fun _ _ => rfl) (fun e' _ he' => ?_)
        rw [hj] at he'
        cases he'
        exact h3.symm
      · intro c hc
        have : c.1 ∈ (setL L a v).map (·.1) := List.mem_map.2 ⟨c, hc, rfl⟩
        rcases (setL_keys L a v c.1).1 this with h | h
        · rw [h]; exact ha
        · obtain ⟨d, hd, e⟩ := List.mem_map.1 h
          rw [← e]
          exact hok d hd
end
end Go.Proofs.YteabgcollokgjaaGreatDoor
namespace Go.Proofs.YteabgcollokgjaaGreatDoor
open Go.RowKit Go.MapKept Go.ChangeMaps
open Go.Maps (Keyed)

theorem nodup_idx {γ : Type} {l : List γ} (hn : l.Nodup) {i j : Nat} (hi : i < l.length) (hj : j < l.length) (h : l[i]? = l[j]?) : i = j := by
  rw [List.getElem?_eq_getElem hi, List.getElem?_eq_getElem hj] at h
  injection h with h
  rcases Nat.lt_trichotomy i j with h1 | h1 | h1
  · exact absurd h (List.pairwise_iff_getElem.1 hn i j hi hj h1)
  · exact h1
  · exact absurd h.symm (List.pairwise_iff_getElem.1 hn j i hj hi h1)

section
variable {α β : Type}
variable {P : Program} {k : TypeId} {ok : α → Prop} {kv : α → Value} {vv : β → Value}

/-- Block r is an iterator over the map in block b, which holds L; 'done' has come out; cnt pairs are to come. -/
def RIs (ok : α → Prop) (kv : α → Value) (vv : β → Value) (w : World) (b r : Nat) (L done : List (α × β)) (cnt : Nat) : Prop :=
  ∃ (es : Array MapEntry) (clock since : Nat) (seen : Array Nat) (c0 : Nat) (is : List Nat), w.heap[b]? = some (.map es clock) ∧ Stamped es clock ∧ es.toList.map (fun e => (e.key, e.val)) = L.map (fun c => (kv c.1, vv c.2)) ∧ (∀ c ∈ L, ok c.1) ∧
    w.heap[r]? = some (.mapIter (some b) since seen c0) ∧ (∀ x ∈ es.toList, x.born < since) ∧ since ≤ c0 ∧ since ≤ clock ∧ (leftOf es seen).size = cnt ∧
    is.Nodup ∧ is.map (fun i => es.toList[i]?.map (·.born)) = seen.toList.map some ∧ is.map (fun i => L[i]?) = done.map some

theorem RIs.map {w : World} {b r : Nat} {L done : List (α × β)} {cnt : Nat} (h : RIs ok kv vv w b r L done cnt) : MapIs ok kv vv w b L := by
  obtain ⟨es, clock, since, seen, c0, is, h1, h2, h3, h4, _⟩ := h
  exact ⟨es, clock, h1, h2, h3, h4⟩
theorem RIs.lt {w : World} {b r : Nat} {L done : List (α × β)} {cnt : Nat} (h : RIs ok kv vv w b r L done cnt) : r < w.heap.size := by
  obtain ⟨es, clock, since, seen, c0, is, _, _, _, _, h5, _⟩ := h
  exact (Array.getElem?_eq_some_iff.1 h5).1
theorem RIs.ne {w : World} {b r : Nat} {L done : List (α × β)} {cnt : Nat} (h : RIs ok kv vv w b r L done cnt) : r ≠ b := by
  obtain ⟨es, clock, since, seen, c0, is, h1, _, _, _, h5, _⟩ := h
  rintro rfl
  rw [h1] at h5
  cases h5
theorem RIs.left_eq {w : World} {b r : Nat} {L done : List (α × β)} {cnt : Nat} (h : RIs ok kv vv w b r L done cnt) : w.rangeLeft b r = cnt := by
  obtain ⟨es, clock, since, seen, c0, is, h1, _, _, _, h5, _, _, _, h9, _⟩ := h
  simp only [World.rangeLeft, h1, h5]
  exact h9
theorem RIs.kept {w w' : World} {b r : Nat} {L done : List (α × β)} {cnt : Nat} {row : Option Nat} (h : RIs ok kv vv w b r L done cnt) (hg : w.grownBy w' row) (hb : some b ≠ row) (hr : some r ≠ row) : RIs ok kv vv w' b r L done cnt := by
  have l1 := h.map.lt
  have l2 := h.lt
  obtain ⟨es, clock, since, seen, c0, is, h1, h2, h3, h4, h5, h6⟩ := h
  exact ⟨es, clock, since, seen, c0, is, (hg.block b l1 hb).trans h1, h2, h3, h4, (hg.block r l2 hr).trans h5, h6⟩
theorem RIs.alloc {w : World} {b r : Nat} {L done : List (α × β)} {cnt : Nat} (h : RIs ok kv vv w b r L done cnt) (o : Obj) : RIs ok kv vv (w.alloc o) b r L done cnt := h.kept (World.grownBy_alloc w o none) (by simp) (by simp)
theorem RIs.on {w w' : World} {b r : Nat} {L done : List (α × β)} {cnt : Nat} (h : RIs ok kv vv w b r L done cnt) (hb : Below w.heap.size w w') : RIs ok kv vv w' b r L done cnt := h.kept (only_of_below hb none) (by simp) (by simp)

/-- 'range m'. -/
theorem MapIs.range {t e : TypeId} (ht : P.underlying t = some (.map k e)) {w : World} {b : Nat} {L : List (α × β)} (h : MapIs ok kv vv w b L) :
    ∃ w', (Instr.range t (.map (some b))).run P w = .ok (.pointer (some ⟨w.heap.size, 0, none⟩)) w' ∧ RIs ok kv vv w' b w.heap.size L [] L.length ∧ w.grownBy w' none ∧ w'.heap.size = w.heap.size + 1 := by
  have hlt := h.lt
  obtain ⟨es, clock, hb, hs, he, hok⟩ := h
  have hl : es.size = L.length := by
    have := congrArg List.length he
    simpa using this
  refine ⟨_, run_range_map w t k e b es clock ht hb, ⟨es, clock, clock, #[], clock, [], ((MapKept.heap_alloc w _).2 b hlt).trans hb, hs, he, hok, (MapKept.heap_alloc w _).1, hs.1, Nat.le_refl _, Nat.le_refl _, ?_, by simp, rfl, rfl⟩, World.grownBy_alloc w _ none, by simp⟩
  have : leftOf es #[] = es := by unfold leftOf; rw [Array.filter_eq_self]; intro x _; simp
  rw [this, hl]

/-- The step. -/
theorem RIs.next {w : World} {b r : Nat} {L done : List (α × β)} {cnt : Nat} (h : RIs ok kv vv w b r L done cnt) (ty : TypeId) :
    (done.Perm L ∧ (Instr.next (.pointer (some ⟨r, 0, none⟩)) false ty).run P w = .ok (.tuple #[.bool false]) w) ∨
    ∃ c w' cnt', c ∈ L ∧ (Instr.next (.pointer (some ⟨r, 0, none⟩)) false ty).run P w = .ok (.tuple #[.bool true, kv c.1, vv c.2]) w' ∧ RIs ok kv vv w' b r L (done ++ [c]) cnt' ∧ cnt' < cnt ∧ w.grownBy w' (some r) ∧ w'.heap.size = w.heap.size ∧
      (Instr.entry (.pointer (some ⟨r, 0, none⟩))).run P w' = .ok (.tuple #[kv c.1, vv c.2]) w' := by
  have hne := h.ne
  obtain ⟨es, clock, since, seen, c0, is, hb, hs, he, hok, hr, hold, hsc, hsk, rfl, hnd, hseen, hdone⟩ := h
  have hl : es.toList.length = L.length := by
    have := congrArg List.length he
    simpa using this
  rcases run_next_at (P := P) w ty r b since c0 seen es clock hr hb hold hsc with ⟨h0, hrun⟩ | ⟨e, hin, w1, hal, hrun⟩
  · refine Or.inl ⟨?_, hrun⟩
    have hall := all_seen es seen h0
    have hmem : ∀ i, i ∈ is ↔ i ∈ List.range L.length := by
      intro i
      rw [List.mem_range]
      constructor
      · intro hi
        have : L[i]? ∈ is.map (fun i => L[i]?) := List.mem_map.2 ⟨i, hi, rfl⟩
        rw [hdone] at this
        obtain ⟨c, _, hc⟩ := List.mem_map.1 this
        exact (List.getElem?_eq_some_iff.1 hc.symm).1
      · intro hi
        have hi' : i < es.toList.length := by omega
        have h1 := hall es.toList[i] (List.getElem_mem hi')
        have h2 : some (es.toList[i]).born ∈ seen.toList.map some := List.mem_map.2 ⟨_, by simpa using h1, rfl⟩
        rw [← hseen] at h2
        obtain ⟨i', hi'', e2⟩ := List.mem_map.1 h2
        obtain ⟨x, hx, hxb⟩ := Option.map_eq_some_iff.1 e2
        have e3 := born_inj hs.2.1 (List.mem_of_getElem? hx) (List.getElem_mem hi') hxb
        have e4 : es.toList[i']? = es.toList[i]? := by rw [hx, e3, List.getElem?_eq_getElem hi']
        have e5 : i' = i := by
          have hn : es.toList.Nodup := List.Pairwise.of_map (fun x : MapEntry => x.born) (fun a b (hne : a.born ≠ b.born) e => hne (by rw [e])) hs.2.1
          exact nodup_idx hn (List.getElem?_eq_some_iff.1 hx).1 hi' e4
        exact e5 ▸ hi''
    have hp := ((List.perm_ext_iff_of_nodup hnd List.nodup_range).2 hmem).map (fun i => L[i]?)
    have e1 : (List.range L.length).map (fun i => L[i]?) = L.map some := by
      apply List.ext_getElem?
      intro j
      by_cases hj : j < L.length
      · simp [hj]
      · simp [Nat.not_lt.1 hj]
    rw [hdone, e1] at hp
    have := hp.filterMap id
    simpa using this
  · right
    obtain ⟨hem, hes⟩ := mem_left hin
    obtain ⟨i, hi⟩ := List.mem_iff_getElem?.1 hem
    obtain ⟨c, hc, hk, hv⟩ := at_list he hi
    have hr1 : w1.heap[r]? = some (.mapIter (some b) since seen c0) := by rcases hal with rfl | rfl <;> exact hr
    have hb1 : w1.heap[b]? = some (.map es clock) := by rcases hal with rfl | rfl <;> exact hb
    have hset := heap_set (o' := .mapIter (some b) since (seen.push e.born) clock) hr1
    have hb' : (setBlock w1 r (.mapIter (some b) since (seen.push e.born) clock)).heap[b]? = some (.map es clock) := (hset.2 b (fun e1 => hne e1.symm)).trans hb1
    have hni : i ∉ is := by
      intro hmem
      have : es.toList[i]?.map (·.born) ∈ is.map (fun i => es.toList[i]?.map (·.born)) := List.mem_map.2 ⟨i, hmem, rfl⟩
      rw [hseen, hi] at this
      obtain ⟨y, hy, e⟩ := List.mem_map.1 this
      injection e with e
      subst e
      have : seen.contains _ = true := Array.contains_iff_mem.2 (Array.mem_toList_iff.1 hy)
      rw [hes] at this
      cases this
    refine ⟨c, _, _, List.mem_of_getElem? hc, by rw [hrun, hk, hv], ⟨es, clock, since, seen.push e.born, clock, is ++ [i], hb', hs, he, hok, hset.1, hold, hsk, hsk, rfl, ?_, ?_, ?_⟩, left_shrinks es seen e hin, ?_, ?_, ?_⟩
    · refine List.nodup_append.2 ⟨hnd, by simp, fun a ha d hd e => ?_⟩
      simp at hd
      subst hd e
      exact hni ha
    · rw [List.map_append, hseen, Array.toList_push, List.map_append, List.map_singleton, List.map_singleton, hi]
      rfl
    · rw [List.map_append, hdone, List.map_append]
      simp [hc]
    · rcases hal with rfl | rfl <;> exact ⟨rfl, rfl, rfl, by simp [setBlock], fun i _ hi => hset.2 i (fun e1 => hi (by rw [e1]))⟩
    · rcases hal with rfl | rfl <;> simp [setBlock]
    · rw [← hk, ← hv]
      exact run_entry_at _ r b since seen es clock e hset.1 hb' hem hs.2.1

variable (w : World) {ops : Array Oper} {rest : List Oper} {o : Oper} {a : Act} {Q : Exit → Act → World → Prop}
theorem wpList_range_is (hg : o.guard = none) (m : Operand) (t : TypeId) (hop : o.op = Op.range t m) (k e : TypeId) (ht : P.underlying t = some (.map k e)) (b : Nat) (L : List (α × β))
    (hm : a.eval m = .map (some b)) (hown : MapIs ok kv vv w b L)
    (hK : ∀ w', RIs ok kv vv w' b w.heap.size L [] L.length → w.grownBy w' none → w'.heap.size = w.heap.size + 1 → wpList P ops Q rest (a.put o.dst (.pointer (some ⟨w.heap.size, 0, none⟩))) w') :
    wpList P ops Q (o :: rest) a w := by
  refine wpList_plain hg fun K' hK' => ?_
  obtain ⟨w', hrun, r1, r2, r3⟩ := hown.range ht
  unfold Oper.wp
  simp [execOp, hop, hm, hrun, Result.andThen]
  exact hK' _ _ (hK w' r1 r2 r3)
theorem wpList_next_is (hg : o.guard = none) (it : Operand) (hop : o.op = Op.next it false) (b r : Nat) (L done : List (α × β)) (cnt : Nat)
    (hit : a.eval it = .pointer (some ⟨r, 0, none⟩)) (h : RIs ok kv vv w b r L done cnt)
    (hDone : done.Perm L → wpList P ops Q rest (a.put o.dst (.tuple #[.bool false])) w)
    (hMore : ∀ (c : α × β) (w' : World) (cnt' : Nat), c ∈ L → RIs ok kv vv w' b r L (done ++ [c]) cnt' → cnt' < cnt → w.grownBy w' (some r) → w'.heap.size = w.heap.size →
      (Instr.entry (.pointer (some ⟨r, 0, none⟩))).run P w' = .ok (.tuple #[kv c.1, vv c.2]) w' → wpList P ops Q rest (a.put o.dst (.tuple #[.bool true, kv c.1, vv c.2])) w') :
    wpList P ops Q (o :: rest) a w := by
  refine wpList_plain hg fun K' hK' => ?_
  unfold Oper.wp
  rcases h.next (P := P) o.type with ⟨hp, hrun⟩ | ⟨c, w', cnt', hc, hrun, h1, h2, h3, h4, h5⟩
  · simp [execOp, hop, hit, hrun, Result.andThen]
    exact hK' _ _ (hDone hp)
  · simp [execOp, hop, hit, hrun, Result.andThen]
    exact hK' _ _ (hMore c w' cnt' hc h1 h2 h3 h4 h5)
end
end Go.Proofs.YteabgcollokgjaaGreatDoor
