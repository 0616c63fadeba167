/- CA CB MA MB MC MD in one text. -/
import Derived.Test.YteabgcollokgjaaGreatDoorQ24
import Derived.Laws.Cells
import Derived.ArgAppend
import Derived.Test.YteabgcollokgjaaGreatDoorQ07
import Derived.Test.YteabgcollokgjaaGreatDoorQ01
import Derived.Test.YteabgcollokgjaaGreatDoorQ06
import Derived.Test.YteabgcollokgjaaGreatDoorQ02
import Derived.RegionTactic
import Derived.ChangeAlike
import Derived.IntWalk
import Derived.Deep.RegionHeld3
set_option linter.unusedSimpArgs false
set_option linter.unusedVariables false
namespace Go.Proofs.YteabgcollokgjaaGreatDoor
open Go.RowKit Go.MapKept Go.ChangeMaps Go.Shelf Go.Sort

abbrev vU (_ : Unit) : Value := .agg #[]
abbrev HL := List (ID × Unit)
/-- A session. -/
structure Ses where
 num : Int
 beg : Bool
 hm : Option Nat
 H : HL
def Ses.cs (s : Ses) : List Value := [.int .i64 s.num, .bool s.beg, .map s.hm]
abbrev ses0 : Ses := ⟨0, false, none, []⟩
/-- A collector. -/
structure CR where
 cp : Nat
 ps : Nat
 A : Option Addr
 cap : Nat
 cand : List ID
 se : List Ses
abbrev CR.cells (c : CR) : Array Value := (.pointer (some ⟨c.ps, 0, none⟩) :: .slice c.A c.cand.length c.cap :: c.se.flatMap Ses.cs).toArray
structure SesOk (w : World) (se : List Ses) : Prop where
 len : se.length = 16
 map : ∀ s ∈ se, ∀ m, s.hm = some m → MapIs okID vID vU w m s.H
 nomap : ∀ s ∈ se, s.hm = none → s.H = []
 uniq : (se.filterMap Ses.hm).Nodup
def RIx (w : World) (A : Option Addr) (cap : Nat) (ids : List ID) : Prop := ids.length ≤ cap ∧ (A = none → ids = []) ∧ ∀ ad, A = some ad → ∃ g, ad = ⟨g, 0, none⟩ ∧ RowI w g ids ∧ g < w.heap.size
def coOb (c : CR) : Ob where
 own := fun i => i = c.cp ∨ c.A = some ⟨i, 0, none⟩ ∨ ∃ s ∈ c.se, s.hm = some i
 rd := fun _ => False
 holds := fun w => IsB w c.cp 183 c.cells ∧ RIx w c.A c.cap c.cand ∧ SesOk w c.se
 stable := fun w w' h hs hk => by
  obtain ⟨h1, ⟨h2, h3, h4⟩, h5⟩ := h
  refine ⟨(hk c.cp (.inl (.inl rfl))).trans h1, ⟨h2, h3, fun ad e => ?_⟩, h5.len, fun s hs m hm => (h5.map s hs m hm).same (hk m (.inl (.inr (.inr ⟨s, hs, hm⟩)))), h5.nomap, h5.uniq⟩
  obtain ⟨g, rfl, ⟨cur, hi, hr⟩, hlt⟩ := h4 ad e
  exact ⟨g, rfl, ⟨cur, (hk g (.inl (.inr (.inl e)))).trans hi, hr⟩, Nat.lt_of_lt_of_le hlt hs.2.2.2⟩
theorem Ses.cs_len (s : Ses) : s.cs.length = 3 := rfl
theorem ses_len (se : List Ses) : (se.flatMap Ses.cs).length = se.length * 3 := by
 induction se with
 | nil => rfl
 | cons s se ih => rw [List.flatMap_cons, List.length_append, ih, Ses.cs_len, List.length_cons]; omega
theorem ses_get : ∀ (se : List Ses) (k j : Nat), k < se.length → j < 3 → (se.flatMap Ses.cs)[k * 3 + j]? = (se.getD k ses0).cs[j]?
 | [], _, _, h, _ => by simp at h
 | s :: se, 0, j, _, hj => by
  rw [List.flatMap_cons, Nat.zero_mul, Nat.zero_add, List.getElem?_append_left (by rw [Ses.cs_len]; exact hj)]
  rfl
 | s :: se, k + 1, j, h, hj => by
  rw [List.flatMap_cons, List.getElem?_append_right (by rw [Ses.cs_len]; omega), Ses.cs_len, show (k + 1) * 3 + j - 3 = k * 3 + j by omega, ses_get se k j (by simpa using h) hj]
  simp
theorem ses_set : ∀ (se : List Ses) (k : Nat) (s : Ses), k < se.length → (se.set k s).flatMap Ses.cs = (((se.flatMap Ses.cs).set (k * 3) (.int .i64 s.num)).set (k * 3 + 1) (.bool s.beg)).set (k * 3 + 2) (.map s.hm)
 | [], _, _, h => by simp at h
 | x :: se, 0, s, _ => by
  rw [List.set_cons_zero, List.flatMap_cons, List.flatMap_cons]
  rfl
 | x :: se, k + 1, s, h => by
  rw [List.set_cons_succ, List.flatMap_cons, List.flatMap_cons, ses_set se k s (by simpa using h)]
  have e : x.cs = [.int .i64 x.num, .bool x.beg, .map x.hm] := rfl
  rw [e]
  simp only [List.cons_append, List.nil_append]
  rw [show (k + 1) * 3 + 2 = (k * 3 + 2) + 1 + 1 + 1 by omega, show (k + 1) * 3 + 1 = (k * 3 + 1) + 1 + 1 + 1 by omega, show (k + 1) * 3 = (k * 3) + 1 + 1 + 1 by omega]
  simp only [List.set_cons_succ]
section
variable {w : World} {c : CR}
theorem CR.cell0 (h : (coOb c).holds w) : w.cell? ⟨c.cp, 0, none⟩ = some (.pointer (some ⟨c.ps, 0, none⟩)) := h.1.cell 0
theorem CR.cell1 (h : (coOb c).holds w) : w.cell? ⟨c.cp, 1, none⟩ = some (.slice c.A c.cand.length c.cap) := h.1.cell 1
theorem CR.ses (h : (coOb c).holds w) {k : Nat} (hk : k < 16) : w.cell? ⟨c.cp, 2 + k * 3, none⟩ = some (.int .i64 (c.se.getD k ses0).num) ∧ w.cell? ⟨c.cp, 2 + k * 3 + 1, none⟩ = some (.bool (c.se.getD k ses0).beg) ∧ w.cell? ⟨c.cp, 2 + k * 3 + 2, none⟩ = some (.map (c.se.getD k ses0).hm) := by
 have hl := h.2.2.len
 have hg : ∀ j, j < 3 → w.cell? ⟨c.cp, 2 + k * 3 + j, none⟩ = (c.se.getD k ses0).cs[j]? := fun j hj => by
  rw [h.1.cell, show 2 + k * 3 + j = (k * 3 + j) + 1 + 1 by omega]
  show (Value.pointer (some ⟨c.ps, 0, none⟩) :: .slice c.A c.cand.length c.cap :: c.se.flatMap Ses.cs).toArray[(k * 3 + j) + 1 + 1]? = _
  rw [List.getElem?_toArray, List.getElem?_cons_succ, List.getElem?_cons_succ]
  exact ses_get c.se k j (by omega) hj
 exact ⟨hg 0 (by omega), hg 1 (by omega), hg 2 (by omega)⟩
theorem CR.lt (h : (coOb c).holds w) : c.cp < w.heap.size := h.1.lt
end
/-- The first place where a test says yes. -/
def fiO (p : Ses → Bool) : List Ses → Option Nat
 | [] => none
 | s :: l => if p s then some 0 else (fiO p l).map (· + 1)
def fiV (p : Ses → Bool) (l : List Ses) : Int := match fiO p l with | some k => (k : Int) | none => -1
theorem fiO_some {p : Ses → Bool} : ∀ {l : List Ses} {k : Nat}, k < l.length → p (l.getD k ses0) = true → (∀ j, j < k → p (l.getD j ses0) = false) → fiO p l = some k
 | [], k, h, _, _ => by simp at h
 | s :: l, 0, _, hp, _ => by
  have hp : p s = true := hp
  simp [fiO, hp]
 | s :: l, k + 1, h, hp, hb => by
  have h0 : p s = false := hb 0 (by omega)
  have ih := fiO_some (p := p) (l := l) (k := k) (by simpa using h) (by simpa using hp) (fun j hj => by simpa using hb (j + 1) (by omega))
  simp [fiO, h0, ih]
theorem fiO_none {p : Ses → Bool} : ∀ {l : List Ses}, (∀ j, j < l.length → p (l.getD j ses0) = false) → fiO p l = none
 | [], _ => rfl
 | s :: l, hb => by
  have h0 : p s = false := hb 0 (by simp)
  have ih := fiO_none (p := p) (l := l) (fun j hj => by simpa using hb (j + 1) (by simpa using hj))
  simp [fiO, h0, ih]
theorem fiO_lt {p : Ses → Bool} : ∀ {l : List Ses} {k : Nat}, fiO p l = some k → k < l.length ∧ p (l.getD k ses0) = true
 | [], k, h => by cases h
 | s :: l, k, h => by
  unfold fiO at h
  split at h
  · rename_i hp
    injection h with h
    subst h
    exact ⟨by simp, hp⟩
  · cases hf : fiO p l with
    | none => rw [hf] at h; cases h
    | some j =>
     rw [hf] at h
     injection h with h
     subst h
     have ih := fiO_lt hf
     exact ⟨by simpa using ih.1, by simpa using ih.2⟩
set_option maxRecDepth 100000 in
theorem isFree_any (n : Int) (b : Bool) (m : Option Nat) (w : World) : Calls Tryz.prog 123 #[.agg #[.int .i64 n, .bool b, .map m]] w (Gives (.bool (!b)) w) := by
 go_enter Tryz.func123, Tryz.ntmps123
 go_wp2_with fail
 go_ret
 exact ⟨rfl, bel1q _ _⟩
set_option maxRecDepth 100000 in
theorem isNum_any (n : Int) (b : Bool) (m : Option Nat) (g : Nat) (N : Int) (w : World) (hg : w.cell? ⟨g, 0, none⟩ = some (.int .i64 N)) : Calls Tryz.prog 166 #[.agg #[.int .i64 n, .bool b, .map m], vPtr g] w (Gives (.bool (b && (n == N))) w) := by
 have hlt := World.block_lt_of_cell? _ _ hg
 cases b with
 | false =>
  go_enter Tryz.func166, Tryz.ntmps166
  go_wp2_with fail
  go_ret
  exact ⟨rfl, bel1q _ _⟩
 | true =>
  go_enter Tryz.func166, Tryz.ntmps166
  go_wp2_with fail
  go_ret
  exact ⟨rfl, bel1q _ _⟩
theorem coOb_lt {w : World} {c : CR} (h : (coOb c).holds w) {i : Nat} (hi : (coOb c).own i) : i < w.heap.size := by
 rcases hi with rfl | hi | ⟨s, hs, hm⟩
 · exact h.1.lt
 · obtain ⟨g, e, _, hlt⟩ := h.2.1.2.2 _ hi
   injection e with e
   rw [e]
   exact hlt
 · exact (h.2.2.map s hs i hm).lt
set_option maxRecDepth 100000 in
set_option maxHeartbeats 4000000 in
theorem index123 {w : World} {c : CR} (h : (coOb c).holds w) : Calls Tryz.prog 122 #[.slice (some ⟨c.cp, 2, none⟩) 16 16, .func (.func 123) #[] #[]] w (Gives (.int .i64 (fiV (fun s => !s.beg) c.se)) w) := by
 have H := Lib.hid h
 have hlen := h.2.2.len
 clear h
 go_enter Tryz.func122, Tryz.ntmps122
 go_wp2_with fail
 go_loopw [8] (fun s8 wr => ∃ k : Nat, k ≤ 16 ∧ s8 = .int .i64 (k : Int) ∧ (∀ j, j < k → ((fun s => !s.beg)) (c.se.getD j ses0) = false) ∧ Below w.heap.size w wr) (fun s8 _ => 16 - (intOf s8).toNat)
 case atStart => exact ⟨0, Nat.zero_le _, rfl, (fun j hj => by omega), Below.refl _ _⟩
 case round =>
  obtain ⟨k, hk, rfl, hb, hbel⟩ := hrel
  have HB := Lib.hid hb
  have BB := Lib.hid hbel
  clear hb hbel
  by_cases hlt : k < 16
  · have hwk : (coOb c).holds wr := (coOb c).stable w wr H.out ⟨BB.out.os, BB.out.tape, BB.out.output, BB.out.size⟩ (fun i hi => BB.out.block i (coOb_lt H.out (by
     rcases hi with hi | hi
     · exact hi
     · exact hi.elim)))
    obtain ⟨a0, a1, a2⟩ := CR.ses hwk hlt
    obtain ⟨s, hs⟩ : ∃ s, c.se.getD k ses0 = s := ⟨_, rfl⟩
    rw [hs] at a0 a1 a2
    have HS := Lib.hid hs
    clear hwk hs
    go_upto_if 16 with ((go_at_call 123; (with_reducible refine (isFree_any _ _ _ _).mono ?_)); rintro e w1 ⟨rfl, hb1⟩; have B1 : Hid (Below w.heap.size w w1) := BB.out.trans (hb1.mono BB.out.size); clear hb1)
    obtain ⟨v, HV⟩ : ∃ v, Hid (((fun s => !s.beg)) s = v) := ⟨_, rfl⟩
    have hv := HV.out
    simp only at hv
    rw [hv]
    clear a0 a1 a2 hv
    cases v with
    | true =>
     go_wp2_with fail
     go_ret
     refine ⟨?_, B1.out⟩
     have e := fiO_some (p := (fun s => !s.beg)) (l := c.se) (k := k) (by omega) (by rw [HS.out]; exact HV.out) HB.out
     unfold fiV
     rw [e]
     rfl
    | false =>
     go_wp2_with fail
     go_roundw
     case rel =>
      refine ⟨k + 1, by omega, by go_num, fun j hj => ?_, B1.out⟩
      by_cases e : j = k
      · subst e
        rw [HS.out]
        exact HV.out
      · exact HB.out j (by omega)
     case measure => simp [intOf]; omega
  · obtain rfl : k = 16 := by omega
    go_wp2_with fail
    go_ret
    refine ⟨?_, BB.out⟩
    have e := fiO_none (p := (fun s => !s.beg)) (l := c.se) (fun j hj => HB.out j (by omega))
    unfold fiV
    rw [e]
    rfl
set_option maxRecDepth 100000 in
set_option maxHeartbeats 4000000 in
theorem index166 {w : World} {c : CR} (h : (coOb c).holds w) (g : Nat) (N : Int) (hg : w.cell? ⟨g, 0, none⟩ = some (.int .i64 N)) : Calls Tryz.prog 122 #[.slice (some ⟨c.cp, 2, none⟩) 16 16, .func (.func 166) #[] #[vPtr g]] w (Gives (.int .i64 (fiV (fun s => s.beg && (s.num == N)) c.se)) w) := by
 have H := Lib.hid h
 have hlen := h.2.2.len
 have HG := Lib.hid hg
 have hgl := World.block_lt_of_cell? _ _ hg
 clear hg
 clear h
 go_enter Tryz.func122, Tryz.ntmps122
 go_wp2_with fail
 go_loopw [8] (fun s8 wr => ∃ k : Nat, k ≤ 16 ∧ s8 = .int .i64 (k : Int) ∧ (∀ j, j < k → ((fun s => s.beg && (s.num == N))) (c.se.getD j ses0) = false) ∧ Below w.heap.size w wr) (fun s8 _ => 16 - (intOf s8).toNat)
 case atStart => exact ⟨0, Nat.zero_le _, rfl, (fun j hj => by omega), Below.refl _ _⟩
 case round =>
  obtain ⟨k, hk, rfl, hb, hbel⟩ := hrel
  have HB := Lib.hid hb
  have BB := Lib.hid hbel
  clear hb hbel
  by_cases hlt : k < 16
  · have hwk : (coOb c).holds wr := (coOb c).stable w wr H.out ⟨BB.out.os, BB.out.tape, BB.out.output, BB.out.size⟩ (fun i hi => BB.out.block i (coOb_lt H.out (by
     rcases hi with hi | hi
     · exact hi
     · exact hi.elim)))
    obtain ⟨a0, a1, a2⟩ := CR.ses hwk hlt
    obtain ⟨s, hs⟩ : ∃ s, c.se.getD k ses0 = s := ⟨_, rfl⟩
    rw [hs] at a0 a1 a2
    have HS := Lib.hid hs
    clear hwk hs
    go_upto_if 16 with ((go_at_call 166; (with_reducible refine (isNum_any _ _ _ g N _ ((BB.out.cell (p := ⟨g, 0, none⟩) hgl).trans HG.out)).mono ?_)); rintro e w1 ⟨rfl, hb1⟩; have B1 : Hid (Below w.heap.size w w1) := BB.out.trans (hb1.mono BB.out.size); clear hb1)
    obtain ⟨v, HV⟩ : ∃ v, Hid (((fun s => s.beg && (s.num == N))) s = v) := ⟨_, rfl⟩
    have hv := HV.out
    simp only at hv
    rw [hv]
    clear a0 a1 a2 hv
    cases v with
    | true =>
     go_wp2_with fail
     go_ret
     refine ⟨?_, B1.out⟩
     have e := fiO_some (p := (fun s => s.beg && (s.num == N))) (l := c.se) (k := k) (by omega) (by rw [HS.out]; exact HV.out) HB.out
     unfold fiV
     rw [e]
     rfl
    | false =>
     go_wp2_with fail
     go_roundw
     case rel =>
      refine ⟨k + 1, by omega, by go_num, fun j hj => ?_, B1.out⟩
      by_cases e : j = k
      · subst e
        rw [HS.out]
        exact HV.out
      · exact HB.out j (by omega)
     case measure => simp [intOf]; omega
  · obtain rfl : k = 16 := by omega
    go_wp2_with fail
    go_ret
    refine ⟨?_, BB.out⟩
    have e := fiO_none (p := (fun s => s.beg && (s.num == N))) (l := c.se) (fun j hj => HB.out j (by omega))
    unfold fiV
    rw [e]
    rfl
theorem coOb_on {w w' : World} {c : CR} (h : (coOb c).holds w) (hb : Below w.heap.size w w') : (coOb c).holds w' := (coOb c).stable w w' h ⟨hb.os, hb.tape, hb.output, hb.size⟩ (fun i hi => hb.block i (coOb_lt h (by
 rcases hi with hi | hi
 · exact hi
 · exact hi.elim)))
set_option maxRecDepth 100000 in
set_option maxHeartbeats 2000000 in
theorem find_any {w : World} {c : CR} (h : (coOb c).holds w) (N : Int) : Calls Tryz.prog 119 #[vPtr c.cp, .int .i64 N] w (Gives (.int .i64 (fiV (fun s => s.beg && (s.num == N)) c.se)) w) := by
 have hb0 : Below w.heap.size w (w.alloc (.cells #[.int .i64 N] 3)) := bel1q _ _
 have H0 := coOb_on h hb0
 have HI := Lib.hid (index166 H0 w.heap.size N ((IsB.new w 3 #[.int .i64 N]).cell 0))
 have hcl := CR.lt h
 clear h H0
 go_enter Tryz.func119, Tryz.ntmps119
 go_wp2_with (go_at_call 122; (with_reducible refine HI.out.mono ?_); rintro e w1 ⟨rfl, hb1⟩)
 go_ret
 exact ⟨rfl, hb0.trans (hb1.mono hb0.size)⟩
end Go.Proofs.YteabgcollokgjaaGreatDoor
namespace Go.Proofs.YteabgcollokgjaaGreatDoor
open Go.RowKit Go.MapKept Go.ChangeMaps Go.Shelf Go.Sort

theorem zero170 (W : World) : (zeroValue 170).run Tryz.prog W = .ok (.agg #[]) W := by kernel_rfl
def setI (ids : List ID) : HL := ids.foldl (fun L i => setL L i ()) []
theorem setI_snoc (ids : List ID) (i : ID) : setI (ids ++ [i]) = setL (setI ids) i () := by
 unfold setI
 rw [List.foldl_append]
 rfl
theorem setI_key (ids : List ID) (i : ID) : (asc (setI ids) i).isSome = decide (i ∈ ids) := by
 have : ∀ (ids : List ID) (L : HL), (asc (ids.foldl (fun L i => setL L i ()) L) i).isSome = ((asc L i).isSome || decide (i ∈ ids)) := by
  intro ids
  induction ids with
  | nil => intro L; simp
  | cons j ids ih =>
   intro L
   rw [List.foldl_cons, ih, asc_setL]
   by_cases e : j = i
   · subst e; simp
   · have e' : ¬ i = j := fun h => e h.symm
     simp [e, e']
 have h := this ids []
 simpa [setI, asc] using h
section
variable {b : Nat} {w0 w : World} {l : List Ob}
/-- The cells of an ID that is read. -/
theorem SW.rowCell {A : Option Addr} {ids : List ID} (h : SW b w0 l w) (hA : riOb A ids ∈ l) {k : Nat} (hk : k < ids.length) {i : ID} (hi : ids.getD k id0 = i) : ∃ g, A = some ⟨g, 0, none⟩ ∧ w.cell? ⟨g, k * 2, none⟩ = some (.int .u64 i.1) ∧ w.cell? ⟨g, k * 2 + 1, none⟩ = some (.int .i64 i.2) := by
 have hri := h.1.holds (riOb A ids) hA
 cases A with
 | none =>
  have h0 := hri.1 rfl
  rw [h0] at hk
  simp at hk
 | some ad =>
  obtain ⟨g, rfl, hr, _⟩ := hri.2 ad rfl
  obtain ⟨a0, a1, _, _⟩ := hr.cells hk hi
  exact ⟨g, rfl, a0, a1⟩
set_option maxRecDepth 100000 in
set_option maxHeartbeats 4000000 in
theorem set_any (h : SW b w0 l w) (A : Option Addr) (c : Nat) (ids : List ID) (hA : riOb A ids ∈ l) (hok : ∀ i ∈ ids, okID i) (hl : ids.length ≤ 100000) :
 Calls Tryz.prog 113 #[.slice A ids.length c] w (fun e w' => e = .returned (.map (some w.heap.size)) ∧ SW b w0 (mpOb okID vID vU w.heap.size (setI ids) :: l) w') := by
 have HA := Lib.hid hA
 have HOK := Lib.hid hok
 have hmk : (Instr.makeMap 178 (some (.int .i64 (ids.length : Int)))).run Tryz.prog w = .ok (.map (some w.heap.size)) (w.alloc (.map #[] 0)) := by simp [Instr.makeMap, run_underlying Tryz.underlying178, asInt, asIntOf]
 have S0 : Hid (SW b w0 (mpOb okID vID vU w.heap.size ([] : HL) :: l) (w.alloc (.map #[] 0))) := h.addMp
 generalize hm : w.heap.size = m at S0 hmk ⊢
 clear h hA hok hm
 go_enter Tryz.func113, Tryz.ntmps113
 go_wp2_with fail
 go_loopw [11] (fun s11 wr => ∃ k : Nat, k ≤ ids.length ∧ s11 = .int .i64 (k : Int) ∧ SW b w0 (mpOb okID vID vU m (setI (ids.take k)) :: l) wr) (fun s11 _ => ids.length - (intOf s11).toNat)
 case atStart => exact ⟨0, Nat.zero_le _, rfl, S0.out⟩
 case round =>
  obtain ⟨k, hk, rfl, hs⟩ := hrel
  have S1 := Lib.hid hs
  clear hs S0 hmk
  by_cases hlt : k < ids.length
  · obtain ⟨i, hik⟩ : ∃ i, ids.getD k id0 = i := ⟨_, rfl⟩
    obtain ⟨g, rfl, a0, a1⟩ := S1.out.rowCell (List.mem_cons_of_mem _ HA.out) hlt hik
    have hmm : i ∈ ids := by
     rw [← hik, List.getD_eq_getElem?_getD, List.getElem?_eq_getElem hlt]
     exact List.getElem_mem hlt
    have hoki := HOK.out i hmm
    have hts : ids.take (k + 1) = ids.take k ++ [i] := by
     rw [List.take_succ_eq_append_getElem hlt, ← hik, List.getD_eq_getElem?_getD, List.getElem?_eq_getElem hlt]
     rfl
    have HTS : Hid (setI (ids.take (k + 1)) = setL (setI (ids.take k)) i ()) := by rw [Hid, hts, setI_snoc]
    have S2 := Lib.hid (S1.out.newCell 31 #[.int .u64 i.1, .int .i64 i.2])
    have c0 : (wr.alloc (.cells #[.int .u64 i.1, .int .i64 i.2] 31)).cell? ⟨wr.heap.size, 0, none⟩ = some (.int .u64 i.1) := (S2.out.cell 0 rfl).cell 0
    have c1 : (wr.alloc (.cells #[.int .u64 i.1, .int .i64 i.2] 31)).cell? ⟨wr.heap.size, 1, none⟩ = some (.int .i64 i.2) := (S2.out.cell 0 rfl).cell 1
    obtain ⟨w4, hu, hm4, hg4, hz4⟩ := MapIs.update mkI Tryz.underlying178 (S2.out.get 1 (o := mpOb okID vID vU m (setI (ids.take k))) rfl) hoki ()
    have hu' : (Instr.mapUpdate 178 (.map (some m)) (.agg #[.int .u64 i.1, .int .i64 i.2]) (.agg #[])).run Tryz.prog (wr.alloc (.cells #[.int .u64 i.1, .int .i64 i.2] 31)) = .ok () w4 := hu
    have S4 := Lib.hid (S2.out.updMp 1 rfl hm4 hg4)
    clear hik hmm hts hu hm4 hg4 hz4 S1 S2
    go_wp2_with fail
    go_roundw
    case rel =>
     refine ⟨k + 1, by omega, by go_num, ?_⟩
     rw [HTS.out]
     exact S4.out.tail
    case measure => simp [intOf]; omega
  · have hkn : k = ids.length := by omega
    subst hkn
    rw [List.take_length] at S1
    clear hlt hk
    go_wp2_with fail
    go_ret
    exact ⟨rfl, S1.out⟩
end
theorem look_u {w : World} {gm : Nat} {G : HL} (h : MapIs okID vID vU w gm G) {i : ID} (hi : okID i) : (Instr.lookup 178 (.map (some gm)) (.agg #[.int .u64 i.1, .int .i64 i.2]) true).run Tryz.prog w = .ok (.tuple #[.agg #[], .bool (asc G i).isSome]) w := by
 have := MapIs.look mkI Tryz.underlying178 (zero170 w) h hi true
 rw [show (Value.agg #[.int .u64 i.1, .int .i64 i.2]) = vID i from rfl, this]
 cases asc G i <;> rfl
theorem is_ne {w : World} {g : Nat} {t t' : TypeId} {cs cs' : Array Value} (h : IsB w g t cs) (h' : IsB w g t' cs') (hne : t ≠ t') : False := by
 unfold IsB at h h'
 rw [h] at h'
 injection h' with h'
 injection h' with _ h' _
 exact hne h'
theorem ses_mem {se : List Ses} {f : Nat} {s x : Ses} (h : x ∈ se.set f s) : x = s ∨ x ∈ se := by
 rcases List.mem_or_eq_of_mem_set h with h | h
 · exact .inr h
 · exact .inl h
theorem ses_at {se : List Ses} {f : Nat} (hf : f < se.length) : se.getD f ses0 ∈ se := by
 rw [List.getD_eq_getElem?_getD, List.getElem?_eq_getElem hf]
 exact List.getElem_mem hf
theorem ses_sub : ∀ (se : List Ses) (f : Nat) (s : Ses), s.hm = none → ((se.set f s).filterMap Ses.hm).Sublist (se.filterMap Ses.hm)
 | [], _, _, _ => List.Sublist.refl _
 | x :: se, 0, s, h => by
  rw [List.set_cons_zero, List.filterMap_cons_none h, List.filterMap_cons]
  split
  · exact List.Sublist.refl _
  · exact List.sublist_cons_self _ _
 | x :: se, f + 1, s, h => by
  rw [List.set_cons_succ, List.filterMap_cons, List.filterMap_cons]
  split
  · exact ses_sub se f s h
  · exact (ses_sub se f s h).cons_cons _
theorem ses_eq : ∀ (se : List Ses) (f : Nat) (s : Ses), s.hm = (se.getD f ses0).hm → f < se.length → (se.set f s).filterMap Ses.hm = se.filterMap Ses.hm
 | [], _, _, _, _ => rfl
 | x :: se, 0, s, h, _ => by
  have h : s.hm = x.hm := h
  rw [List.set_cons_zero, List.filterMap_cons, List.filterMap_cons, h]
 | x :: se, f + 1, s, h, hf => by
  rw [List.set_cons_succ, List.filterMap_cons, List.filterMap_cons, ses_eq se f s (by simpa using h) (by simpa using hf)]
theorem ses_new : ∀ (se : List Ses) (f : Nat) (s : Ses) (m : Nat), s.hm = some m → m ∉ se.filterMap Ses.hm → (se.filterMap Ses.hm).Nodup → ((se.set f s).filterMap Ses.hm).Nodup
 | [], _, _, _, _, _, _ => List.nodup_nil
 | x :: se, 0, s, m, h, hm, hn => by
  rw [List.set_cons_zero, List.filterMap_cons_some h]
  rw [List.filterMap_cons] at hm hn
  cases hx : x.hm with
  | none =>
   rw [hx] at hm hn
   exact List.nodup_cons.2 ⟨hm, hn⟩
  | some k =>
   rw [hx] at hm hn
   exact List.nodup_cons.2 ⟨fun hh => hm (List.mem_cons_of_mem _ hh), (List.nodup_cons.1 hn).2⟩
 | x :: se, f + 1, s, m, h, hm, hn => by
  rw [List.set_cons_succ, List.filterMap_cons]
  rw [List.filterMap_cons] at hm hn
  cases hx : x.hm with
  | none =>
   rw [hx] at hm hn
   exact ses_new se f s m h hm hn
  | some k =>
   rw [hx] at hm hn
   obtain ⟨h1, h2⟩ := List.nodup_cons.1 hn
   refine List.nodup_cons.2 ⟨fun hh => ?_, ses_new se f s m h (fun hh => hm (List.mem_cons_of_mem _ hh)) h2⟩
   obtain ⟨y, hy, e⟩ := List.mem_filterMap.1 hh
   rcases ses_mem hy with rfl | hy
   · rw [h] at e
     injection e with e
     exact hm (by rw [e]; exact List.mem_cons_self ..)
   · exact h1 (List.mem_filterMap.2 ⟨y, hy, e⟩)
/-- The candidates that are not in a set. -/
def lessL (G : HL) (ids : List ID) : List ID := ids.filter (fun i => (asc G i).isNone)
theorem lessL_snoc (G : HL) (ids : List ID) (i : ID) : lessL G (ids ++ [i]) = lessL G ids ++ if (asc G i).isSome then [] else [i] := by
 unfold lessL
 rw [List.filter_append]
 cases h : asc G i <;> simp [h]
theorem lessL_le (G : HL) (ids : List ID) : (lessL G ids).length ≤ ids.length := List.length_filter_le _ _
theorem slice0_38 (A : Option Addr) (hA : ∀ ad, A = some ad → ∃ g, ad = ⟨g, 0, none⟩) (n c : Nat) (W : World) : (Instr.slice 38 (.slice A n c) none (some (.int .i64 0)) none).run Tryz.prog W = .ok (.slice A 0 c) W := by
 cases A with
 | none => simp [Instr.slice, run_underlying Tryz.underlying38, Instr.sliceBounds, Instr.sliceBound, Tryz.sizeOf31, asInt, asIntOf]
 | some ad =>
  obtain ⟨g, rfl⟩ := hA ad rfl
  simp [Instr.slice, run_underlying Tryz.underlying38, Instr.sliceBounds, Instr.sliceBound, Tryz.sizeOf31, asInt, asIntOf, Addr.add]
section
variable {b : Nat} {w0 w : World} {l : List Ob} {c : CR}
/-- A store into the collector's own block. -/
theorem SW.coSet (h : SW b w0 (coOb c :: l) w) (j : Nat) (u : Value) {c' : CR} (hcells : c'.cells = c.cells.setIfInBounds j u) (hcp : c'.cp = c.cp) (hlen : c'.se.length = 16) (hH : ∀ s ∈ c'.se, ∀ m, s.hm = some m → ∃ t ∈ c.se, t.hm = some m ∧ t.H = s.H) (hno : ∀ s ∈ c'.se, s.hm = none → s.H = []) (hu : (c'.se.filterMap Ses.hm).Nodup) (hA : c'.A = c.A) (hr : RIx w c.A c.cap c.cand → RIx w c'.A c'.cap c'.cand) :
 SW b w0 (coOb c' :: l) (w.setCell ⟨c.cp, j, none⟩ u) := by
 have hh := h.get 0 (o := coOb c) rfl
 have hg : w.grownBy (w.setCell ⟨c.cp, j, none⟩ u) (some c.cp) := g_set (p := ⟨c.cp, j, none⟩) (g_refl _ _) (.inl rfl) _
 have hmem : ∀ s ∈ c'.se, ∀ m, s.hm = some m → MapIs okID vID vU w m s.H := fun s hs m hm => by
  obtain ⟨t, ht, e1, e2⟩ := hH s hs m hm
  rw [← e2]
  exact hh.2.2.map t ht m e1
 have hnew : (coOb c').holds (w.setCell ⟨c.cp, j, none⟩ u) := by
  refine ⟨by rw [hcp, hcells]; exact hh.1.set_ j u, ?_, ⟨hlen, fun s hs m hm => (hmem s hs m hm).kept hg (fun e => map_is (hmem s hs m hm) (by cases e; exact hh.1)), hno, hu⟩⟩
  obtain ⟨r1, r2, r3⟩ := hr hh.2.1
  refine ⟨r1, r2, fun ad e => ?_⟩
  obtain ⟨g, rfl, ⟨cur, hi, hrr⟩, hlt⟩ := r3 ad e
  refine ⟨g, rfl, ⟨cur, hi.grown hg (fun e => ?_), hrr⟩, by simpa [World.setCell] using hlt⟩
  injection e with e
  exact is_ne hi (e ▸ hh.1) (by decide)
 have hown : ∀ i, (coOb c').own i → (coOb c).own i := fun i hi => by
  rcases hi with hi | hi | ⟨s, hs, hm⟩
  · exact .inl (hi.trans hcp)
  · exact .inr (.inl (by rw [← hA]; exact hi))
  · obtain ⟨t, ht, e1, _⟩ := hH s hs i hm
    exact .inr (.inr ⟨t, ht, e1⟩)
 have := h.1.step (o := coOb c) (o' := coOb c') (Fr.grown hg (Or.inl rfl) (fun i hi => .inl (hown i hi))) (fun i hi => hi.elim) hnew (fun i hi => by
  rcases hi with hi | hi
  · exact coOb_lt hnew hi
  · exact hi.elim)
 exact ⟨this.1, h.2.trans this.2⟩
theorem RowI.pre {w : World} {g : Nat} {F R : List ID} (h : RowI w g (F ++ R)) : RowI w g F := by
 obtain ⟨cur, h1, h2, h3⟩ := h
 rw [List.length_append] at h2
 refine ⟨cur, h1, by omega, fun j hj => ?_⟩
 have := h3 j (by rw [List.length_append]; omega)
 have e : (F ++ R).getD j id0 = F.getD j id0 := by rw [List.getD_eq_getElem?_getD, List.getElem?_append_left hj, ← List.getD_eq_getElem?_getD]
 rw [e] at this
 exact this
/-- The candidates while some are struck: those that stay, and behind them what lay there. -/
abbrev CR.mid (c : CR) (F : List ID) : CR := { c with cand := F ++ c.cand.drop F.length }
theorem CR.mid_len (c : CR) {F : List ID} (hF : F.length ≤ c.cand.length) : (c.mid F).cand.length = c.cand.length := by
 simp only [List.length_append, List.length_drop]
 omega
theorem mid_set {F R : List ID} (x : ID) (h : R ≠ []) : (F ++ R).set F.length x = (F ++ [x]) ++ R.drop 1 := by
 cases R with
 | nil => exact absurd rfl h
 | cons r R => simp
/-- One more candidate stays. -/
theorem SW.coPut {F : List ID} (h : SW b w0 (coOb (c.mid F) :: l) w) {g : Nat} (hA : c.A = some ⟨g, 0, none⟩) (hF : F.length < c.cand.length) (x : ID) : SW b w0 (coOb (c.mid (F ++ [x])) :: l) ((w.setCell ⟨g, F.length * 2, none⟩ (.int .u64 x.1)).setCell ⟨g, F.length * 2 + 1, none⟩ (.int .i64 x.2)) := by
 have hh := h.get 0 (o := coOb (c.mid F)) rfl
 have hg : w.grownBy ((w.setCell ⟨g, F.length * 2, none⟩ (.int .u64 x.1)).setCell ⟨g, F.length * 2 + 1, none⟩ (.int .i64 x.2)) (some g) := g_set (p := ⟨g, F.length * 2 + 1, none⟩) (g_set (p := ⟨g, F.length * 2, none⟩) (g_refl _ _) (.inl rfl) _) (.inl rfl) _
 obtain ⟨r1, r2, r3⟩ := hh.2.1
 obtain ⟨g', e, hrow, hlt⟩ := r3 _ hA
 injection e with e
 subst e
 have hR : c.cand.drop F.length ≠ [] := fun e => by
  have := congrArg List.length e
  rw [List.length_drop] at this
  simp at this
  omega
 have hmid : (c.mid (F ++ [x])).cand = (F ++ c.cand.drop F.length).set F.length x := by
  rw [mid_set x hR]
  simp only [List.length_append, List.length_cons, List.length_nil, List.drop_drop]
 have hlen : (c.mid (F ++ [x])).cand.length = (c.mid F).cand.length := by rw [hmid, List.length_set]
 have hne : some (c.mid F).cp ≠ some g := fun e => by
  injection e with e
  obtain ⟨cur, hi, _⟩ := hrow
  rw [← e] at hi
  exact is_ne hi hh.1 (by decide)
 have hsz : ((w.setCell ⟨g, F.length * 2, none⟩ (.int .u64 x.1)).setCell ⟨g, F.length * 2 + 1, none⟩ (.int .i64 x.2)).heap.size = w.heap.size := by simp [World.setCell]
 have hnew : (coOb (c.mid (F ++ [x]))).holds ((w.setCell ⟨g, F.length * 2, none⟩ (.int .u64 x.1)).setCell ⟨g, F.length * 2 + 1, none⟩ (.int .i64 x.2)) := by
  refine ⟨?_, ⟨by rw [hlen]; exact r1, (fun e => by have e : c.A = none := e; rw [hA] at e; cases e), fun ad e => ?_⟩, hh.2.2.len, fun s hs m hm => (hh.2.2.map s hs m hm).kept hg (fun e => ?_), hh.2.2.nomap, hh.2.2.uniq⟩
  · have hi := hh.1.grown hg hne
    have ec : (c.mid (F ++ [x])).cells = (c.mid F).cells := by
     show (Value.pointer (some ⟨c.ps, 0, none⟩) :: .slice c.A (c.mid (F ++ [x])).cand.length c.cap :: c.se.flatMap Ses.cs).toArray = _
     rw [hlen]
    rw [ec]
    exact hi
  · have e : c.A = some ad := e
    rw [hA] at e
    injection e with e
    subst e
    refine ⟨g, rfl, ?_, by rw [hsz]; exact hlt⟩
    rw [hmid]
    exact hrow.put F.length (by rw [List.length_append, List.length_drop]; omega) x
  · injection e with e
    obtain ⟨cur, hi, _⟩ := hrow
    exact map_is (hh.2.2.map s hs m hm) (by cases e; exact hi)
 have := h.1.step (o := coOb (c.mid F)) (o' := coOb (c.mid (F ++ [x]))) (Fr.grown hg (Or.inr (Or.inl hA)) (fun i hi => .inl hi)) (fun i hi => hi.elim) hnew (fun i hi => by
  rcases hi with hi | hi
  · exact coOb_lt hnew hi
  · exact hi.elim)
 exact ⟨this.1, h.2.trans this.2⟩
end
end Go.Proofs.YteabgcollokgjaaGreatDoor
namespace Go.Proofs.YteabgcollokgjaaGreatDoor
open Go.RowKit
attribute [local go_sem] wext_cell
def sumZ (l : List ID) : Int := (l.map (·.2)).sum
theorem sumZ_snoc (l : List ID) (i : ID) : sumZ (l ++ [i]) = sumZ l + i.2 := by simp [sumZ]
/-- A manifest of few chunks. -/
structure Man where
 size : Int
 ids : List ID
def validB (i : ID) : Bool := decide (0 ≤ i.2) && decide (i.2 ≤ 1048576) && decide (i.1 < 2305843009213693951) && (decide (0 < i.2) || i.1 == 0)
set_option maxHeartbeats 1000000 in
theorem Valid_any (s z : Int) (w : World) : Calls Tryz.prog 165 #[.agg #[.int .u64 s, .int .i64 z]] w (Gives (.bool (validB (s, z))) w) := by
 have fin : ∀ b : Bool, validB (s, z) = b → ∀ W, W = w.alloc (.cells #[.int .u64 s, .int .i64 z] 31) → Gives (.bool (validB (s, z))) w (.returned (.bool b)) W := by
  rintro b h W rfl
  exact ⟨by rw [h], bel1 _ _⟩
 by_cases h1 : 0 ≤ z
 · by_cases h2 : z ≤ 1048576
   · by_cases h3 : s < 2305843009213693951
     · by_cases h4 : 0 < z
       · go_enter Tryz.func165, Tryz.ntmps165
         go_wp2_with fail
         go_ret
         exact fin _ (by simp [validB]; omega) _ rfl
       · by_cases h5 : s = 0
         · subst h5
           have V : Hid (validB (0, z) = true) := by simp [Hid, validB]; omega
           go_enter Tryz.func165, Tryz.ntmps165
           go_wp2_with fail
           go_ret
           exact fin _ V.out _ rfl
         · have hb : (s == 0) = false := by rw [beq_eq_false_iff_ne]; exact h5
           go_enter Tryz.func165, Tryz.ntmps165
           go_wp2_with fail
           go_ret
           exact fin _ (by simp [validB]; omega) _ rfl
     · go_enter Tryz.func165, Tryz.ntmps165
       go_wp2_with fail
       go_ret
       exact fin _ (by simp [validB]; omega) _ rfl
   · go_enter Tryz.func165, Tryz.ntmps165
     go_wp2_with fail
     go_ret
     exact fin _ (by simp [validB]; omega) _ rfl
 · go_enter Tryz.func165, Tryz.ntmps165
   go_wp2_with fail
   go_ret
   exact fin _ (by simp [validB]; omega) _ rfl
def chunkB (i : ID) : Bool := validB i && decide (1 ≤ i.2) && decide (i.2 ≤ 8192)
def manE (m : Man) : Int := if 1024 < m.ids.length then 251 else if m.ids.all chunkB = false then 250 else if m.size = sumZ m.ids ∧ m.size ≤ 1048576 then 0 else 252
theorem getD_mem {α : Type} (l : List α) (d : α) (k : Nat) (h : k < l.length) : l.getD k d ∈ l := by
 rw [List.getD_eq_getElem?_getD, List.getElem?_eq_getElem h]
 exact List.getElem_mem h
theorem take_snoc {α : Type} (l : List α) (d : α) (k : Nat) (h : k < l.length) : l.take (k + 1) = l.take k ++ [l.getD k d] := by
 rw [List.take_add_one, List.getD_eq_getElem?_getD, List.getElem?_eq_getElem h]
 rfl
theorem chunkB_sound {i : ID} (h : chunkB i = true) : 1 ≤ i.2 ∧ i.2 ≤ 8192 := by
 simp [chunkB] at h
 omega
theorem sum_take_bd {l : List ID} : ∀ {k : Nat}, (l.take k).all chunkB = true → 0 ≤ sumZ (l.take k) ∧ sumZ (l.take k) ≤ 8192 * k := by
 have key : ∀ (l : List ID), l.all chunkB = true → 0 ≤ sumZ l ∧ sumZ l ≤ 8192 * l.length := by
  intro l
  induction l with
  | nil => intro _; simp [sumZ]
  | cons i l ih =>
   intro h
   rw [List.all_cons, Bool.and_eq_true] at h
   have h1 := chunkB_sound h.1
   have h2 := ih h.2
   simp only [sumZ, List.map_cons, List.sum_cons, List.length_cons] at *
   omega
 intro k h
 have := key _ h
 have hl : (l.take k).length ≤ k := by rw [List.length_take]; omega
 omega
theorem manE_bad {m : Man} {k : Nat} (hl : m.ids.length ≤ 1024) (hk : k < m.ids.length) (h : chunkB (m.ids.getD k (0, 0)) = false) : manE m = 250 := by
 unfold manE
 rw [if_neg (by omega), if_pos]
 rw [List.all_eq_false]
 exact ⟨_, getD_mem _ _ _ hk, by rw [h]; simp⟩
theorem manE_end {m : Man} (hl : m.ids.length ≤ 1024) (h : m.ids.all chunkB = true) : manE m = if m.size = sumZ m.ids ∧ m.size ≤ 1048576 then 0 else 252 := by
 unfold manE
 rw [if_neg (by omega), if_neg (by simp [h])]
set_option maxHeartbeats 2000000 in
theorem manCheck_any (x : Nat) (m : Man) (A : Option Addr) (c : Nat) (w : World) (hr : RdID w x A m.ids) (hn : m.ids.length ≤ 9223372036854775807) :
 Calls Tryz.prog 108 #[.agg #[.int .i64 m.size, .slice A m.ids.length c]] w (Gives (.int .i64 (manE m)) w) := by
 have Hr := Lib.hid hr
 clear hr
 by_cases hl : m.ids.length ≤ 1024
 · go_enter Tryz.func108, Tryz.ntmps108
   go_wp2_with fail
   go_loopw [3, 13] (fun n i wr => ∃ k : Nat, k ≤ m.ids.length ∧ i = .int .i64 k ∧ n = .int .i64 (sumZ (m.ids.take k)) ∧ (m.ids.take k).all chunkB = true ∧ IsB wr w.heap.size 89 #[.int .i64 m.size, .slice A m.ids.length c] ∧ Below w.heap.size w wr) (fun _ i _ => m.ids.length - (intOf i).toNat)
   case atStart => exact ⟨0, Nat.zero_le _, rfl, by simp [sumZ], by simp, IsB.new _ _ _, bel1 _ _⟩
   case round =>
    obtain ⟨k, hk, rfl, rfl, hall, hB, hb⟩ := hrel
    have hsz := hb.size
    have hbd := sum_take_bd hall
    have HB := Lib.hid hB
    have Hall := Lib.hid hall
    clear hB hall
    obtain ⟨S, HS⟩ : ∃ S, Hid (sumZ (m.ids.take k) = S) := ⟨_, rfl⟩
    rw [HS.out] at hbd ⊢
    by_cases hlt : k < m.ids.length
    · obtain ⟨b, o, rfl, hbB, _, hc⟩ := Hr.out (by omega)
      obtain ⟨s, z, HI⟩ : ∃ s z, Hid (m.ids.getD k (0, 0) = (s, z)) := ⟨_, _, rfl⟩
      have hc0 : wr.cell? ⟨b, o + k * 2, none⟩ = some (.int .u64 s) := by rw [hb.cell (p := ⟨b, o + k * 2, none⟩) hbB]; exact hc k hlt 0 _ (by rw [HI.out]; rfl)
      have hc1 : wr.cell? ⟨b, o + k * 2 + 1, none⟩ = some (.int .i64 z) := by rw [hb.cell (p := ⟨b, o + k * 2 + 1, none⟩) hbB]; exact hc k hlt 1 _ (by rw [HI.out]; rfl)
      clear hc
      go_wp2_with fail
      refine (Valid_any s z _).mono ?_
      rintro e w1 ⟨rfl, hb1⟩
      have hn0 : w1.cell? ⟨wr.heap.size, 0, none⟩ = some (.int .u64 s) := by rw [hb1.cell (p := ⟨wr.heap.size, 0, none⟩) (by simp)]; exact new_cell _ _ _ _ rfl 0
      have hn1 : w1.cell? ⟨wr.heap.size, 1, none⟩ = some (.int .i64 z) := by rw [hb1.cell (p := ⟨wr.heap.size, 1, none⟩) (by simp)]; exact new_cell _ _ _ _ rfl 1
      have hbw : Hid (Below w.heap.size w w1) := (hb.alloc hb.size _).trans (hb1.mono (by simp; omega))
      have HB1 : Hid (IsB w1 w.heap.size 89 #[.int .i64 m.size, .slice (some ⟨b, o, none⟩) m.ids.length c]) := (HB.out.alloc _).on hb1
      clear hb1
      cases hv : validB (s, z) with
      | false =>
       have HE : Hid (manE m = 250) := manE_bad hl hlt (by rw [HI.out]; simp [chunkB, hv])
       clear hv
       go_wp2_with fail
       go_ret
       exact gv HE.out (hbw.out)
      | true =>
       by_cases h1 : z < 1
       · have HE : Hid (manE m = 250) := manE_bad hl hlt (by rw [HI.out]; simp [chunkB]; omega)
         clear hv
         go_wp2_with fail
         go_ret
         exact gv HE.out (hbw.out)
       · by_cases h2 : 8192 < z
         · have HE : Hid (manE m = 250) := manE_bad hl hlt (by rw [HI.out]; simp [chunkB]; omega)
           clear hv
           go_wp2_with fail
           go_ret
           exact gv HE.out (hbw.out)
         · have HC : Hid (chunkB (s, z) = true) := by simp [Hid, chunkB, hv]; omega
           clear hv
           go_wp2_with fail
           go_roundw
           case rel => exact ⟨k + 1, by omega, by go_num, by rw [take_snoc _ (0, 0) _ hlt, sumZ_snoc, HS.out, HI.out], by rw [take_snoc _ (0, 0) _ hlt, List.all_append, Hall.out, HI.out]; simp [HC.out], HB1.out, hbw.out⟩
           case measure => simp [intOf]; omega
    · obtain rfl : k = m.ids.length := by omega
      rw [List.take_length] at Hall HS
      have hE := manE_end hl Hall.out
      rw [HS.out] at hE
      have hc0 : wr.cell? ⟨w.heap.size, 0, none⟩ = some (.int .i64 m.size) := by rw [HB.out.cell]; rfl
      by_cases h1 : m.size = S
      · subst h1
        by_cases h2 : m.size ≤ 1048576
        · rw [if_pos ⟨rfl, h2⟩] at hE
          have HE := Lib.hid hE
          clear hE
          go_wp2_with fail
          go_ret
          exact gv HE.out (hb)
        · rw [if_neg (by omega)] at hE
          have HE := Lib.hid hE
          clear hE
          go_wp2_with fail
          go_ret
          exact gv HE.out (hb)
      · have hbe : (m.size != S) = true := by rw [bne_iff_ne]; exact h1
        rw [if_neg (by omega)] at hE
        have HE := Lib.hid hE
        clear hE h1
        go_wp2_with fail
        go_ret
        exact gv HE.out (hb)
 · have HE : Hid (manE m = 251) := by unfold Hid manE; rw [if_pos (by omega)]
   go_enter Tryz.func108, Tryz.ntmps108
   go_wp2_with fail
   go_ret
   exact gv HE.out (bel1 _ _)
end Go.Proofs.YteabgcollokgjaaGreatDoor
namespace Go.Proofs.YteabgcollokgjaaGreatDoor
open Go.RowKit Go.MapKept Go.ChangeMaps
attribute [local go_sem] wext_cell
theorem manE_len {m : Man} (h : manE m = 0) : m.ids.length ≤ 1024 := by
 unfold manE at h
 split at h
 · cases h
 · omega
theorem manE_all {m : Man} (h : manE m = 0) : m.ids.all chunkB = true := by
 unfold manE at h
 split at h
 · cases h
 · split at h
   · cases h
   · rename_i h2
     simpa using h2
end Go.Proofs.YteabgcollokgjaaGreatDoor
namespace Go.Proofs.YteabgcollokgjaaGreatDoor
open Go.RowKit Go.MapKept Go.ChangeMaps Go.Shelf Go.Sort
attribute [local go_sem] wext_cell
end Go.Proofs.YteabgcollokgjaaGreatDoor
namespace Go.Proofs.YteabgcollokgjaaGreatDoor
open Go.RowKit
attribute [local go_sem] wext_cell
theorem B_cell {w w' : World} {b o : Nat} {v : Value} (h : Below w.heap.size w w') (hb : b < w.heap.size) (hc : w.cell? ⟨b, o, none⟩ = some v) : w'.cell? ⟨b, o, none⟩ = some v := (h.cell (p := ⟨b, o, none⟩) hb).trans hc
end Go.Proofs.YteabgcollokgjaaGreatDoor
