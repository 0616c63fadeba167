/- Proves Rows.CollectorStepsCardSaid: for every input CollectorSteps returns true, and each argument reads afterwards as before. The card's five laid variables are not read. -/
import Derived.Test.YteabgcollokgjaaGreatDoorQ32
import Derived.Test.YteabgcollokgjaaGreatDoorQ33
import Derived.Test.YteabgcollokgjaaGreatDoorQ26
import Derived.Test.YteabgcollokgjaaGreatDoorCards
import Derived.Test.YteabgcollokgjaaGreatDoorTie
import Derived.WalkKit
import Derived.ProofKit
import Derived.OpenShut
import Derived.ChangeOld
import Derived.Below
import Derived.Handy
import Derived.Lay
import Derived.SevenTiedAt
import Derived.Test.YteabgcollokgjaaGreatDoorQ34
import Derived.Test.YteabgcollokgjaaGreatDoorQKCollectorSteps
import Derived.Test.YteabgcollokgjaaGreatDoorQJCollectorSteps
namespace Go.Proofs.YteabgcollokgjaaGreatDoor
open Go.RowKit Go.MapKept Go.ChangeMaps Go.Shelf Go.Sort

section
variable {b : Nat} {w0 w w' : World} {l : List Ob}
theorem wpList_rowM {ops : Array Oper} {o : Oper} {rest : List Oper} {a : Act} {Q : Exit → Act → World → Prop} {t e : TypeId} {i : TypeInfo} {z : Value} {size bytes : Nat} (hS : SW b w0 l w) (k : Nat) {v : Value} {n : Nat} {xs : List Value} (hk : l[k]? = some (rowOb e size v n xs))
 (hgd : o.guard = none) (s x : Operand) (ho : o.op = .call { callee := .builtin .append, args := #[s, x], argTypes := #[t, t] })
 (ht : Tryz.prog.underlying t = some (.slice e)) (hi : Tryz.prog.info? e = some i) (hz : i.zero = some z) (hsize : i.size = size) (hby : i.bytes = bytes) (hzs : z.cells.size = size) (hsz : 0 < size)
 (hs : a.eval s = v) (A : Option Addr) (m c : Nat) (news : List Value) (hx : a.eval x = .slice A m c) (hl : news.length = m * size) (hA : 0 < m → ∃ ad, A = some ad ∧ ∀ j u, news[j]? = some u → w.cell? (ad.add j) = some u) (h1 : ∀ u ∈ news, u.oneCell' = true)
 (h63 : n + m ≤ maxLen) (hbytes : (n + m) * bytes ≤ 140737488355328)
 (h : ∀ v' w', SW b w0 (l.set k (rowOb e size v' (n + m) (xs ++ news))) w' → wpList Tryz.prog ops Q rest (a.put o.dst v') w') :
 wpList Tryz.prog ops Q (o :: rest) a w := by
 have := step_rowM (ops := ops) (Q := Q) (E := False) (K := wpList Tryz.prog ops Q rest) hS k hk hgd s x ho ht hi hz hsize hby hzs hsz hs A m c news hx hl hA h1 h63 hbytes h
 have hw : Region.wanted o (yielded ops a.tmps) = true := by simp [Region.wanted, hgd]
 rw [if_pos hw] at this
 unfold wpList
 first
  | (rw [if_pos hw]; exact .inl this)
  | (simp only [hw, if_true]; exact .inl this)
  | (simp only [hw, if_true]; exact this)
/-- The source of IDs that are appended. -/
theorem ri_src {A : Option Addr} {ids : List ID} (h : (riOb A ids).holds w) : 0 < ids.length → ∃ ad, A = some ad ∧ ∀ j u, (ids.flatMap encID)[j]? = some u → w.cell? (ad.add j) = some u := fun hp => by
 cases A with
 | none =>
  rw [h.1 rfl] at hp
  simp at hp
 | some ad =>
  obtain ⟨g, rfl, hr, hlt⟩ := h.2 ad rfl
  refine ⟨_, rfl, fun j u hu => ?_⟩
  have hj := (List.getElem?_eq_some_iff.1 hu).1
  rw [flat_len encID_len] at hj
  have hj2 : j = j / 2 * 2 + j % 2 := by omega
  have hq : j / 2 < ids.length := by omega
  obtain ⟨c0, c1, _, _⟩ := hr.cells hq rfl
  rw [hj2, flat_at encID_len id0 ids (j / 2) (j % 2) hq (by omega)] at hu
  rw [lit_add, Nat.zero_add, hj2]
  have : j % 2 = 0 ∨ j % 2 = 1 := by omega
  rcases this with e | e
  · rw [e] at hu ⊢
    rw [Nat.add_zero, c0]
    simpa [encID] using hu
  · rw [e] at hu ⊢
    rw [c1]
    simpa [encID] using hu
theorem encID_all (ids : List ID) : ∀ u ∈ ids.flatMap encID, u.oneCell' = true := fun u hu => by
 obtain ⟨i, _, hi⟩ := List.mem_flatMap.1 hu
 exact encID_one i u hi
end
section
variable {L : List Int} {p q : PR}
theorem bg_cand (h1 : BgOk L p) (h2 : BgOk L q) : p.co.cand = q.co.cand := by
 obtain ⟨ys1, e1, p1, s1⟩ := h1.cand
 obtain ⟨ys2, e2, p2, s2⟩ := h2.cand
 rw [e1, e2, ids_uniq p1 p2 s1 s2 h1.cl.keys h2.cl.keys (fun i => by rw [← asc_key, ← asc_key, h1.tx.has, h2.tx.has])]
theorem bg_nodup (h : BgOk L p) : p.co.cand.Nodup := by
 obtain ⟨ys, e, hp, _⟩ := h.cand
 rw [e]
 exact lessL_nodup (hp.nodup_iff.2 h.cl.keys)
theorem bg_key (h : BgOk L p) {i : ID} (hi : i ∈ p.co.cand) : i ∈ p.x.C.map (·.1) ∧ i ∉ (bgE L).live := by
 obtain ⟨ys, e, hp, _⟩ := h.cand
 rw [e, lessL_mem] at hi
 exact ⟨hp.mem_iff.1 hi.1, hi.2⟩
theorem bg_ids (h : BgOk L p) : ∀ i ∈ p.co.cand, okID i := fun i hi => by
 obtain ⟨t, _, e, ht⟩ := h.tx.key (bg_key h hi).1
 rw [← e]
 exact ht.ok
theorem bg_clen (h : BgOk L p) : p.co.cand.length ≤ 11 := by
 obtain ⟨ys, e, hp, _⟩ := h.cand
 have h1 := hp.length_eq
 rw [List.length_map] at h1
 have h2 := lessL_le (setI (bgE L).live) ys
 have h3 := h.few
 rw [e]
 omega
theorem bg_ok (h : BgOk L p) : p.co.ok := ok_start h.se
theorem take_more {C : List ID} {m t : Nat} (hm : m ≤ C.length) {R : List ID} (hR : (C.drop m).take t = R) : C.take (m + R.length) = C.take m ++ R ∧ C.drop (m + R.length) = (C.drop m).drop t ∧ m + R.length ≤ C.length ∧ (1 ≤ t → m < C.length → 1 ≤ R.length) := by
 subst hR
 have hl : ((C.drop m).take t).length = min t (C.length - m) := by rw [List.length_take, List.length_drop]
 have h1 : m + ((C.drop m).take t).length ≤ C.length := by omega
 have e1 : C.take (m + t) = C.take m ++ (C.drop m).take t := List.take_add
 refine ⟨?_, ?_, h1, fun h2 h3 => by omega⟩
 · rw [← e1]
   by_cases hle : m + t ≤ C.length
   · rw [hl, Nat.min_eq_left (by omega)]
   · rw [List.take_of_length_le (l := C) (i := m + t) (by omega), List.take_of_length_le (by omega)]
 · rw [List.drop_drop]
   by_cases hle : m + t ≤ C.length
   · rw [hl, Nat.min_eq_left (by omega)]
   · rw [List.drop_eq_nil_of_le (show C.length ≤ m + t by omega), List.drop_eq_nil_of_le (by omega)]
end
end Go.Proofs.YteabgcollokgjaaGreatDoor
namespace Go.Proofs.YteabgcollokgjaaGreatDoor
open Go.RowKit Go.MapKept Go.ChangeMaps Go.Shelf Go.Sort

section
variable {b : Nat} {w0 w w' : World} {l : List Ob}
theorem less_all {C : List ID} (h : C.Nodup) : lessL (setI C) C = [] := by
 have := lessL_take h C.length
 rw [List.take_length, List.drop_length] at this
 exact this
set_option maxRecDepth 100000 in
set_option maxHeartbeats 16000000 in
theorem law12_any (h : SW w.heap.size w l w) {A : Option Addr} {L : List Int} (hin : inOb A L ∈ l) (cap : Nat) : Calls Tryz.prog 12 #[.slice A L.length cap] w (fun e w' => e = .returned (.bool true) ∧ Below w.heap.size w w') := by
 have S0 := Lib.hid h
 have HSH := Lib.hid (Short_any w)
 have HIN := Lib.hid hin
 clear h hin
 go_enter Tryz.func12, Tryz.ntmps12
 go_wp2_with (go_at_call 32; (with_reducible refine HSH.out.mono ?_); refine halt_ ?_)
 rintro e w1 ⟨v, rfl, hb1⟩
 have S1 := Lib.hid (S0.out.on hb1)
 clear hb1 HSH S0
 cases v with
 | false =>
  go_wp2_with fail
  go_ret
  exact ⟨rfl, S1.out.2⟩
 | true =>
  have HBG := Lib.hid (begin_any S1.out HIN.out cap)
  go_wp2_with (go_at_call 60; (with_reducible refine HBG.out.mono ?_); refine halt_ ?_)
  rintro e w2 ⟨⟨tg1, x1, c1, r1, CA1, cc1, cd1⟩, LA1, lc1, rfl, s2, ok1⟩
  have OK1 := Lib.hid ok1
  obtain ⟨cs1, HCS1⟩ : ∃ cs : Array Value, Hid (#[vPtr tg1, vPtr x1.p, vPtr x1.ps, vPtr c1.cp, .slice r1.A r1.E.length r1.c, .slice r1.B r1.E.length r1.k, .slice CA1 cd1.length cc1, .slice none 0 0] = cs) := ⟨_, rfl⟩
  have HT1 : Hid (cs1[0]? = some (vPtr tg1)) := by rw [Hid, ← HCS1.out]; rfl
  have HD1 : Hid (cs1[2]? = some (vPtr x1.ps)) := by rw [Hid, ← HCS1.out]; rfl
  have HC1 : Hid (cs1[3]? = some (vPtr c1.cp)) := by rw [Hid, ← HCS1.out]; rfl
  have S2 : Hid (SW w.heap.size w (cellOb w2.heap.size 102 cs1 :: coOb c1 :: x1.obs (tpOb tg1 A cap L (bgE L).n :: riOb LA1 (bgE L).live :: r3Ob r1 :: riOb CA1 cd1 :: l)) (w2.alloc (.cells cs1 102))) := s2.newCell 102 cs1
  obtain ⟨g3, HG3⟩ : ∃ g3, Hid (w2.heap.size = g3) := ⟨_, rfl⟩
  obtain ⟨W2, HW2⟩ : ∃ W2, Hid (w2.alloc (.cells cs1 102) = W2) := ⟨_, rfl⟩
  obtain ⟨R1, HR1⟩ : ∃ R1, Hid ((tpOb tg1 A cap L (bgE L).n :: riOb LA1 (bgE L).live :: r3Ob r1 :: riOb CA1 cd1 :: l) = R1) := ⟨_, rfl⟩
  have HIN1 : Hid (inOb A L ∈ R1) := by rw [Hid, ← HR1.out]; simp [HIN.out]
  rw [HR1.out, HG3.out, HW2.out] at S2
  clear ok1 s2 HBG S1 HR1
  go_upto_region 4 with fail
  rw [HCS1.out, HW2.out, HG3.out]
  clear HW2 HG3 HCS1
  have HBG := Lib.hid (begin_any S2.out (List.mem_cons_of_mem _ (List.mem_cons_of_mem _ (List.mem_cons_of_mem _ (List.mem_cons_of_mem _ (List.mem_cons_of_mem _ (List.mem_cons_of_mem _ HIN1.out)))))) cap)
  go_wp2_with (go_at_call 60; (with_reducible refine HBG.out.mono ?_); refine halt_ ?_)
  rintro e w4 ⟨⟨tg2, x2, c2, r2, CA2, cc2, cd2⟩, LA2, lc2, rfl, s4, ok2⟩
  have OK2 := Lib.hid ok2
  obtain ⟨cs2, HCS2⟩ : ∃ cs : Array Value, Hid (#[vPtr tg2, vPtr x2.p, vPtr x2.ps, vPtr c2.cp, .slice r2.A r2.E.length r2.c, .slice r2.B r2.E.length r2.k, .slice CA2 cd2.length cc2, .slice none 0 0] = cs) := ⟨_, rfl⟩
  have HT2 : Hid (cs2[0]? = some (vPtr tg2)) := by rw [Hid, ← HCS2.out]; rfl
  have HD2 : Hid (cs2[2]? = some (vPtr x2.ps)) := by rw [Hid, ← HCS2.out]; rfl
  have HC2 : Hid (cs2[3]? = some (vPtr c2.cp)) := by rw [Hid, ← HCS2.out]; rfl
  have S4 : Hid (SW w.heap.size w (cellOb w4.heap.size 102 cs2 :: coOb c2 :: x2.obs (tpOb tg2 A cap L (bgE L).n :: riOb LA2 (bgE L).live :: r3Ob r2 :: riOb CA2 cd2 :: cellOb g3 102 cs1 :: coOb c1 :: x1.obs R1)) (w4.alloc (.cells cs2 102))) := s4.newCell 102 cs2
  obtain ⟨g6, HG6⟩ : ∃ g6, Hid (w4.heap.size = g6) := ⟨_, rfl⟩
  obtain ⟨W4, HW4⟩ : ∃ W4, Hid (w4.alloc (.cells cs2 102) = W4) := ⟨_, rfl⟩
  rw [HG6.out, HW4.out] at S4
  have S5 : Hid (SW w.heap.size w (coOb c1 :: x1.obs (coOb c2 :: x2.obs (tpOb tg2 A cap L (bgE L).n :: cellOb g6 102 cs2 :: cellOb g3 102 cs1 :: riOb LA2 (bgE L).live :: r3Ob r2 :: riOb CA2 cd2 :: R1))) W4) := SW.front (pre := [_, _, _, _, _, _, _, _, _, _, _, _, _, _, _, _]) (t := R1) S4.out [11, 12, 13, 14, 15, 1, 2, 3, 4, 5, 6, 0, 10, 7, 8, 9] (n := 16) rfl (by decide)
  obtain ⟨R2, HR2⟩ : ∃ R2, Hid ((riOb LA2 (bgE L).live :: r3Ob r2 :: riOb CA2 cd2 :: R1) = R2) := ⟨_, rfl⟩
  rw [HR2.out] at S5
  clear ok2 s4 HBG S2 S4 HR2
  have HKN := Lib.hid (known61_any W4)
  go_upto_region 5 with fail
  rw [HCS2.out, HW4.out, HG6.out]
  clear HW4 HG6 HCS2
  go_wp2_with (go_at_call 61; (with_reducible refine HKN.out.mono ?_); refine halt_ ?_)
  rintro e w5 ⟨rfl, hb5⟩
  have S6 := Lib.hid (S5.out.on hb5).drew
  clear hb5 HKN S5
  obtain ⟨C, HCC⟩ : ∃ C, Hid (c1.cand = C) := ⟨_, rfl⟩
  have HCC2 : Hid (c2.cand = C) := (bg_cand OK2.out OK1.out).trans HCC.out
  have HND : Hid (C.Nodup) := by have := bg_nodup OK1.out; rw [← HCC.out]; exact this
  have HID : Hid (∀ i ∈ C, okID i) := by have := bg_ids OK1.out; rw [← HCC.out]; exact this
  have hCl : C.length ≤ 11 := by have := bg_clen OK1.out; rw [← HCC.out]; exact this
  have HPS1 : Hid (c1.ps = x1.ps) := OK1.out.ps
  have HPS2 : Hid (c2.ps = x2.ps) := OK2.out.ps
  have HNH1 : Hid (∀ i, heldC c1 i = false) := fun i => held_none OK1.out.se i
  have HNH2 : Hid (∀ i, heldC c2 i = false) := fun i => held_none OK2.out.se i
  have HCL1 : Hid (Cl [fileN nmS] x1) := OK1.out.cl
  have HCL2 : Hid (Cl [fileN nmS] x2) := OK2.out.cl
  have HF1 : Hid (x1.C.length ≤ 11) := OK1.out.few
  have HF2 : Hid (x2.C.length ≤ 11) := OK2.out.few
  have HHS : Hid (∀ i, (asc x1.C i).isSome = (asc x2.C i).isSome) := fun i => (OK1.out.tx.has i).trans (OK2.out.tx.has i).symm
  obtain ⟨N0, HN0⟩ : ∃ N0, Hid ((bgE L).n = N0) := ⟨_, rfl⟩
  have hN0 : N0 ≤ 67 := by
   have h1 := bgS_n L (bgK L)
   have h2 := (bgK_le L).2
   have e : (bgE L).n = (bgS L (bgK L)).n := rfl
   rw [← HN0.out, e]
   omega
  rw [HN0.out] at S6
  obtain ⟨cp1, HCP1⟩ : ∃ cp1, Hid (c1.cp = cp1) := ⟨_, rfl⟩
  obtain ⟨cp2, HCP2⟩ : ∃ cp2, Hid (c2.cp = cp2) := ⟨_, rfl⟩
  obtain ⟨ps1, HQS1⟩ : ∃ ps1, Hid (x1.ps = ps1) := ⟨_, rfl⟩
  obtain ⟨ps2, HQS2⟩ : ∃ ps2, Hid (x2.ps = ps2) := ⟨_, rfl⟩
  rw [HCP1.out] at HC1
  rw [HCP2.out] at HC2
  rw [HQS1.out] at HD1
  rw [HQS2.out] at HD2
  have HL := Lib.hid (Left_any S6.out)
  rw [HCP1.out, HCC.out] at HL
  clear OK1 OK2 HIN HIN1
  go_upto_region 7 with fail
  refine wp_region_held_tail [(0, true), (1, true), (2, true), (3, true), (4, false), (5, false), (6, true), (7, true), (8, true), (9, true)] (fun w' => w'.cell? ⟨g3, 3, none⟩ = some (vPtr cp1)) (by kernel_rfl) (fun _ _ d _ _ h => by cases d <;> exact h) (by kernel_rfl) (((S6.out.drew.cell 12 rfl).cell 3).trans HC1.out) ?_
  simp only [picked, List.map_cons, List.map_nil, List.getD_cons_succ, List.getD_cons_zero]
  iterate 4
   (refine wpHeld_take (v := ?_) (Or.inl ⟨by rfl, ?_⟩) ?_
    rotate_left
    · (intro w' hSw; have h1 := hSw; go_simp; try with_reducible rfl)
    try simp only [Act.put, List.setIfInBounds_toArray, List.set_cons_zero, List.set_cons_succ])
  refine wpHeld_run (fun K hK => ?_)
  go_simp
  go_at_call 63
  refine HL.out.mono ?_
  rintro e w7 ⟨rfl, s7⟩
  have S7 := Lib.hid s7
  have HST := Lib.hid (Step_of s7 HPS1.out HCL1.out (C.length : Int) (by rw [HCC.out]; exact HID.out) (by rw [HCC.out]; omega) C (by
   rw [stepL_free HNH1.out, HCC.out, Int.toNat_natCast, List.take_length]))
  rw [HCP1.out] at HST
  clear s7 HL S6
  go_wp2_with fail
  refine hK.out _ _ (((S7.out.cell 12 rfl).cell 3).trans HC1.out) ?_
  clear hK K
  try simp only [Act.put, List.setIfInBounds_toArray, List.set_cons_zero, List.set_cons_succ]
  refine wpHeld_run (fun K hK => ?_)
  go_simp
  go_at_call 62
  refine HST.out.mono ?_
  rintro e w8 ⟨A1, cap1, y1, rfl, s8, hcl8, hg8⟩
  have S8 := Lib.hid s8
  have CL8 := Lib.hid hcl8
  have G8 := Lib.hid hg8
  clear s8 hcl8 hg8 HST S7
  go_wp2_with fail
  refine hK.out _ _ (((S8.out.cell 13 rfl).cell 3).trans HC1.out) ?_
  clear hK K
  try simp only [Act.put, List.setIfInBounds_toArray, List.set_cons_zero, List.set_cons_succ]
  iterate 4
   (refine wpHeld_take (v := ?_) (Or.inl ⟨by rfl, ?_⟩) ?_
    rotate_left
    · (intro w' hSw; have h1 := hSw; go_simp; try with_reducible rfl)
    try simp only [Act.put, List.setIfInBounds_toArray, List.set_cons_zero, List.set_cons_succ])
  refine wpHeld_nil ?_
  simp only [List.length_cons, List.length_nil, List.drop_succ_cons, List.drop_zero]
  obtain ⟨d1, HD1e⟩ : ∃ d1 : CR, Hid ({ c1 with cand := lessL (setI C) c1.cand } = d1) := ⟨_, rfl⟩
  have HDC1 : Hid (d1.cand = []) := by
   rw [← HD1e.out]
   show lessL (setI C) c1.cand = []
   rw [HCC.out]
   exact less_all HND.out
  have HDP1 : Hid (d1.cp = cp1) := by rw [← HD1e.out]; exact HCP1.out
  have HG1 : Hid (∀ i, (asc y1.C i).isSome = (!decide (i ∈ C) && (asc x1.C i).isSome)) := G8.out.has
  have HYF1 : Hid (y1.C.length ≤ 11) := by
   have := G8.out.cnt
   have := HF1.out
   rw [Hid]
   omega
  have HYP1 : Hid (y1.ps = ps1) := G8.out.ps.trans HQS1.out
  rw [HD1e.out] at S8
  obtain ⟨RB, HRB⟩ : ∃ RB, Hid ((cellOb g3 102 cs1 :: riOb A1 C :: coOb d1 :: y1.obs R2) = RB) := ⟨_, rfl⟩
  have S9 : Hid (SW w.heap.size w (coOb c2 :: x2.obs (tpOb tg2 A cap L N0 :: cellOb g6 102 cs2 :: RB)) w8) := by
   rw [← HRB.out]
   exact SW.front (pre := [_, _, _, _, _, _, _, _, _, _, _, _, _, _]) (t := R2) S8.out [6, 7, 8, 9, 10, 11, 12, 13, 0, 1, 2, 3, 4, 5] (n := 14) rfl (by decide)
  clear S8 HD1e
  go_wp2_with fail
  go_loopw [11, 12] (fun s11 s12 wr => ∃ (k m n : Nat) (d : CR) (y : SR) (PA : Option Addr) (pc : Nat), k ≤ m ∧ m ≤ C.length ∧ n ≤ N0 + k ∧ s12 = .int .i64 (k : Int) ∧ s11 = .slice PA (C.take m).length pc ∧ d.cp = cp2 ∧ d.ps = y.ps ∧ y.ps = ps2 ∧ (∀ i, heldC d i = false) ∧ d.cand = C.drop m ∧ Cl [fileN nmS] y ∧ (∀ i, (asc y.C i).isSome = (!decide (i ∈ C.take m) && (asc x2.C i).isSome)) ∧ y.C.length ≤ 11 ∧ SW w.heap.size w (rowOb 31 2 (.slice PA (C.take m).length pc) (C.take m).length ((C.take m).flatMap encID) :: coOb d :: y.obs (tpOb tg2 A cap L n :: cellOb g6 102 cs2 :: RB)) wr) (fun _ s12 _ => 40 - (intOf s12).toNat)
  case atStart => exact ⟨0, 0, N0, c2, x2, none, 0, Nat.le_refl _, Nat.zero_le _, Nat.le_refl _, rfl, rfl, HCP2.out, HPS2.out, HQS2.out, HNH2.out, HCC2.out, HCL2.out, (fun i => by simp), HF2.out, S9.out.newRow 31 2⟩
  case round =>
   obtain ⟨k, m, n, d, y, PA, pc, hkm, hmC, hn, rfl, rfl, hdcp, hdps, hyps, hhel, hcand, hcl, hhas, hfew, hs⟩ := hrel
   have DCP := Lib.hid hdcp
   have DPS := Lib.hid hdps
   have YPS := Lib.hid hyps
   have DNH := Lib.hid hhel
   have YCL := Lib.hid hcl
   have YHS := Lib.hid hhas
   have YF := Lib.hid hfew
   have S10 : Hid (SW w.heap.size w (coOb d :: y.obs (rowOb 31 2 (.slice PA (C.take m).length pc) (C.take m).length ((C.take m).flatMap encID) :: tpOb tg2 A cap L n :: cellOb g6 102 cs2 :: RB)) wr) := SW.front (pre := [_, _, _, _, _, _]) hs [1, 2, 3, 4, 5, 0] (n := 6) rfl (by decide)
   obtain ⟨D, HD⟩ : ∃ D, Hid (C.drop m = D) := ⟨_, rfl⟩
   have DCD : Hid (d.cand = D) := hcand.trans HD.out
   obtain ⟨F, HF⟩ : ∃ F, Hid (C.take m = F) := ⟨_, rfl⟩
   have HDL : Hid (D.length = C.length - m) := by rw [Hid, ← HD.out, List.length_drop]
   have HFL : Hid (F.length = m) := by rw [Hid, ← HF.out, List.length_take]; omega
   rw [HF.out] at S10 YHS ⊢
   have DND : Hid D.Nodup := by rw [← HD.out]; exact HND.out.sublist (List.drop_sublist _ _)
   have DID : Hid (∀ i ∈ D, okID i) := fun i hi => HID.out i (by rw [← HD.out] at hi; exact List.mem_of_mem_drop hi)
   have HL := Lib.hid (Left_any S10.out)
   rw [DCP.out, DCD.out] at HL
   clear hs hdcp hdps hyps hhel hcand hcl hhas hfew S9
   have k3 : wr.cell? ⟨g6, 3, none⟩ = some (vPtr cp2) := ((S10.out.cell 7 rfl).cell 3).trans HC2.out
   have hk40 : ¬ (40 ≤ (k : Int)) := by omega
   have hk40b : (k : Int) < 40 := by omega
   by_cases hlt : m < C.length
   · obtain ⟨q, HQ⟩ : ∃ q, Hid (D.length = q) := ⟨_, rfl⟩
     rw [HQ.out] at HL
     have hDl := HDL.out
     rw [HQ.out] at hDl
     have hq2 : 1 ≤ q := by omega
     clear hDl
     have hq0 : ¬ ((q : Int) ≤ 0) := by omega
     have hq1 : (0 : Int) < (q : Int) := by omega
     go_wp2_with (go_at_call 63; (with_reducible refine HL.out.mono ?_); refine halt_ ?_)
     rintro e w11 rfl s11
     have S11 := Lib.hid s11.drew
     have HNX := Lib.hid (Next_x S11.out 6 rfl 3 (by omega) (by omega))
     clear s11 HL S10 k3
     go_upto_region 12 with fail
     refine wp_region_held_tail [(0, true), (1, true), (2, true), (3, true), (4, false), (5, true), (6, false), (7, true), (8, true), (9, true), (10, true)] (fun w' => w'.cell? ⟨g6, 3, none⟩ = some (vPtr cp2) ∧ w'.cell? ⟨g6, 0, none⟩ = some (vPtr tg2)) (by kernel_rfl) (fun _ _ d _ _ h => by cases d <;> exact h) (by kernel_rfl) (⟨((S11.out.cell 7 rfl).cell 3).trans HC2.out, ((S11.out.cell 7 rfl).cell 0).trans HT2.out⟩) ?_
     simp only [picked, List.map_cons, List.map_nil, List.getD_cons_succ, List.getD_cons_zero]
     iterate 4
      (refine wpHeld_take (v := ?_) (Or.inl ⟨by rfl, ?_⟩) ?_
       rotate_left
       · (intro w' hSw; obtain ⟨h1, h2⟩ := hSw; go_simp; try with_reducible rfl)
       try simp only [Act.put, List.setIfInBounds_toArray, List.set_cons_zero, List.set_cons_succ])
     refine wpHeld_run (fun K hK => ?_)
     go_simp
     go_at_call 33
     refine HNX.out.mono ?_
     rintro e w12 ⟨rfl, s12⟩
     have S12 : Hid (SW w.heap.size w (coOb d :: y.obs (rowOb 31 2 (.slice PA F.length pc) F.length (F.flatMap encID) :: tpOb tg2 A cap L (n + 1) :: cellOb g6 102 cs2 :: RB)) w12) := s12
     obtain ⟨hv0, hv1⟩ := tnext_in L n 3
     have hv1 := hv1 (by omega)
     generalize tnext L n 3 = v at hv0 hv1 ⊢
     obtain ⟨t, HTT⟩ : ∃ t, Hid ((1 + v).toNat = t) := ⟨_, rfl⟩
     have ht1 : 1 ≤ t := by rw [← HTT.out]; omega
     obtain ⟨R, HR⟩ : ∃ R, Hid (D.take t = R) := ⟨_, rfl⟩
     have HST := Lib.hid (Step_of S12.out DPS.out YCL.out (1 + v) (by rw [DCD.out]; exact DID.out) (by have := HDL.out; rw [DCD.out]; omega) R (by
      rw [stepL_free DNH.out, DCD.out, HTT.out]
      exact HR.out))
     rw [DCP.out] at HST
     clear s12 HNX S11
     go_wp2_with fail
     refine hK.out _ _ ⟨((S12.out.cell 7 rfl).cell 3).trans HC2.out, ((S12.out.cell 7 rfl).cell 0).trans HT2.out⟩ ?_
     clear hK K
     try simp only [Act.put, List.setIfInBounds_toArray, List.set_cons_zero, List.set_cons_succ]
     (refine wpHeld_take (v := ?_) (Or.inl ⟨by rfl, ?_⟩) ?_
      rotate_left
      · (intro w' hSw; obtain ⟨h1, h2⟩ := hSw; go_simp; try with_reducible rfl)
      try simp only [Act.put, List.setIfInBounds_toArray, List.set_cons_zero, List.set_cons_succ])
     refine wpHeld_run (fun K hK => ?_)
     go_simp
     go_at_call 62
     rw [show IntKind.i64.wrap (1 + v) = 1 + v from IntWalk.i64_in (1 + v) (by omega)]
     refine HST.out.mono ?_
     rintro e w13 ⟨A2, cap2, y2, rfl, s13, hcl13, hg13⟩
     have S13 := Lib.hid s13
     have CL13 := Lib.hid hcl13
     have G13 := Lib.hid hg13
     clear s13 hcl13 hg13 HST S12
     go_wp2_with fail
     refine hK.out _ _ ⟨((S13.out.cell 8 rfl).cell 3).trans HC2.out, ((S13.out.cell 8 rfl).cell 0).trans HT2.out⟩ ?_
     clear hK K
     try simp only [Act.put, List.setIfInBounds_toArray, List.set_cons_zero, List.set_cons_succ]
     iterate 4
      (refine wpHeld_take (v := ?_) (Or.inl ⟨by rfl, ?_⟩) ?_
       rotate_left
       · (intro w' hSw; obtain ⟨h1, h2⟩ := hSw; go_simp; try with_reducible rfl)
       try simp only [Act.put, List.setIfInBounds_toArray, List.set_cons_zero, List.set_cons_succ])
     refine wpHeld_nil ?_
     simp only [List.length_cons, List.length_nil, List.drop_succ_cons, List.drop_zero]
     obtain ⟨i1, gi, gz0, gz1, gz2⟩ := info_parts info31
     have TM := Lib.hid (take_more hmC (R := R) (t := t) (by rw [HD.out]; exact HR.out))
     rw [HF.out, HD.out] at TM
     have hR1 : 1 ≤ R.length := TM.out.2.2.2 ht1 hlt
     have hR2 : m + R.length ≤ C.length := TM.out.2.2.1
     have hfl : F.length ≤ 11 := by have := HFL.out; omega
     go_wp2_with (at_builtin; (refine wpList_rowM (t := 38) (e := 31) (size := 2) (bytes := 16) (i := i1) S13.out 6 rfl (by rfl) (.tmp 70) (.tmp 71) (by rfl) Tryz.underlying38 gi gz0 gz1 gz2 rfl (by omega) (by rfl) A2 R.length cap2 (R.flatMap encID) (by rfl) (flat_len encID_len R) (ri_src (S13.out.get 0 (o := riOb A2 R) rfl)) (encID_all R) (by unfold maxLen; omega) (by omega) ?_); refine halt_ ?_)
     intro v4 w14 s14
     obtain ⟨g4, c4, rfl⟩ := own_some (s14.get 6 rfl) (by omega)
     obtain ⟨d2, HD2e⟩ : ∃ d2 : CR, Hid ({ d with cand := lessL (setI R) d.cand } = d2) := ⟨_, rfl⟩
     have hcd2 : d2.cand = D.drop t := by
      rw [← HD2e.out]
      show lessL (setI R) d.cand = D.drop t
      rw [DCD.out, ← HR.out]
      exact lessL_take DND.out t
     have hcp2 : d2.cp = cp2 := by rw [← HD2e.out]; exact DCP.out
     have hps2 : d2.ps = y2.ps := by rw [← HD2e.out]; exact DPS.out.trans G13.out.ps.symm
     have hnh2 : ∀ i, heldC d2 i = false := by rw [← HD2e.out]; exact DNH.out
     have hyp2 : y2.ps = ps2 := G13.out.ps.trans YPS.out
     have hfew2 : y2.C.length ≤ 11 := by
      have := G13.out.cnt
      have := YF.out
      omega
     have hhas2 : ∀ i, (asc y2.C i).isSome = (!decide (i ∈ F ++ R) && (asc x2.C i).isSome) := fun i => by
      rw [G13.out.has, YHS.out]
      by_cases h1 : i ∈ F <;> by_cases h2 : i ∈ R <;> simp [h1, h2]
     have S14 : Hid (SW w.heap.size w (rowOb 31 2 (.slice (some ⟨g4, 0, none⟩) (F ++ R).length c4) (F ++ R).length ((F ++ R).flatMap encID) :: coOb d2 :: y2.obs (tpOb tg2 A cap L (n + 1) :: cellOb g6 102 cs2 :: RB)) w14) := by
      rw [← HD2e.out, Hid, List.flatMap_append, List.length_append]
      exact SW.few (pre := [_, _, _, _, _, _, _]) s14 [6, 1, 2, 3, 4, 5] (n := 7) rfl (by decide) (by decide)
     have HH := Lib.hid (show d2.cand = D.drop t ∧ d2.cp = cp2 ∧ d2.ps = y2.ps ∧ (∀ i, heldC d2 i = false) ∧ y2.ps = ps2 ∧ y2.C.length ≤ 11 ∧ ∀ i, (asc y2.C i).isSome = (!decide (i ∈ F ++ R) && (asc x2.C i).isSome) from ⟨hcd2, hcp2, hps2, hnh2, hyp2, hfew2, hhas2⟩)
     clear s14 S13 hcd2 hcp2 hps2 hnh2 hyp2 hfew2 hhas2
     go_wp2_with fail
     go_roundw
     case rel =>
      obtain ⟨t1, t2, t3, _⟩ := TM.out
      obtain ⟨h1, h2, h3, h4, h5, h6, h7⟩ := HH.out
      refine ⟨k + 1, m + R.length, n + 1, d2, y2, some ⟨g4, 0, none⟩, c4, by omega, t3, by omega, by go_num, ?_, h2, h3, h5, h4, ?_, CL13.out, ?_, h6, ?_⟩
      · rw [t1, List.length_append]
      · rw [h1, t2]
      · rw [t1]
        exact h7
      · rw [t1]
        exact S14.out
     case measure => simp [intOf]; omega
   · obtain rfl : m = C.length := by omega
     obtain rfl : F = C := by rw [← HF.out, List.take_length]
     obtain rfl : D = [] := by rw [← HD.out, List.drop_length]
     rw [show (([] : List ID).length : Int) = 0 from rfl] at HL
     go_wp2_with (go_at_call 63; (with_reducible refine HL.out.mono ?_); refine halt_ ?_)
     rintro e w20 rfl s20
     have hm : riOb PA F = riOb PA F := rfl
     have T1 : Hid (SW w.heap.size w (coOb d1 :: coOb d :: y.obs (riOb PA F :: tpOb tg2 A cap L n :: cellOb g6 102 cs2 :: cellOb g3 102 cs1 :: riOb A1 F :: y1.obs R2)) w20.drew) := by
      have s20' : SW w.heap.size w (rowOb 31 2 (.slice PA F.length pc) F.length (F.flatMap encID) :: coOb d :: y.obs (tpOb tg2 A cap L n :: cellOb g6 102 cs2 :: RB)) w20 := SW.front (pre := [_, _, _, _, _, _]) s20 [5, 0, 1, 2, 3, 4] (n := 6) rfl (by decide)
      have s21 := s20'.rowRi.drew
      rw [← HRB.out] at s21
      exact SW.front (pre := [_, _, _, _, _, _, _, _, _, _, _]) s21 [10, 1, 2, 3, 4, 5, 0, 6, 7, 8, 9] (n := 11) rfl (by decide)
     have HSF := Lib.hid (fun (w' : World) (s : SW w.heap.size w (coOb d1 :: coOb d :: y.obs (riOb PA F :: tpOb tg2 A cap L n :: cellOb g6 102 cs2 :: cellOb g3 102 cs1 :: riOb A1 F :: y1.obs R2)) w') => (show w'.cell? ⟨g3, 2, none⟩ = some (vPtr ps1) ∧ w'.cell? ⟨g3, 3, none⟩ = some (vPtr cp1) ∧ w'.cell? ⟨g6, 2, none⟩ = some (vPtr ps2) ∧ w'.cell? ⟨g6, 3, none⟩ = some (vPtr cp2) from ⟨((s.cell 9 rfl).cell 2).trans HD1.out, ((s.cell 9 rfl).cell 3).trans HC1.out, ((s.cell 8 rfl).cell 2).trans HD2.out, ((s.cell 8 rfl).cell 3).trans HC2.out⟩))
     have HL := Lib.hid (Left_any T1.out)
     rw [HDP1.out, HDC1.out] at HL
     rw [show (([] : List ID).length : Int) = 0 from rfl] at HL
     clear s20 S10 k3
     go_upto_region 16 with fail
     refine wp_region_held_tail [(0, true), (1, true), (2, true), (3, true), (4, true), (5, false), (6, true), (7, true), (8, true), (9, true), (10, true), (11, false), (12, true), (13, true), (14, true), (15, true), (16, true), (17, false), (18, true), (19, true), (20, true), (21, true), (23, true), (24, true), (22, false)] (fun w' => w'.cell? ⟨g3, 2, none⟩ = some (vPtr ps1) ∧ w'.cell? ⟨g3, 3, none⟩ = some (vPtr cp1) ∧ w'.cell? ⟨g6, 2, none⟩ = some (vPtr ps2) ∧ w'.cell? ⟨g6, 3, none⟩ = some (vPtr cp2)) (by kernel_rfl) (fun _ _ d _ _ h => by cases d <;> exact h) (by kernel_rfl) (HSF.out _ T1.out) ?_
     simp only [picked, List.map_cons, List.map_nil, List.getD_cons_succ, List.getD_cons_zero]
     iterate 5
      (refine wpHeld_take (v := ?_) (Or.inl ⟨by rfl, ?_⟩) ?_
       rotate_left
       · (intro w' hSw; obtain ⟨h1, h2, h3, h4⟩ := hSw; go_simp; try with_reducible rfl)
       try simp only [Act.put, List.setIfInBounds_toArray, List.set_cons_zero, List.set_cons_succ])
     refine wpHeld_run (fun K hK => ?_)
     go_simp
     go_at_call 63
     refine HL.out.mono ?_
     rintro e w21 ⟨rfl, s21⟩
     have T2 : Hid (SW w.heap.size w (coOb d :: coOb d1 :: y.obs (riOb PA F :: tpOb tg2 A cap L n :: cellOb g6 102 cs2 :: cellOb g3 102 cs1 :: riOb A1 F :: y1.obs R2)) w21) := SW.front (pre := [_, _]) s21 [1, 0] (n := 2) rfl (by decide)
     have HL2 := Lib.hid (Left_any T2.out)
     rw [DCP.out, DCD.out] at HL2
     clear s21 HL T1
     go_wp2_with fail
     refine hK.out _ _ (HSF.out _ (SW.front (pre := [_, _]) T2.out [1, 0] (n := 2) rfl (by decide))) ?_
     clear hK K
     try simp only [Act.put, List.setIfInBounds_toArray, List.set_cons_zero, List.set_cons_succ]
     iterate 5
      (refine wpHeld_take (v := ?_) (Or.inl ⟨by rfl, ?_⟩) ?_
       rotate_left
       · (intro w' hSw; obtain ⟨h1, h2, h3, h4⟩ := hSw; go_simp; try with_reducible rfl)
       try simp only [Act.put, List.setIfInBounds_toArray, List.set_cons_zero, List.set_cons_succ])
     refine wpHeld_run (fun K hK => ?_)
     go_simp
     go_at_call 63
     refine HL2.out.mono ?_
     rintro e w22 ⟨rfl, s22⟩
     have T3 : Hid (SW w.heap.size w (coOb d1 :: coOb d :: y.obs (riOb PA F :: tpOb tg2 A cap L n :: cellOb g6 102 cs2 :: cellOb g3 102 cs1 :: riOb A1 F :: y1.obs R2)) w22) := SW.front (pre := [_, _]) s22 [1, 0] (n := 2) rfl (by decide)
     have HSM := Lib.hid (Same_S T3.out (xs := F) (ys := F) (A := A1) (B := PA) (by simp) (by simp) (by omega) (by omega) cap1 pc (decide_eq_true rfl))
     clear s22 HL2 T2
     go_wp2_with fail
     refine hK.out _ _ (HSF.out _ T3.out) ?_
     clear hK K
     try simp only [Act.put, List.setIfInBounds_toArray, List.set_cons_zero, List.set_cons_succ]
     iterate 5
      (refine wpHeld_take (v := ?_) (Or.inl ⟨by rfl, ?_⟩) ?_
       rotate_left
       · (intro w' hSw; obtain ⟨h1, h2, h3, h4⟩ := hSw; go_simp; try with_reducible rfl)
       try simp only [Act.put, List.setIfInBounds_toArray, List.set_cons_zero, List.set_cons_succ])
     refine wpHeld_run (fun K hK => ?_)
     go_simp
     go_at_call 64
     refine HSM.out.mono ?_
     rintro e w23 ⟨rfl, s23⟩
     have T4 : Hid (SW w.heap.size w (y1.obs (coOb d1 :: coOb d :: y.obs (riOb PA F :: tpOb tg2 A cap L n :: cellOb g6 102 cs2 :: cellOb g3 102 cs1 :: riOb A1 F :: R2))) w23) := SW.front (pre := [_, _, _, _, _, _, _, _, _, _, _, _, _, _, _]) (t := R2) s23 [11, 12, 13, 14, 0, 1, 2, 3, 4, 5, 6, 7, 8, 9, 10] (n := 15) rfl (by decide)
     have HI1 := Lib.hid (IDs_S T4.out (Nat.le_trans HYF1.out (by decide)))
     rw [HYP1.out] at HI1
     have HSF2 := HSF.out _ s23
     clear HSM T3
     go_wp2_with fail
     refine hK.out _ _ HSF2 ?_
     clear hK K HSF2 s23
     try simp only [Act.put, List.setIfInBounds_toArray, List.set_cons_zero, List.set_cons_succ]
     iterate 6
      (refine wpHeld_take (v := ?_) (Or.inl ⟨by rfl, ?_⟩) ?_
       rotate_left
       · (intro w' hSw; obtain ⟨h1, h2, h3, h4⟩ := hSw; go_simp; try with_reducible rfl)
       try simp only [Act.put, List.setIfInBounds_toArray, List.set_cons_zero, List.set_cons_succ])
     refine wpHeld_run (fun K hK => ?_)
     go_simp
     go_at_call 28
     refine HI1.out.mono ?_
     rintro e w24 ⟨B1, b1, z1, rfl, hp1, hso1, s24⟩
     have HP1 := Lib.hid hp1
     have HSO1 := Lib.hid hso1
     have T5 : Hid (SW w.heap.size w (y.obs (riOb B1 z1 :: y1.obs (coOb d1 :: coOb d :: riOb PA F :: tpOb tg2 A cap L n :: cellOb g6 102 cs2 :: cellOb g3 102 cs1 :: riOb A1 F :: R2))) w24) := SW.front (pre := [_, _, _, _, _, _, _, _, _, _, _]) s24 [7, 8, 9, 10, 0, 1, 2, 3, 4, 5, 6] (n := 11) rfl (by decide)
     have HI2 := Lib.hid (IDs_S T5.out (Nat.le_trans YF.out (by decide)))
     rw [YPS.out] at HI2
     have HSF3 : w24.cell? ⟨g3, 2, none⟩ = some (vPtr ps1) ∧ w24.cell? ⟨g3, 3, none⟩ = some (vPtr cp1) ∧ w24.cell? ⟨g6, 2, none⟩ = some (vPtr ps2) ∧ w24.cell? ⟨g6, 3, none⟩ = some (vPtr cp2) := ⟨((T5.out.cell 14 rfl).cell 2).trans HD1.out, ((T5.out.cell 14 rfl).cell 3).trans HC1.out, ((T5.out.cell 13 rfl).cell 2).trans HD2.out, ((T5.out.cell 13 rfl).cell 3).trans HC2.out⟩
     clear hp1 hso1 s24 HI1 T4
     go_wp2_with fail
     refine hK.out _ _ HSF3 ?_
     clear hK K HSF3
     try simp only [Act.put, List.setIfInBounds_toArray, List.set_cons_zero, List.set_cons_succ]
     refine wpHeld_nil ?_
     simp only [List.length_cons, List.length_nil, List.drop_succ_cons, List.drop_zero]
     go_wp2_with (go_at_call 28; (with_reducible refine HI2.out.mono ?_); refine halt_ ?_)
     rintro e w25 ⟨B2, b2, z2, rfl, hp2, hso2, s25⟩
     have hl1 : z1.length ≤ 12 := by rw [HP1.out.length_eq, List.length_map]; have := HYF1.out; omega
     have hl2 : z2.length ≤ 12 := by rw [hp2.length_eq, List.length_map]; have := YF.out; omega
     have heq : z1 = z2 := ids_uniq HP1.out hp2 HSO1.out hso2 CL8.out.keys YCL.out.keys (fun i => by rw [← asc_key, ← asc_key, HG1.out, YHS.out, HHS.out])
     have HSM := Lib.hid (Same_S s25 (xs := z1) (ys := z2) (A := B1) (B := B2) (by simp) (by simp) (by omega) (by omega) b1 b2 (decide_eq_true heq))
     clear heq hp2 hso2 s25 HI2 T5
     go_wp2_with (go_at_call 64; (with_reducible refine HSM.out.mono ?_); refine halt_ ?_)
     rintro e w26 ⟨rfl, s26⟩
     have S26 := Lib.hid s26
     clear s26 HSM
     go_wp2_with fail
     go_ret
     exact ⟨rfl, S26.out.2⟩
theorem law12 {A : Option Addr} {L : List Int} {n : Nat} (e : L.length = n) (cap : Nat) (w : World) (hr : RdT w w.heap.size A L) (hl : n ≤ 9223372036854775807) : Calls Tryz.prog 12 #[.slice A n cap] w (fun e w' => e = .returned (.bool true) ∧ Below w.heap.size w w') := by
 subst e
 exact law12_any (SW.startIn hr hl) (by simp) cap
end
end Go.Proofs.YteabgcollokgjaaGreatDoor
namespace Go.Proofs.YteabgcollokgjaaGreatDoor.lawCollectorSteps
open Go.ChangeShapes Go.WideShapes Go.ChangeAt Go.RowKit

theorem own : ownKnob Tryz.prog.godebug = none := by kernel_rfl
theorem laidOut : laidOutB Tryz.prog = true := by kernel_rfl
set_option maxRecDepth 100000 in
theorem lifted (os : Os) (started : os.Started) (H : Type) (enc : TypeId × Value → H) :
    ReturnsInHanded {} Tryz.checked os 12 .any (fun w args => (Rows.collectorStepsSpec.pre enc Tryz.prog Tryz.f12 [] false w args ∧ laidMetH Tryz.prog Rows.collectorStepsRow.laid w) ∧ sizedMet enc Tryz.prog Tryz.f12 (OpenSpec.ofChange Rows.collectorStepsSpec) false w args)
      (Rows.collectorStepsSpec.post enc Tryz.prog Tryz.f12 false true false false) := by
  refine returnsInHanded_of_change_and (C := Tryz.checked) (X := fun w _ => laidMetH Tryz.prog Rows.collectorStepsRow.laid w) (fun _ _ _ hh h => h.of_heap hh) own started (by kernel_rfl) Tryz.func12
    (ChangeSpec.witness_shaped (enc := enc) (C := Tryz.checked) (os := os) (X := fun w _ => laidMetH Tryz.prog Rows.collectorStepsRow.laid w) false (World.laidAll Tryz.prog os Rows.collectorStepsRow.laid) #[.slice none 0 0] 8 (World.laidAll_os _ _ _)
      (World.shaped_of_ZipB (by kernel_rfl) (by kernel_rfl)) (by kernel_rfl) (by kernel_rfl) (by kernel_rfl)
      (by rw [MakeChecks.laidMetH_plain _ _ _ (by kernel_rfl)]; exact laidMet_laidAll _ (by kernel_rfl) (by kernel_rfl))) ?_
  intro W base args ds gs before hval0 hW _ _ _ _
  have hval : ∀ (j : Nat) t v, Tryz.f12.params[j]? = some t → args[j]? = some v → Value.okWide Tryz.prog W .any base t v := hval0
  have hW' := hW
  obtain ⟨p, q, hA0, hV, rfl, hfz, hnd⟩ := hW
  have hA : DataW.TrodAll enc Tryz.prog W 0 (fun _ => true) true Tryz.f12.params.toList args.toList ds p := hA0
  rw [Tryz.params12] at hA hval
  obtain ⟨v0, vs0, d0, ds0, p0, q0, hargs, rfl, rfl, h0, r0⟩ := trodAll_cons hA
  obtain ⟨rfl, rfl, rfl⟩ := trodAll_nil r0
  obtain rfl : args = #[v0] := by cases args; simp_all
  obtain ⟨rfl, rfl⟩ := trodVars_none hV
  obtain ⟨a0, len0, cap0, rfl⟩ := okWide_slice Tryz.underlying47 (hval 0 47 v0 rfl rfl)
  have k0 := h0
  have lt0 : ∀ x ∈ p0, x.block < W.heap.size := by obtain ⟨m, hm⟩ := k0; exact DataW.trod_lt m _ _ _ hm
  obtain ⟨z0, e0, w0, l0⟩ := open_nums h0
  clear hA0 hval0
  simp only [List.append_nil] at hW'
  refine (law12 e0 cap0 W w0 l0).mono fun e W' ⟨he, bel⟩ => ?_
  subst he
  exact ⟨_, rfl, _, _, _, [], _, [], hW', trodAll_mk1 (shut_bool Tryz.underlying4 _), (trodAll_cons_mk (Below.trod laidOut (by kernel_rfl) (of_decide_eq_true (by kernel_rfl)) k0 bel lt0) trodAll_mk0), rfl, bel.frame _, fun h => by cases h⟩
theorem over : Rows.CollectorStepsSaid :=
  OpenClaim.holds_of_wide 12 Tryz.f12 rfl rfl rfl rfl rfl rfl rfl ⟨rfl, rfl, rfl, rfl, rfl⟩ rfl rfl rfl rfl rfl (by kernel_rfl) Tryz.func12 facts
    inst (by unfold Func.isWrapper; rw [if_neg (by decide +kernel)]; exact ⟨rfl, rfl⟩)
    (fun os started H enc _ => lifted os started H enc)
end Go.Proofs.YteabgcollokgjaaGreatDoor.lawCollectorSteps
namespace Go.Proofs.YteabgcollokgjaaGreatDoor
open Go
theorem collectorSteps_card_holds : Rows.CollectorStepsCardSaid :=
  Claim7.holds_tied_plain_at .later [] [.data, .data, .data, .sentinel, .sentinel] true (true, "4a38bbb49ce63abfc4bef169534f954a347f1319075e6aeec9c8b86bb9d66d28") true lawCollectorSteps.over (fun _ h => by cases h) lawCollectorSteps.cardWf (fun _ h => by cases h) collectorSteps_row_tie rfl ⟨rfl, rfl⟩ mainIs_ok rfl
    (fun f fn hf hfn => by
      obtain rfl : f = 12 := Option.some.inj (lawCollectorSteps.named.symm.trans hf) |>.symm
      obtain rfl : fn = Tryz.f12 := (Option.some.inj (Tryz.func12.symm.trans hfn)).symm
      exact ⟨cardLooks, fun j t ht => by
        rw [Tryz.params12] at ht
        have hm : t ∈ [47] := by simpa using Array.mem_of_getElem? ht
        exact (show Tryz.prog.wantsStandIn t = false by simpa using List.all_eq_true.1 lawCollectorSteps.noStand t hm)⟩)
    lawCollectorSteps.cardGoes
#print axioms collectorSteps_card_holds
end Go.Proofs.YteabgcollokgjaaGreatDoor
