/- KJ KK SI SJ FQ in one text. -/
import Derived.Test.YteabgcollokgjaaGreatDoorQ07
import Derived.IntWalk
import Derived.Test.YteabgcollokgjaaGreatDoorQ06
import Derived.Deep.AppendLies
import Derived.Test.YteabgcollokgjaaGreatDoorQ02
import Derived.Laws.Bits64b
set_option linter.unusedSimpArgs false
set_option linter.unusedVariables false
namespace Go.Proofs.YteabgcollokgjaaGreatDoor
open Go.RowKit Go.Shelf Go.Sort
attribute [local go_sem] wext_cell

abbrev id0 : ID := (0, 0)
/-- Block g has the IDs l at its head. -/
def RowI (w : World) (g : Nat) (l : List ID) : Prop := ∃ cur, IsB w g 31 cur ∧ l.length * 2 ≤ cur.size ∧ ∀ j, j < l.length → cur[j * 2]? = some (.int .u64 (l.getD j id0).1) ∧ cur[j * 2 + 1]? = some (.int .i64 (l.getD j id0).2)
theorem RowI.on {w w' : World} {g : Nat} {l : List ID} (h : RowI w g l) (hb : Below w.heap.size w w') : RowI w' g l := by
 obtain ⟨cur, h1, h2⟩ := h
 exact ⟨cur, h1.on hb, h2⟩
theorem RowI.cells {w : World} {g : Nat} {l : List ID} (h : RowI w g l) {j : Nat} (hj : j < l.length) {x : ID} (hx : l.getD j id0 = x) : w.cell? ⟨g, j * 2, none⟩ = some (.int .u64 x.1) ∧ w.cell? ⟨g, j * 2 + 1, none⟩ = some (.int .i64 x.2) ∧ w.frozen? ⟨g, j * 2, none⟩ = false ∧ w.frozen? ⟨g, j * 2 + 1, none⟩ = false := by
 obtain ⟨cur, h1, h2, h3⟩ := h
 subst hx
 exact ⟨(h1.cell _).trans (h3 j hj).1, (h1.cell _).trans (h3 j hj).2, h1.frozen _, h1.frozen _⟩
theorem RowI.put {w : World} {g : Nat} {l : List ID} (h : RowI w g l) (k : Nat) (hk : k < l.length) (x : ID) : RowI ((w.setCell ⟨g, k * 2, none⟩ (.int .u64 x.1)).setCell ⟨g, k * 2 + 1, none⟩ (.int .i64 x.2)) g (l.set k x) := by
 obtain ⟨cur, h1, h2, h3⟩ := h
 refine ⟨_, (h1.set_ (k * 2) (.int .u64 x.1)).set_ (k * 2 + 1) (.int .i64 x.2), by simp; omega, fun j hj => ?_⟩
 simp only [List.length_set] at hj
 obtain ⟨c0, c1⟩ := h3 j hj
 by_cases e : k = j
 · subst e
   have e1 : (l.set k x).getD k id0 = x := by rw [List.getD_eq_getElem?_getD, List.getElem?_set_self hk]; rfl
   rw [e1]
   refine ⟨?_, ?_⟩
   · rw [Array.getElem?_setIfInBounds_ne (by omega), Array.getElem?_setIfInBounds_self_of_lt (by omega)]
   · rw [Array.getElem?_setIfInBounds_self_of_lt (by simp; omega)]
 · have e1 : (l.set k x).getD j id0 = l.getD j id0 := by rw [List.getD_eq_getElem?_getD, List.getElem?_set_ne e, List.getD_eq_getElem?_getD]
   rw [e1]
   refine ⟨?_, ?_⟩
   · rw [Array.getElem?_setIfInBounds_ne (by omega), Array.getElem?_setIfInBounds_ne (by omega)]; exact c0
   · rw [Array.getElem?_setIfInBounds_ne (by omega), Array.getElem?_setIfInBounds_ne (by omega)]; exact c1
theorem asc_any (x y : ID) (w : World) : Calls Tryz.prog 104 #[.agg #[], .agg #[.int .u64 x.1, .int .i64 x.2], .agg #[.int .u64 y.1, .int .i64 y.2]] w fun e w' => e = .returned (.int .i64 (cmpID x y)) ∧ Below w.heap.size w w' :=
 (asc_grow x.1 x.2 y.1 y.2 w).mono fun _ _ ⟨he, q, os, hw⟩ => ⟨he, hw ▸ below_grow w q os⟩
/-- The order that the sort leaves. -/
def SortedI (l : List ID) : Prop := l.Pairwise (fun a b => ltID b a = false)
/-- The row while x goes down: ahead of it the first j of S. -/
def midI (S R : List ID) (x : ID) (j : Nat) : List ID := S.take j ++ x :: (S.drop j ++ R)
theorem midI_append (S R : List ID) (x : ID) (j : Nat) : midI S R x j = (S.take j ++ x :: S.drop j) ++ R := by
 unfold midI
 rw [List.append_assoc, List.cons_append]
theorem midI_swap {S R : List ID} {x y : ID} {m : Nat} (hm : m < S.length) (hy : S.getD m id0 = y) : ((midI S R x (m + 1)).set (m + 1) y).set m x = midI S R x m := by
 have hd : S.drop m = y :: S.drop (m + 1) := by
  rw [List.drop_eq_getElem_cons hm, ← hy, List.getD_eq_getElem?_getD, List.getElem?_eq_getElem hm]
  rfl
 have ht : S.take (m + 1) = S.take m ++ [y] := by
  rw [List.take_succ_eq_append_getElem hm, ← hy, List.getD_eq_getElem?_getD, List.getElem?_eq_getElem hm]
  rfl
 have hl : (S.take m).length = m := by rw [List.length_take]; omega
 unfold midI
 rw [ht, hd, List.append_assoc, List.set_append_right _ _ (by omega), hl, show m + 1 - m = 1 by omega]
 simp only [List.cons_append, List.nil_append, List.set_cons_succ, List.set_cons_zero]
 rw [List.set_append_right _ _ (by omega), hl, Nat.sub_self]
 simp
theorem ltID_trans {a b c : ID} (h : ltID b a = false) (k : ltID c b = false) : ltID c a = false := by
 simp only [ltID, decide_eq_false_iff_not] at *
 omega
theorem ltID_asym {a b : ID} (h : ltID a b = true) : ltID b a = false := by
 simp only [ltID, decide_eq_true_eq, decide_eq_false_iff_not] at *
 omega
/-- Where x comes to rest the row is in order. -/
theorem SortedI.ins {S : List ID} {x : ID} {j : Nat} (h : SortedI S) (hjS : j ≤ S.length) (hj : ∀ y ∈ S.drop j, ltID x y = true) (hl : ∀ m, j = m + 1 → ltID x (S.getD m id0) = false) : SortedI (S.take j ++ x :: S.drop j) := by
 unfold SortedI at *
 have h' := h
 rw [← List.take_append_drop j S, List.pairwise_append] at h'
 obtain ⟨h1, h2, h3⟩ := h'
 have hx : ∀ a ∈ S.take j, ltID x a = false := by
  intro a ha
  cases j with
  | zero => simp at ha
  | succ m =>
   have hm : m < S.length := by omega
   have e1 := hl m rfl
   have ht : S.take (m + 1) = S.take m ++ [S.getD m id0] := by
    rw [List.take_succ_eq_append_getElem hm, List.getD_eq_getElem?_getD, List.getElem?_eq_getElem hm]
    rfl
   rw [ht] at ha h1
   rcases List.mem_append.1 ha with ha | ha
   · exact ltID_trans ((List.pairwise_append.1 h1).2.2 a ha _ (by simp)) e1
   · simp at ha
     rw [ha]
     exact e1
 refine List.pairwise_append.2 ⟨h1, List.pairwise_cons.2 ⟨fun b hb => ltID_asym (hj b hb), h2⟩, fun a ha b hb => ?_⟩
 rcases List.mem_cons.1 hb with rfl | hb
 · exact hx a ha
 · exact h3 a ha b hb
abbrev vAsc : Value := .func (.func 104) #[.agg #[]] #[]
theorem mid_perm {S xs : List ID} {x : ID} {i : Nat} (hp : S.Perm (xs.take i)) (hd : xs.drop i = x :: xs.drop (i + 1)) (j : Nat) : (S.take j ++ x :: S.drop j).Perm (xs.take (i + 1)) := by
 have hlt : i < xs.length := by
  rcases Nat.lt_or_ge i xs.length with h | h
  · exact h
  · rw [List.drop_of_length_le h] at hd
    cases hd
 have hx : xs.take (i + 1) = xs.take i ++ [x] := by
  rw [List.take_succ_eq_append_getElem hlt]
  rw [List.drop_eq_getElem_cons hlt] at hd
  injection hd with h1 _
  rw [h1]
 rw [hx]
 refine (List.perm_middle).trans ?_
 rw [List.take_append_drop]
 exact ((hp.cons x).trans (List.perm_append_singleton x _).symm)
set_option maxRecDepth 100000 in
set_option maxHeartbeats 4000000 in
theorem insI_any (g c : Nat) (xs : List ID) (w : World) (h : RowI w g xs) (hn : xs.length ≤ 1000) (hg : g < w.heap.size) :
 Calls Tryz.prog 202 #[.slice (some ⟨g, 0, none⟩) xs.length c, .int .i64 0, .int .i64 xs.length, vAsc] w (fun e w' => e = .returned (.tuple #[]) ∧ (∃ ys, ys.Perm xs ∧ SortedI ys ∧ RowI w' g ys) ∧ w.grownBy w' (some g)) := by
 have H := Lib.hid h
 clear h
 go_enter Tryz.func202, Tryz.ntmps202
 go_wp2_with fail
 go_loopw [8] (fun v wr => ∃ (i : Nat) (S : List ID), 1 ≤ i ∧ i ≤ max xs.length 1 ∧ v = .int .i64 i ∧ Hid (S.length = min i xs.length) ∧ SortedI S ∧ S.Perm (xs.take i) ∧ RowI wr g (S ++ xs.drop i) ∧ w.grownBy wr (some g)) (fun v _ => xs.length - (intOf v).toNat)
 case atStart =>
  refine ⟨1, xs.take 1, by omega, by omega, rfl, by simp [Hid], ?_, List.Perm.refl _, by rw [List.take_append_drop]; exact H.out, g_refl _ _⟩
  unfold SortedI
  cases xs with
  | nil => simp
  | cons a l => simp
 case round =>
  obtain ⟨i, S, hi1, hi2, rfl, HL, hs, hp, hr, hgr⟩ := hrel
  have HS := Lib.hid hs
  have HP := Lib.hid hp
  have HR := Lib.hid hr
  have HG := Lib.hid hgr
  clear hs hp hr hgr
  by_cases hlt : i < xs.length
  · go_wp2_with fail
    have hSl : S.length = i := by rw [HL.out]; omega
    obtain ⟨x, HX⟩ : ∃ x, Hid (xs.getD i id0 = x) := ⟨_, rfl⟩
    have hdrop : xs.drop i = x :: xs.drop (i + 1) := by
     rw [List.drop_eq_getElem_cons hlt, ← HX.out, List.getD_eq_getElem?_getD, List.getElem?_eq_getElem hlt]
     rfl
    have HD := Lib.hid hdrop
    have M0 : Hid (RowI wr g (midI S (xs.drop (i + 1)) x i)) := by
     rw [Hid, midI, ← hSl, List.take_length, List.drop_length, List.nil_append, hSl, ← hdrop]
     exact HR.out
    have HSl := Lib.hid hSl
    clear hdrop hSl HL
    go_loopw [9] (fun v wq => ∃ j : Nat, j ≤ i ∧ v = .int .i64 j ∧ RowI wq g (midI S (xs.drop (i + 1)) x j) ∧ (∀ y ∈ S.drop j, ltID x y = true) ∧ w.grownBy wq (some g)) (fun v _ => (intOf v).toNat)
    case atStart => exact ⟨i, Nat.le_refl _, rfl, M0.out, (by rw [← HSl.out, List.drop_length]; simp), HG.out⟩
    case round =>
     rename World => wq
     obtain ⟨j, hj, rfl, hr, hlts, hgr⟩ := hrel
     have RQ := Lib.hid hr
     have LQ := Lib.hid hlts
     have GQ := Lib.hid hgr
     clear hr hlts hgr
     have hgq : g < wq.heap.size := Nat.lt_of_lt_of_le hg GQ.out.size
     by_cases hj0 : j = 0
     · have hjf : decide (0 < j) = false := by simp [hj0]
       have HJ0 := Lib.hid hj0
       clear hj0
       go_wp2_with fail
       go_quiet (fail)
       go_wp2_with fail
       go_roundw
       case rel =>
        have hj0 := HJ0.out
        subst hj0
        refine ⟨i + 1, S.take 0 ++ x :: S.drop 0, by omega, by omega, by go_num, ?_, HS.out.ins (by omega) LQ.out (fun m e => by omega), ?_, ?_, g_drewN GQ.out _⟩
        · rw [Hid]; simp [HSl.out]; omega
        · exact mid_perm HP.out HD.out 0
        · have := RQ.out
          rw [midI_append] at this
          exact this
       case measure => simp [intOf]; omega
     · obtain ⟨m, rfl⟩ : ∃ m, j = m + 1 := ⟨j - 1, by omega⟩
       clear hj0
       obtain ⟨y, HY⟩ : ∃ y, Hid (S.getD m id0 = y) := ⟨_, rfl⟩
       have hml : (midI S (xs.drop (i + 1)) x (m + 1)).length = xs.length := by
        unfold midI
        simp only [List.length_append, List.length_take, List.length_cons, List.length_drop]
        have := HSl.out
        omega
       have g1 : (midI S (xs.drop (i + 1)) x (m + 1)).getD (m + 1) id0 = x := by
        unfold midI
        rw [List.getD_eq_getElem?_getD, List.getElem?_append_right (by rw [List.length_take]; omega), List.length_take, show m + 1 - min (m + 1) S.length = 0 by have := HSl.out; omega]
        rfl
       have g0 : (midI S (xs.drop (i + 1)) x (m + 1)).getD m id0 = y := by
        unfold midI
        rw [List.getD_eq_getElem?_getD, List.getElem?_append_left (by rw [List.length_take]; have := HSl.out; omega), List.getElem?_take_of_lt (by omega), ← List.getD_eq_getElem?_getD]
        exact HY.out
       obtain ⟨a0, a1, a2, a3⟩ := RQ.out.cells (j := m + 1) (by omega) g1
       obtain ⟨b0, b1, b2, b3⟩ := RQ.out.cells (j := m) (by omega) g0
       have ML := Lib.hid hml
       have G1x := Lib.hid g1
       have G0x := Lib.hid g0
       clear hml g1 g0
       by_cases hc : ltID x y = true
       · have hcm : decide (cmpID x y < 0) = true := by simpa using cmpID_lt hc
         have HC := Lib.hid hc
         clear hc
         go_wp2_with fail
         refine wp_region_ext (by kernel_rfl) (by kernel_rfl) ?_
         repeat (go_big_quiet_step ((go_at_call 104; exact ext_call (asc_any x y _))))
         refine wpQuiet_nil ?_
         intro w1 hb1
         have R1 : Hid (RowI w1 g (midI S (xs.drop (i + 1)) x (m + 1))) := RQ.out.on hb1
         have G1 : Hid (w.grownBy w1 (some g)) := g_below GQ.out hb1
         clear a0 a1 a2 a3 b0 b1 b2 b3 hcm
         obtain ⟨a0, a1, a2, a3⟩ := R1.out.cells (j := m + 1) (by rw [ML.out]; omega) G1x.out
         obtain ⟨b0, b1, b2, b3⟩ := R1.out.cells (j := m) (by rw [ML.out]; omega) G0x.out
         clear hb1
         go_wp2_with fail
         go_region
         go_wp2_with fail
         go_roundw
         case rel =>
          have hSl := HSl.out
          have P1 := R1.out.put (m + 1) (by rw [ML.out]; omega) y
          have P2 := P1.put m (by rw [List.length_set, ML.out]; omega) x
          rw [midI_swap (by omega) HY.out] at P2
          refine ⟨m, by omega, by go_num, P2, fun z hz => ?_, ?_⟩
          · have hd : S.drop m = y :: S.drop (m + 1) := by
             rw [List.drop_eq_getElem_cons (by omega), ← HY.out, List.getD_eq_getElem?_getD, List.getElem?_eq_getElem (by omega)]
             rfl
            rw [hd] at hz
            rcases List.mem_cons.1 hz with rfl | hz
            · exact HC.out
            · exact LQ.out z hz
          · have hgg := g_set (p := ⟨g, m * 2 + 1, none⟩) (g_set (p := ⟨g, m * 2, none⟩) (g_set (p := ⟨g, (m + 1) * 2 + 1, none⟩) (g_set (p := ⟨g, (m + 1) * 2, none⟩) G1.out (.inl rfl) (.int .u64 y.1)) (.inl rfl) (.int .i64 y.2)) (.inl rfl) (.int .u64 x.1)) (.inl rfl) (.int .i64 x.2)
            exact ⟨hgg.os, hgg.tape, hgg.output, hgg.size, hgg.block⟩
         case measure => simp [intOf]
       · have hcf : ltID x y = false := by simpa using hc
         have hcm : decide (cmpID x y < 0) = false := by simpa using cmpID_ge hcf
         have HC := Lib.hid hcf
         clear hc hcf
         go_wp2_with fail
         refine wp_region_ext (by kernel_rfl) (by kernel_rfl) ?_
         repeat (go_big_quiet_step ((go_at_call 104; exact ext_call (asc_any x y _))))
         refine wpQuiet_nil ?_
         intro w1 hb1
         have R1 : Hid (RowI w1 g (midI S (xs.drop (i + 1)) x (m + 1))) := RQ.out.on hb1
         have G1 : Hid (w.grownBy w1 (some g)) := g_below GQ.out hb1
         clear a0 a1 a2 a3 b0 b1 b2 b3 hcm hb1
         go_wp2_with fail
         go_roundw
         case rel =>
          have hSl := HSl.out
          refine ⟨i + 1, S.take (m + 1) ++ x :: S.drop (m + 1), by omega, by omega, by go_num, ?_, HS.out.ins (by omega) LQ.out (fun m' e => ?_), ?_, ?_, G1.out⟩
          · rw [Hid]; simp [hSl]; omega
          · obtain rfl : m = m' := by omega
            rw [HY.out]
            exact HC.out
          · exact mid_perm HP.out HD.out (m + 1)
          · have := R1.out
            rw [midI_append] at this
            exact this
         case measure => simp [intOf]; omega
  · go_wp2_with fail
    go_end0
    refine ⟨rfl, ⟨S, ?_, HS.out, ?_⟩, HG.out⟩
    · have := HP.out
      rwa [List.take_of_length_le (by omega)] at this
    · have := HR.out
      rwa [List.drop_of_length_le (by omega), List.append_nil] at this
end Go.Proofs.YteabgcollokgjaaGreatDoor
namespace Go.Proofs.YteabgcollokgjaaGreatDoor
open Go.RowKit Go.Shelf Go.Sort

theorem bits_len_any (n : Nat) (w : World) (hn : n ≤ 1000) : Calls Tryz.prog 151 #[.int .u64 (n : Int)] w fun e w' => (∃ k : Int, e = .returned (.int .i64 k)) ∧ w = w' :=
 (Tryz.bits_Len n w (by omega) (by omega)).mono fun _ _ h => ⟨⟨_, h.1⟩, h.2.symm⟩
set_option maxRecDepth 100000 in
set_option maxHeartbeats 4000000 in
theorem pdqI_any (g c : Nat) (xs : List ID) (k : Int) (w : World) (h : RowI w g xs) (hn : xs.length ≤ 12) (hg : g < w.heap.size) :
 Calls Tryz.prog 156 #[.slice (some ⟨g, 0, none⟩) xs.length c, .int .i64 0, .int .i64 xs.length, .int .i64 k, vAsc] w (fun e w' => e = .returned (.tuple #[]) ∧ (∃ ys, ys.Perm xs ∧ SortedI ys ∧ RowI w' g ys) ∧ w.grownBy w' (some g)) := by
 have H := Lib.hid h
 clear h
 go_enter Tryz.func156, Tryz.ntmps156
 go_wp2_with fail
 refine wp_loop_rounds 1 ?_
 rw [rounds_succ]
 go_wp2_with (go_at_call 202; refine (insI_any g c xs w H.out (by omega) hg).mono ?_; rintro e w1 ⟨rfl, hy, hgr⟩; have HY := Lib.hid hy; have HG := Lib.hid hgr; clear hy hgr)
 refine bodyPost_ret (v := .tuple #[]) (results_none rfl _ _ _) rfl ?_
 exact ⟨rfl, HY.out, HG.out⟩
set_option maxRecDepth 100000 in
set_option maxHeartbeats 4000000 in
theorem sortI_any (g c : Nat) (xs : List ID) (w : World) (h : RowI w g xs) (hn : xs.length ≤ 12) (hg : g < w.heap.size) :
 Calls Tryz.prog 103 #[.slice (some ⟨g, 0, none⟩) xs.length c, vAsc] w (fun e w' => e = .returned (.tuple #[]) ∧ (∃ ys, ys.Perm xs ∧ SortedI ys ∧ RowI w' g ys) ∧ w.grownBy w' (some g)) := by
 have H := Lib.hid h
 clear h
 go_enter Tryz.func103, Tryz.ntmps103
 go_wp2_with (first | (go_at_call 151; refine (bits_len_any xs.length _ (by omega)).mono ?_; rintro e w1 ⟨⟨k, rfl⟩, rfl⟩) | (go_at_call 156; refine (pdqI_any g c xs _ w H.out hn hg).mono ?_; rintro e w1 ⟨rfl, hy, hgr⟩; have HY := Lib.hid hy; have HG := Lib.hid hgr; clear hy hgr))
 go_end0
 exact ⟨rfl, HY.out, HG.out⟩
end Go.Proofs.YteabgcollokgjaaGreatDoor
namespace Go.Proofs.YteabgcollokgjaaGreatDoor
open Go.RowKit Go.MapKept Go.ChangeMaps Go.Shelf

set_option maxRecDepth 100000 in
set_option maxHeartbeats 1000000 in
theorem insN_any (w : World) : Calls Tryz.prog 202 #[.slice none 0 0, .int .i64 0, .int .i64 0, vAsc] w (fun e w' => e = .returned (.tuple #[]) ∧ w = w') := by
 go_enter Tryz.func202, Tryz.ntmps202
 go_wp2_with fail
 refine wp_loop_rounds 1 ?_
 rw [rounds_succ]
 go_wp2_with fail
 go_end0
 exact ⟨rfl, rfl⟩
set_option maxRecDepth 100000 in
set_option maxHeartbeats 1000000 in
theorem pdqN_any (k : Int) (w : World) : Calls Tryz.prog 156 #[.slice none 0 0, .int .i64 0, .int .i64 0, .int .i64 k, vAsc] w (fun e w' => e = .returned (.tuple #[]) ∧ w = w') := by
 go_enter Tryz.func156, Tryz.ntmps156
 go_wp2_with fail
 refine wp_loop_rounds 1 ?_
 rw [rounds_succ]
 go_wp2_with (go_at_call 202; refine (insN_any _).mono ?_; rintro e w1 ⟨rfl, rfl⟩)
 refine bodyPost_ret (v := .tuple #[]) (results_none rfl _ _ _) rfl ?_
 exact ⟨rfl, rfl⟩
set_option maxRecDepth 100000 in
set_option maxHeartbeats 1000000 in
theorem sortN_any (w : World) : Calls Tryz.prog 103 #[.slice none 0 0, vAsc] w (fun e w' => e = .returned (.tuple #[]) ∧ w = w') := by
 go_enter Tryz.func103, Tryz.ntmps103
 go_wp2_with (first | (go_at_call 151; refine (bits_len_any 0 _ (by omega)).mono ?_; rintro e w1 ⟨⟨k, rfl⟩, rfl⟩) | (go_at_call 156; refine (pdqN_any _ _).mono ?_; rintro e w1 ⟨rfl, rfl⟩))
 go_end0
 exact ⟨rfl, rfl⟩
end Go.Proofs.YteabgcollokgjaaGreatDoor
namespace Go.Proofs.YteabgcollokgjaaGreatDoor
open Go.RowKit Go.MapKept Go.ChangeMaps Go.Shelf

theorem own_iter {w : World} {base : Nat} {e : TypeId} {size n : Nat} {v : Value} {xs : List Value} (h : w.ownsRow base e size v n xs) {r : Nat} {m : Option Nat} {s : Nat} {seen : Array Nat} {c : Nat} (hr : w.heap[r]? = some (.mapIter m s seen c)) : some r ≠ v.ownBlock := by
 rcases h.2 with ⟨rfl, _⟩ | ⟨g', cap, cur, rfl, _, hh, _⟩
 · simp [Value.ownBlock]
 · intro he
   have : r = g' := by simpa [Value.ownBlock] using he
   subst this
   rw [hr] at hh
   cases hh
theorem RIs.own_ne {α β : Type} {ok : α → Prop} {kv : α → Value} {vv : β → Value} {w : World} {b r : Nat} {L done : List (α × β)} {cnt : Nat} (h : RIs ok kv vv w b r L done cnt) {base : Nat} {e : TypeId} {size n : Nat} {v : Value} {xs : List Value} (ho : w.ownsRow base e size v n xs) : some r ≠ v.ownBlock := by
 obtain ⟨es, clock, since, seen, c0, is, _, _, _, _, hr, _⟩ := h
 exact own_iter ho hr
theorem MapIs.own_ne {α β : Type} {ok : α → Prop} {kv : α → Value} {vv : β → Value} {w : World} {b : Nat} {L : List (α × β)} (h : MapIs ok kv vv w b L) {base : Nat} {e : TypeId} {size n : Nat} {v : Value} {xs : List Value} (ho : w.ownsRow base e size v n xs) : some b ≠ v.ownBlock := by
 obtain ⟨es, clock, h1, _⟩ := h
 rcases ho.2 with ⟨rfl, _⟩ | ⟨g', cap, cur, rfl, _, hh, _⟩
 · simp [Value.ownBlock]
 · intro he
   have : b = g' := by simpa [Value.ownBlock] using he
   subst this
   rw [h1] at hh
   cases hh
theorem nodup_le {l : List Nat} {n : Nat} (hn : l.Nodup) (h : ∀ i ∈ l, i < n) : l.length ≤ n := by
 have h2 : (l ++ (List.range n).filter (fun i => decide (i ∉ l))).Nodup := by
  refine List.nodup_append.2 ⟨hn, List.nodup_range.filter _, fun a ha b hb e => ?_⟩
  subst e
  simp at hb
  exact hb.2 ha
 have hp := (List.perm_ext_iff_of_nodup h2 (List.nodup_range (n := n))).2 (fun a => by
  simp only [List.mem_append, List.mem_filter, List.mem_range, decide_eq_true_eq]
  constructor
  · rintro (h1 | h1)
    · exact h a h1
    · exact h1.1
  · intro h1
    by_cases ha : a ∈ l
    · exact .inl ha
    · exact .inr ⟨h1, ha⟩)
 have := hp.length_eq
 rw [List.length_append, List.length_range] at this
 omega
theorem RIs.len {α β : Type} {ok : α → Prop} {kv : α → Value} {vv : β → Value} {w : World} {b r : Nat} {L done : List (α × β)} {cnt : Nat} (h : RIs ok kv vv w b r L done cnt) : done.length ≤ L.length := by
 obtain ⟨es, clock, since, seen, c0, is, _, _, _, _, _, _, _, _, _, hnd, _, hd⟩ := h
 have h1 : is.length = done.length := by
  have := congrArg List.length hd
  simpa using this
 have h2 : ∀ i ∈ is, i ∈ List.range L.length := by
  intro i hi
  have : L[i]? ∈ is.map (fun i => L[i]?) := List.mem_map.2 ⟨i, hi, rfl⟩
  rw [hd] at this
  obtain ⟨c, _, hc⟩ := List.mem_map.1 this
  exact List.mem_range.2 (List.getElem?_eq_some_iff.1 hc.symm).1
 have := nodup_le hnd (fun i hi => List.mem_range.1 (h2 i hi))
 omega

theorem own_onB {w w' : World} {base : Nat} {e : TypeId} {size n : Nat} {v : Value} {xs : List Value} (h : w.ownsRow base e size v n xs) (hb : Below w.heap.size w w') : w'.ownsRow base e size v n xs :=
 h.kept (row := none) (only_of_below hb none) (by
  cases hv : v.ownBlock with
  | none => exact .inl rfl
  | some k => exact .inr (by simp))
theorem wpList_next_ch (w : World) {ops : Array Oper} {rest : List Oper} {o : Oper} {a : Act} {Q : Exit → Act → World → Prop} (hg : o.guard = none) (it : Operand) (hop : o.op = Op.next it false) (b r : Nat) (L done : Chs) (cnt : Nat)
 (hit : a.eval it = .pointer (some ⟨r, 0, none⟩)) (h : RIs okID vID vPl w b r L done cnt)
 (hDone : done.Perm L → wpList Tryz.prog ops Q rest (a.put o.dst (.tuple #[.bool false])) w)
 (hMore : ∀ (i : ID) (pl : Pl) (w' : World) (cnt' : Nat), (i, pl) ∈ L → RIs okID vID vPl w' b r L (done ++ [(i, pl)]) cnt' → cnt' < cnt → w.grownBy w' (some r) → Hid (w'.heap.size = w.heap.size) →
   (Instr.entry (.pointer (some ⟨r, 0, none⟩))).run Tryz.prog w' = .ok (.tuple #[.agg #[.int .u64 i.1, .int .i64 i.2], .agg #[.slice pl.A pl.len pl.cap, .int .i64 pl.f, .int .i64 pl.o]]) w' → wpList Tryz.prog ops Q rest (a.put o.dst (.tuple #[.bool true, .agg #[.int .u64 i.1, .int .i64 i.2], .agg #[.slice pl.A pl.len pl.cap, .int .i64 pl.f, .int .i64 pl.o]])) w') :
 wpList Tryz.prog ops Q (o :: rest) a w :=
 wpList_next_is w hg it hop b r L done cnt hit h hDone (fun c w' cnt' h1 h2 h3 h4 h5 h6 => hMore c.1 c.2 w' cnt' h1 h2 h3 h4 h5 h6)
theorem own_rowI {w : World} {base g n cap : Nat} {xs : List ID} (h : w.ownsRow base 31 2 (.slice (some ⟨g, 0, none⟩) n cap) n (xs.flatMap encID)) : n = xs.length ∧ RowI w g xs ∧ g < w.heap.size ∧ base ≤ g := by
 have hl := h.1
 rw [flat_len encID_len] at hl
 have hn : n = xs.length := by omega
 have hlt := h.lt g rfl
 refine ⟨hn, ?_, hlt.2, hlt.1⟩
 rcases h.2 with ⟨hv, _⟩ | ⟨g', cap', cur, hv, _, hh, hc1, hcs, hcs2, htk⟩
 · cases hv
 · injection hv with h1 h2 h3
   injection h1 with h1
   injection h1 with h1
   subst h1
   refine ⟨cur, hh, ?_, fun j hj => ?_⟩
   · show xs.length * 2 ≤ cur.size
     have := congrArg List.length htk
     rw [List.length_take, flat_len encID_len] at this
     simp at this
     omega
   · have e0 := flat_at encID_len id0 xs j 0 hj (by omega)
     have e1 := flat_at encID_len id0 xs j 1 hj (by omega)
     rw [← htk, List.getElem?_take_of_lt (by omega)] at e0 e1
     exact ⟨by simpa [encID] using e0, by simpa [encID] using e1⟩
/-- A slice of IDs in new memory. -/
def RI (w : World) (H : Nat) (A : Option Addr) (ys : List ID) : Prop := (A = none → ys = []) ∧ ∀ ad, A = some ad → ∃ g, ad = ⟨g, 0, none⟩ ∧ RowI w g ys ∧ H ≤ g ∧ g < w.heap.size
def IdsPost (q : Pl → Bool) (C : Chs) (w : World) (e : Ending) (w' : World) : Prop :=
 ∃ A c ys, e = .returned (.slice A ys.length c) ∧ ys.Perm ((C.filter (fun c => q c.2)).map (·.1)) ∧ SortedI ys ∧ RI w' w.heap.size A ys ∧ Below w.heap.size w w'
/-- .. and its capacity. -/
def IdsPostC (q : Pl → Bool) (C : Chs) (w : World) (e : Ending) (w' : World) : Prop :=
 ∃ A c ys, e = .returned (.slice A ys.length c) ∧ ys.Perm ((C.filter (fun c => q c.2)).map (·.1)) ∧ SortedI ys ∧ RI w' w.heap.size A ys ∧ Below w.heap.size w w' ∧ ys.length ≤ c
theorem IdsPostC.less {q : Pl → Bool} {C : Chs} {w : World} {e : Ending} {w' : World} (h : IdsPostC q C w e w') : IdsPost q C w e w' := by
 obtain ⟨A, c, ys, h1, h2, h3, h4, h5, _⟩ := h
 exact ⟨A, c, ys, h1, h2, h3, h4, h5⟩
theorem filter_snoc (q : Pl → Bool) (D : Chs) (c : ID × Pl) : ((D ++ [c]).filter (fun c => q c.2)).map (·.1) = (D.filter (fun c => q c.2)).map (·.1) ++ if q c.2 then [c.1] else [] := by
 rw [List.filter_append, List.map_append]
 congr 1
 by_cases h : q c.2 <;> simp [h]
theorem two_new (W : World) (x y : Value) (t : TypeId) (H : Nat) (hH : W.heap.size = H) : ∀ j u, [x, y][j]? = some u → (W.alloc (.cells #[x, y] t)).cell? ((⟨H, 0, none⟩ : Addr).add j) = some u := by
 intro j u hu
 rw [lit_add, Nat.zero_add, new_cell W t #[x, y] H hH j]
 simpa using hu
set_option maxRecDepth 100000 in
set_option maxHeartbeats 4000000 in
theorem ids_anyC (F : Nat) (q : Pl → Bool) (ps cm : Nat) (C : Chs) (w : World) (hc : w.cell? ⟨ps, 2, none⟩ = some (.map (some cm))) (hm : MapIs okID vID vPl w cm C) (hn : ((C.filter (fun c => q c.2)).map (·.1)).length ≤ 12) (hC : C.length ≤ 1000000)
 (hF : ∀ args W, (callFunc F args).run Tryz.prog W = .ok (.enter F args) W)
 (hq : ∀ pl W, Calls Tryz.prog F #[.agg #[.slice pl.A pl.len pl.cap, .int .i64 pl.f, .int .i64 pl.o]] W (fun e w' => e = .returned (.bool (q pl)) ∧ Below W.heap.size W w')) :
 Calls Tryz.prog 90 #[vPtr ps, .func (.func F) #[] #[]] w (IdsPostC q C w) := by
 obtain ⟨i0, hi, hz0, hz1, hz2⟩ := info_parts info31
 have Hm := Lib.hid hm
 have HN := Lib.hid hn
 have HQ := Lib.hid hq
 have hbw := hm.lt
 clear hm hq hn
 go_enter Tryz.func90, Tryz.ntmps90
 go_wp2_with (at_range; refine wpList_range_is _ rfl _ 128 rfl 31 138 Tryz.underlying128 cm C rfl Hm.out ?_; intro w0 hrg0 hg0 hs0)
 have Hrg0 := Lib.hid hrg0
 have Hb0 : Hid (Below w.heap.size w w0) := (Below.refl w.heap.size w).grown hg0 (Nat.le_refl _) (by simp)
 clear hrg0 hg0 hs0
 go_frame
 go_loopw [5] (fun v5 wr => ∃ (done : Chs) (n : Nat) (A : Option Addr) (cap cnt : Nat), v5 = .slice A n cap ∧ RIs okID vID vPl wr cm w.heap.size C done cnt ∧ wr.ownsRow w.heap.size 31 2 (.slice A n cap) n (((done.filter (fun c => q c.2)).map (·.1)).flatMap encID) ∧ Below w.heap.size w wr) (fun _ wr => wr.rangeLeft cm w.heap.size)
 case atStart => exact ⟨[], 0, none, 0, _, rfl, Hrg0.out, World.ownsRow_nil _ _ _ _, Hb0.out⟩
 case round =>
  obtain ⟨done, n, A, cap, cnt, rfl, hrg, hown, hb⟩ := hrel
  have hsz := hb.size
  have Hleft := Lib.hid hrg.left_eq
  have Hrg := Lib.hid hrg
  have Hown := Lib.hid hown
  have Hb := Lib.hid hb
  clear hrg hown hb
  go_wp2_with (first
   | (at_next; refine wpList_next_ch _ rfl _ rfl cm w.heap.size C done cnt rfl Hrg.out (fun hp => ?_) (fun i pl w1 cnt1 hc1 hrg1 hlt1 hg1 hs1 hen => ?_))
   | (at_builtin; refine halt_ ?_)
   | (go_at_call 103; refine halt_ ?_))
  · have hlen : n = ((done.filter (fun c => q c.2)).map (·.1)).length := by
     have := Hown.out.1
     rw [flat_len encID_len] at this
     omega
    have hpm : ((done.filter (fun c => q c.2)).map (·.1)).Perm ((C.filter (fun c => q c.2)).map (·.1)) := (hp.filter _).map _
    have hl12 : ((done.filter (fun c => q c.2)).map (·.1)).length ≤ 12 := by rw [hpm.length_eq]; exact HN.out
    obtain ⟨zs, HZ⟩ : ∃ zs, Hid ((done.filter (fun c => q c.2)).map (·.1) = zs) := ⟨_, rfl⟩
    rw [HZ.out] at hlen hpm hl12 Hown
    have Hpm := Lib.hid hpm
    clear hp hpm
    subst hlen
    cases A with
    | none =>
     have hz0 : zs = [] := by
      rcases Hown.out.2 with ⟨hv, hx⟩ | ⟨g, cap', cur, hv, _⟩
      · injection hv with _ h2 _
        exact List.eq_nil_of_length_eq_zero h2
      · cases hv
     subst hz0
     have hcap : cap = 0 := by
      rcases Hown.out.2 with ⟨hv, hx⟩ | ⟨g, cap', cur, hv, _⟩
      · injection hv
      · cases hv
     subst hcap
     refine (sortN_any wr).mono ?_
     rintro e w2 ⟨rfl, rfl⟩
     go_wp2_with fail
     go_ret
     exact ⟨none, 0, [], rfl, Hpm.out, List.Pairwise.nil, ⟨fun _ => rfl, (fun ad e => by cases e)⟩, Hb.out, Nat.le_refl _⟩
    | some ad =>
     obtain ⟨g, rfl⟩ : ∃ g, ad = ⟨g, 0, none⟩ := by
      rcases Hown.out.2 with ⟨hv, _⟩ | ⟨g, cap', cur, hv, _⟩
      · cases hv
      · injection hv with h1 _ _
        injection h1 with h1
        exact ⟨g, h1⟩
     obtain ⟨_, hrow, hg2, hbg⟩ := own_rowI Hown.out
     have hlc : zs.length ≤ cap := by
      rcases Hown.out.2 with ⟨hv, _⟩ | ⟨g', cap', cur, hv, _, _, hc1, _⟩
      · cases hv
      · injection hv with _ _ h3
        omega
     refine (sortI_any g cap zs wr hrow hl12 hg2).mono ?_
     rintro e w2 ⟨rfl, ⟨ys, hy1, hy2, hy3⟩, hgr⟩
     have Y1 := Lib.hid hy1
     have Y2 := Lib.hid hy2
     have Y3 := Lib.hid hy3
     have HG := Lib.hid hgr
     have hlz : zs.length = ys.length := hy1.length_eq.symm
     clear hy1 hy2 hy3 hgr hrow
     rw [hlz] at hlc ⊢
     go_wp2_with fail
     go_ret
     refine ⟨some ⟨g, 0, none⟩, cap, ys, rfl, Y1.out.trans Hpm.out, Y2.out, ⟨(fun e => by cases e), fun ad e => ?_⟩, Hb.out.grown HG.out Hb.out.size (fun k hk => by injection hk with hk; omega), hlc⟩
     injection e with e
     subst e
     exact ⟨g, rfl, Y3.out, hbg, Nat.lt_of_lt_of_le hg2 HG.out.size⟩
  · have Hc1 := Lib.hid hc1
    have K1 : Hid (w1.ownsRow w.heap.size 31 2 (.slice A n cap) n (((done.filter (fun c => q c.2)).map (·.1)).flatMap encID)) := Hown.out.kept hg1 (.inr (fun e => Hrg.out.own_ne Hown.out e.symm))
    have Hb1 : Hid (Below w.heap.size w w1) := Hb.out.grown hg1 hsz (fun k hk => by injection hk with hk; omega)
    have hsz1 := Hb1.out.size
    have HF := Lib.hid (filter_snoc q done (i, pl))
    have Hrg1 := Lib.hid hrg1
    have Hlt1 := Lib.hid hlt1
    have hdl : n ≤ 1000000 := by
     have h1 := hrg1.len
     have h2 := K1.out.1
     rw [flat_len encID_len, List.length_map] at h2
     have h3 := List.length_filter_le (fun c : ID × Pl => q c.2) done
     simp at h1
     omega
    clear hc1 hrg1 hlt1 hg1 hen
    have IB : Hid (IsB ((w1.alloc (.cells #[.int .u64 i.1, .int .i64 i.2] 31)).alloc (.cells #[.slice pl.A pl.len pl.cap, .int .i64 pl.f, .int .i64 pl.o] 138)) w1.heap.size 31 #[.int .u64 i.1, .int .i64 i.2]) := (IsB.new _ _ _).alloc _
    refine (HQ.out pl _).mono ?_
    rintro e w2 ⟨rfl, hb2⟩
    have K2 : Hid (w2.ownsRow w.heap.size 31 2 (.slice A n cap) n (((done.filter (fun c => q c.2)).map (·.1)).flatMap encID)) := own_onB ((K1.out.alloc _).alloc _) hb2
    have Hb2 : Hid (Below w.heap.size w w2) := ((Hb1.out.alloc hsz1 _).alloc (by simp; omega) _).trans (hb2.mono (by simp; omega))
    have Hrg2 : Hid (RIs okID vID vPl w2 cm w.heap.size C (done ++ [(i, pl)]) cnt1) := ((Hrg1.out.alloc _).alloc _).on hb2
    have IB2 := Lib.hid (IB.out.on hb2)
    have k0 : w2.cell? ⟨w1.heap.size, 0, none⟩ = some (.int .u64 i.1) := IB2.out.cell 0
    have k1 : w2.cell? ⟨w1.heap.size, 1, none⟩ = some (.int .i64 i.2) := IB2.out.cell 1
    have hs2 := Hb2.out.size
    clear hb2
    cases hq : q pl with
    | false =>
     have HQf := Lib.hid hq
     clear hq
     go_wp2_with fail
     go_roundw
     case rel =>
      refine ⟨done ++ [(i, pl)], n, A, cap, cnt1, rfl, Hrg2.out, ?_, Hb2.out⟩
      rw [HF.out]
      simp only [HQf.out]
      simpa using K2.out
     case measure =>
      rw [Hrg2.out.left_eq, Hleft.out]
      exact Hlt1.out
    | true =>
     have HQt := Lib.hid hq
     clear hq
     go_wp2_with (at_builtin; refine halt_ ?_)
     refine wpList_append_lies _ rfl _ _ _ rfl w.heap.size 31 i0 _ 2 16 Tryz.underlying38 hi hz0 hz1 hz2 rfl (by decide) _ n _ rfl (K2.out.alloc _) ⟨w2.heap.size, 0, none⟩ 1 1 [.int .u64 i.1, .int .i64 i.2] rfl rfl (two_new _ _ _ _ _ rfl) (encID_one i) (by omega) (by unfold maxLen; omega) (by omega) (by simp; omega) (w2.heap.size + 1) (by simp) ?_
     intro g2 cap2 w4 hown4 hgrow hat hltg
     have Hown4 := Lib.hid hown4
     have Hrg4 : Hid (RIs okID vID vPl w4 cm w.heap.size C (done ++ [(i, pl)]) cnt1) := (Hrg2.out.alloc _).kept hgrow (Hrg2.out.map.own_ne K2.out) (Hrg2.out.own_ne K2.out)
     have Hb4 : Hid (Below w.heap.size w w4) := (Hb2.out.alloc hs2 _).grown hgrow (by simp; omega) (fun k hk => (K2.out.lt k hk).1)
     clear hown4 hgrow hat k0 k1
     go_wp2_with fail
     go_roundw
     case rel =>
      refine ⟨done ++ [(i, pl)], n + 1, some ⟨g2, 0, none⟩, cap2, cnt1, rfl, Hrg4.out, ?_, Hb4.out⟩
      rw [HF.out]
      simp only [HQt.out, if_true]
      rw [List.flatMap_append]
      exact Hown4.out
     case measure =>
      rw [Hrg4.out.left_eq, Hleft.out]
      exact Hlt1.out
theorem ids_any (F : Nat) (q : Pl → Bool) (ps cm : Nat) (C : Chs) (w : World) (hc : w.cell? ⟨ps, 2, none⟩ = some (.map (some cm))) (hm : MapIs okID vID vPl w cm C) (hn : ((C.filter (fun c => q c.2)).map (·.1)).length ≤ 12) (hC : C.length ≤ 1000000)
 (hF : ∀ args W, (callFunc F args).run Tryz.prog W = .ok (.enter F args) W)
 (hq : ∀ pl W, Calls Tryz.prog F #[.agg #[.slice pl.A pl.len pl.cap, .int .i64 pl.f, .int .i64 pl.o]] W (fun e w' => e = .returned (.bool (q pl)) ∧ Below W.heap.size W w')) :
 Calls Tryz.prog 90 #[vPtr ps, .func (.func F) #[] #[]] w (IdsPost q C w) := (ids_anyC F q ps cm C w hc hm hn hC hF hq).mono fun _ _ h => h.less
end Go.Proofs.YteabgcollokgjaaGreatDoor
namespace Go.Proofs.YteabgcollokgjaaGreatDoor
open Go.RowKit

theorem halt_q {p : Prop} (h : Hid p) : p := h
theorem rint_u {p q : Nat} {w W : World} (h : p = q) (hw : w = W) : Ending.returned (.int .u64 ((q : Nat) : Int)) = .returned (.int .u64 ((p : Nat) : Int)) ∧ w = W := ⟨by rw [h], hw⟩
set_option maxRecDepth 100000 in
set_option maxHeartbeats 1000000 in
theorem fadd_any (a b : Nat) (w : World) (ha : a < 2305843009213693951) (hb : b < 2305843009213693951) : Calls Tryz.prog 141 #[.int .u64 (a : Int), .int .u64 (b : Int)] w fun e w' => e = .returned (.int .u64 (((a + b) % pP : Nat) : Int)) ∧ w = w' := by
 by_cases h : a + b < 2305843009213693951
 · have e1 : Hid ((a + b) % pP = a + b) := Nat.mod_eq_of_lt h
   have h' : ¬ (2305843009213693951 ≤ (a : Int) + b) := by omega
   go_enter Tryz.func141, Tryz.ntmps141
   go_wp2
   go_ret
   exact rint_u (q := a + b) e1.out rfl
 · have e1 : Hid ((a + b) % pP = a + b - 2305843009213693951) := by
    rw [Hid, Nat.mod_eq_sub_mod (by unfold pP; omega)]
    exact Nat.mod_eq_of_lt (by unfold pP; omega)
   have h' : 2305843009213693951 ≤ (a : Int) + b := by omega
   go_enter Tryz.func141, Tryz.ntmps141
   go_wp2
   go_ret
   have e2 : ((a + b - 2305843009213693951 : Nat) : Int) = (a : Int) + b - 2305843009213693951 := by omega
   rw [e1.out, e2]
   exact ⟨rfl, rfl⟩
theorem mask61 (a : Nat) (ha : a < 18446744073709551616) : bits .and .u64 (a : Int) 2305843009213693951 = ((a % 2305843009213693952 : Nat) : Int) := by
 have h := bits_and_u64_nat a 2305843009213693951 ha (by omega)
 have e : a &&& 2305843009213693951 = a % 2305843009213693952 := Nat.and_two_pow_sub_one_eq_mod a 61
 rw [e] at h
 exact h
theorem or3 (x y : Nat) (hy : y < 8) : x * 8 ||| y = x * 8 + y := by
 have := Nat.two_pow_add_eq_or_of_lt (i := 3) (b := y) (by omega) x
 rw [show 2 ^ 3 * x = x * 8 by omega] at this
 exact this.symm
theorem prod_lt {a b : Nat} (ha : a < 2305843009213693951) (hb : b < 2305843009213693951) : a * b < pP * pP := Nat.mul_lt_mul'' (by unfold pP; exact ha) (by unfold pP; exact hb)
theorem mul_lo (m : Nat) : (bits .and .u64 ((m : Int) % 18446744073709551616) 2305843009213693951).tmod 2305843009213693951 = ((m % 18446744073709551616 % 2305843009213693952 % pP : Nat) : Int) := by
 have e : (m : Int) % 18446744073709551616 = ((m % 18446744073709551616 : Nat) : Int) := by omega
 rw [e, mask61 _ (Nat.mod_lt _ (by omega)), Int.tmod_eq_emod_of_nonneg (by omega)]
 unfold pP
 omega
theorem mul_hi (m : Nat) (hm : m < pP * pP) : bits .or .u64 (IntKind.u64.wrap ((m : Int) / 18446744073709551616 * 8)) ((m : Int) % 18446744073709551616 / 2305843009213693952) = ((m / 18446744073709551616 * 8 + m % 18446744073709551616 / 2305843009213693952 : Nat) : Int) := by
 have hh := mul_high m hm
 have e1 : IntKind.u64.wrap ((m : Int) / 18446744073709551616 * 8) = ((m / 18446744073709551616 * 8 : Nat) : Int) := by
  rw [IntKind.wrap_u64]
  omega
 have e2 : (m : Int) % 18446744073709551616 / 2305843009213693952 = ((m % 18446744073709551616 / 2305843009213693952 : Nat) : Int) := by omega
 rw [e1, e2, bits_or_u64_nat _ _ (by omega) (by omega), or3 _ _ (by omega)]
theorem mul_sum (m : Nat) (hm : m < pP * pP) : (m % 18446744073709551616 % 2305843009213693952 % pP + (m / 18446744073709551616 * 8 + m % 18446744073709551616 / 2305843009213693952) % pP) % pP = m % pP := by
 rw [← Nat.add_mod, mul_words m hm]
set_option maxRecDepth 100000 in
set_option maxHeartbeats 1000000 in
theorem fmul_any (a b : Nat) (w : World) (ha : a < 2305843009213693951) (hb : b < 2305843009213693951) : Calls Tryz.prog 142 #[.int .u64 (a : Int), .int .u64 (b : Int)] w fun e w' => e = .returned (.int .u64 (((a * b) % pP : Nat) : Int)) ∧ w = w' := by
 have HP := Lib.hid (prod_lt ha hb)
 go_enter Tryz.func142, Tryz.ntmps142
 go_wp2_with (first | (go_at_call 185; refine (Tryz.bits_Mul64 a b (by omega) (by omega) _).mono ?_; rintro e w' ⟨rfl, hw⟩; rw [hw]) | (go_at_call 141; refine halt_q ?_))
 have e1 := mul_lo (a * b)
 have e2 := mul_hi (a * b) HP.out
 rw [Int.natCast_mul] at e1 e2
 have e3 : (((a * b / 18446744073709551616 * 8 + a * b % 18446744073709551616 / 2305843009213693952 : Nat) : Int)).tmod 2305843009213693951 = (((a * b / 18446744073709551616 * 8 + a * b % 18446744073709551616 / 2305843009213693952) % pP : Nat) : Int) := by
  rw [Int.tmod_eq_emod_of_nonneg (by omega)]
  unfold pP
  omega
 rw [e2, e1, e3]
 refine (fadd_any (a * b % 18446744073709551616 % 2305843009213693952 % pP) ((a * b / 18446744073709551616 * 8 + a * b % 18446744073709551616 / 2305843009213693952) % pP) w (Nat.mod_lt _ pP_pos) (Nat.mod_lt _ pP_pos)).mono ?_
 rintro e w' ⟨rfl, rfl⟩
 rw [mul_sum _ HP.out]
 clear e1 e2 e3
 go_wp2_with fail
 go_ret
 exact ⟨rfl, rfl⟩
theorem fp_byte (bs : List UInt8) (x : UInt8) : (fpSum bs * 747382712868975713 % pP + (x.toNat + 1)) % pP = fpSum (bs ++ [x]) := by
 rw [fpSum_snoc, fpStep, Nat.add_mod, Nat.mod_mod, ← Nat.add_mod]
 rfl
/-- A slice at whatever place that reads as bs. -/
def RS (w : World) (A : Option Addr) (bs : List UInt8) : Prop := (A = none → bs.length = 0) ∧ ∀ ad, A = some ad → ∃ g o, ad = ⟨g, o, none⟩ ∧ ∀ j, j < bs.length → w.cell? ⟨g, o + j, none⟩ = some (encU (bs.getD j 0))
theorem RS.sb {w : World} {A : Option Addr} {bs : List UInt8} (h : RS w A bs) : SB w A bs := by
 refine ⟨h.1, fun ad e j u hu => ?_⟩
 obtain ⟨g, o, rfl, hc⟩ := h.2 ad e
 obtain ⟨hj, hu'⟩ := List.getElem?_eq_some_iff.1 hu
 have hj' : j < bs.length := by simpa using hj
 rw [lit_add, hc j hj', ← hu', List.getElem_map, List.getD_eq_getElem?_getD, List.getElem?_eq_getElem hj']
 rfl
theorem RB.rs {w : World} {d : BD} {bs : List UInt8} (h : RB w d bs) : RS w d.A bs := by
 obtain ⟨h1, h2, h3, h4⟩ := h
 refine ⟨fun e => by have := h3 e; omega, fun ad e => ?_⟩
 obtain ⟨g, cur, rfl, hg, _, hc⟩ := h4 ad e
 refine ⟨g, 0, rfl, fun j hj => ?_⟩
 rw [hg.cell, Nat.zero_add]
 refine hc j _ ?_
 rw [List.getElem?_map, List.getD_eq_getElem?_getD, List.getElem?_eq_getElem hj]
 rfl
theorem RS.lt {w : World} {A : Option Addr} {bs : List UInt8} (h : RS w A bs) {g o : Nat} (e : A = some ⟨g, o, none⟩) (hp : 0 < bs.length) : g < w.heap.size := h.sb.lt _ e hp
theorem RS.on {w w' : World} {A : Option Addr} {bs : List UInt8} (h : RS w A bs) (hb : Below w.heap.size w w') : RS w' A bs := by
 refine ⟨h.1, fun ad e => ?_⟩
 obtain ⟨g, o, rfl, hc⟩ := h.2 ad e
 exact ⟨g, o, rfl, fun j hj => by rw [hb.cell (p := ⟨g, o + j, none⟩) (h.lt e (by omega))]; exact hc j hj⟩
theorem RS.sub {w : World} {g o : Nat} {bs : List UInt8} (h : RS w (some ⟨g, o, none⟩) bs) (k n : Nat) (hk : k + n ≤ bs.length) : RS w (some ⟨g, o + k, none⟩) ((bs.drop k).take n) := by
 obtain ⟨g', o', e, hc⟩ := h.2 _ rfl
 injection e with e1 e2 _
 subst e1 e2
 refine ⟨(fun e => by cases e), fun ad e => ?_⟩
 injection e with e
 subst e
 refine ⟨g, o + k, rfl, fun j hj => ?_⟩
 simp only [List.length_take, List.length_drop] at hj
 have := hc (k + j) (by omega)
 rw [Nat.add_assoc, this]
 congr 2
 rw [List.getD_eq_getElem?_getD, List.getD_eq_getElem?_getD, List.getElem?_take_of_lt (by omega), List.getElem?_drop]
theorem take_snocU (bs : List UInt8) (k : Nat) (h : k < bs.length) : bs.take (k + 1) = bs.take k ++ [bs.getD k 0] := by
 rw [List.take_succ_eq_append_getElem h, List.getD_eq_getElem?_getD, List.getElem?_eq_getElem h]
 rfl
set_option maxRecDepth 100000 in
set_option maxHeartbeats 1000000 in
theorem Sum_any (A : Option Addr) (c : Nat) (bs : List UInt8) (w : World) (h : RS w A bs) (hn : bs.length ≤ 1099511627776) : Calls Tryz.prog 92 #[.slice A bs.length c] w fun e w' => e = .returned (.int .u64 ((fpSum bs : Nat) : Int)) ∧ w = w' := by
 have H := Lib.hid h
 clear h
 go_enter Tryz.func92, Tryz.ntmps92
 go_wp2_with fail
 go_loop [3, 8] (fun v i => ∃ k : Nat, k ≤ bs.length ∧ i = .int .i64 k ∧ v = .int .u64 ((fpSum (bs.take k) : Nat) : Int)) (fun _ i => bs.length - (intOf i).toNat)
 case atStart => exact ⟨0, Nat.zero_le _, rfl, by rw [List.take_zero, fpSum_nil]; rfl⟩
 case round =>
  obtain ⟨k, hk, rfl, rfl⟩ := hrel
  by_cases hlt : k < bs.length
  · cases A with
    | none => exact absurd (H.out.1 rfl) (by omega)
    | some ad =>
     obtain ⟨g, o, rfl, hc⟩ := H.out.2 ad rfl
     have hcl : w.cell? ⟨g, o + k, none⟩ = some (.int .u8 (((bs.getD k 0).toNat : Nat) : Int)) := hc k hlt
     have HT : Hid ((fpSum (bs.take k) * 747382712868975713 % pP + ((bs.getD k 0).toNat + 1)) % pP = fpSum (bs.take (k + 1))) := by rw [Hid, take_snocU bs k hlt, ← fp_byte]
     have hf := fpSum_lt (bs.take k)
     have HF : Hid (fpSum (bs.take k) < pP) := hf
     clear hc hf
     generalize hx : bs.getD k 0 = x at *
     have hx2 := x.toNat_lt
     have HX := Lib.hid hx
     clear hx
     generalize fpSum (bs.take k) = sm at *
     generalize hs' : fpSum (bs.take (k + 1)) = sm' at *
     have HS := Lib.hid hs'
     clear hs'
     have hm := fun w => fmul_any sm 747382712868975713 w HF.out (by omega)
     have hmt : sm * 747382712868975713 % pP < pP := Nat.mod_lt _ pP_pos
     generalize sm * 747382712868975713 % pP = t at *
     have ha := fun w => fadd_any t (x.toNat + 1) w hmt (by omega)
     rw [HT.out] at ha
     simp only [Int.natCast_add, Int.natCast_one] at ha
     have HM := Lib.hid hm
     have HA := Lib.hid ha
     clear hm ha hmt
     go_wp2_with (first | (go_at_call 142; refine (HM.out _).mono ?_; rintro e w' ⟨rfl, rfl⟩) | (go_at_call 141; refine (HA.out _).mono ?_; rintro e w' ⟨rfl, rfl⟩))
     go_round
     case rel => exact ⟨k + 1, by omega, by go_num, by rw [HS.out]⟩
     case measure => simp [intOf]; omega
  · obtain rfl : k = bs.length := by omega
    rw [List.take_length]
    go_wp2_with fail
    go_ret
    exact ⟨rfl, rfl⟩
set_option maxRecDepth 100000 in
set_option maxHeartbeats 1000000 in
theorem Of_any (A : Option Addr) (c : Nat) (bs : List UInt8) (w : World) (h : RS w A bs) (hn : bs.length ≤ 1099511627776) : Calls Tryz.prog 31 #[.slice A bs.length c] w fun e w' => e = .returned (.agg #[.int .u64 (fpOf bs).1, .int .i64 (fpOf bs).2]) ∧ Below w.heap.size w w' := by
 have H := Lib.hid (fun W (hW : RS W A bs) => Sum_any A c bs W hW hn)
 have H1 := Lib.hid (h.on ((Below.refl _ w).alloc (Nat.le_refl _) (.cells #[.int .u64 0, .int .i64 0] 31)))
 clear h
 simp only [fpOf]
 generalize fpSum bs = sm at *
 go_enter Tryz.func31, Tryz.ntmps31
 go_wp2_with (go_at_call 92; refine (H.out _ H1.out).mono ?_; rintro e w' ⟨rfl, rfl⟩)
 refine bodyPost_ret (v := .agg #[.int .u64 ((sm : Nat) : Int), .int .i64 ((bs.length : Nat) : Int)]) ?_ rfl ⟨rfl, ?_⟩
 · simp [results, Tryz.results31, go_sem]
 · exact (Below.refl _ _).alloc (Nat.le_refl _) _
end Go.Proofs.YteabgcollokgjaaGreatDoor
