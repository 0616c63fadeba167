/- ME R4 RQ CC in one text. -/
import Derived.Test.YteabgcollokgjaaGreatDoorQ28
import Derived.Test.YteabgcollokgjaaGreatDoorQ26
import Derived.Test.YteabgcollokgjaaGreatDoorQ27
import Derived.Test.YteabgcollokgjaaGreatDoorQ25
import Derived.BigRegion
set_option linter.unusedSimpArgs false
set_option linter.unusedVariables false
namespace Go.Proofs.YteabgcollokgjaaGreatDoor
open Go.RowKit
attribute [local go_sem] wext_cell
theorem gb {p q : Bool} {w W : World} (h : p = q) (hb : Below w.heap.size w W) : Gives (.bool p) w (.returned (.bool q)) W := ⟨by rw [h], hb⟩
theorem eq_of_take {α : Type} {a b : List α} (hl : a.length = b.length) (h : a.take a.length = b.take a.length) : a = b := by
  rw [List.take_length, hl, List.take_length] at h
  exact h
theorem ne_of_getD {α : Type} {a b : List α} (d : α) (k : Nat) (h : a.getD k d ≠ b.getD k d) : a ≠ b := fun e => h (by rw [e])
theorem take_both {α : Type} {a b : List α} {d : α} {k : Nat} (ha : k < a.length) (hb : k < b.length) (h : a.take k = b.take k) (he : a.getD k d = b.getD k d) : a.take (k + 1) = b.take (k + 1) := by
  rw [take_snoc _ d _ ha, take_snoc _ d _ hb, h, he]
set_option maxHeartbeats 2000000 in
theorem SameIDs_any (x y : Nat) (a b : List ID) (A B : Option Addr) (c d : Nat) (w : World) (ha : RdID w x A a) (hb : RdID w y B b) (hla : a.length ≤ 9223372036854775807) (hlb : b.length ≤ 9223372036854775807) :
    Calls Tryz.prog 64 #[.slice A a.length c, .slice B b.length d] w (Gives (.bool (decide (a = b))) w) := by
  have Ha := Lib.hid ha
  have Hb := Lib.hid hb
  clear ha hb
  by_cases hlen : a.length = b.length
  · have hbe : (a.length != b.length) = false := by simp [hlen]
    have hbi : (((a.length : Nat) : Int) != ((b.length : Nat) : Int)) = false := by simp [hlen]
    have Hlen := Lib.hid hlen
    clear hlen
    go_enter Tryz.func64, Tryz.ntmps64
    go_wp2_with fail
    go_loopw [5] (fun v wr => ∃ k : Nat, k ≤ a.length ∧ v = .int .i64 k ∧ Hid (a.take k = b.take k) ∧ Below w.heap.size w wr) (fun v _ => a.length - (intOf v).toNat)
    case atStart => exact ⟨0, Nat.zero_le _, rfl, rfl, Below.refl _ _⟩
    case round =>
      obtain ⟨k, hk, rfl, Hk, hbw⟩ := hrel
      have Hbw := Lib.hid hbw
      clear hbw
      by_cases hlt : k < a.length
      · have hlt' : k < b.length := by have := Hlen.out; omega
        obtain ⟨b1, o1, rfl, hb1, _, hc1⟩ := Ha.out (by omega)
        obtain ⟨b2, o2, rfl, hb2, _, hc2⟩ := Hb.out (by omega)
        obtain ⟨s0, s1, HI⟩ : ∃ s0 s1, Hid (a.getD k (0, 0) = (s0, s1)) := ⟨_, _, rfl⟩
        obtain ⟨r0, r1, HJ⟩ : ∃ r0 r1, Hid (b.getD k (0, 0) = (r0, r1)) := ⟨_, _, rfl⟩
        have p0 : wr.cell? ⟨b1, o1 + k * 2, none⟩ = some (.int .u64 s0) := B_cell Hbw.out hb1 (hc1 k hlt 0 _ (by rw [HI.out]; rfl))
        have q0 : wr.cell? ⟨b2, o2 + k * 2, none⟩ = some (.int .u64 r0) := B_cell Hbw.out hb2 (hc2 k hlt' 0 _ (by rw [HJ.out]; rfl))
        have p1 : wr.cell? ⟨b1, o1 + k * 2 + 1, none⟩ = some (.int .i64 s1) := B_cell Hbw.out hb1 (hc1 k hlt 1 _ (by rw [HI.out]; rfl))
        have q1 : wr.cell? ⟨b2, o2 + k * 2 + 1, none⟩ = some (.int .i64 r1) := B_cell Hbw.out hb2 (hc2 k hlt' 1 _ (by rw [HJ.out]; rfl))
        clear hc1 hc2
        by_cases e0 : s0 = r0
        · obtain rfl := e0
          by_cases e1 : s1 = r1
          · obtain rfl := e1
            go_wp2_with fail
            go_quiet (fail)
            go_wp2_with fail
            go_roundw
            case rel => exact ⟨k + 1, by omega, by go_num, take_both (d := (0, 0)) hlt hlt' Hk.out (by rw [HI.out, HJ.out]), bdrewN Hbw.out _⟩
            case measure => simp [intOf]; omega
          · have hne : (s1 == r1) = false := by rw [beq_eq_false_iff_ne]; exact e1
            have HF : Hid (decide (a = b) = false) := by
              unfold Hid
              rw [decide_eq_false_iff_not]
              exact ne_of_getD (0, 0) k (fun h => e1 (by rw [HI.out, HJ.out] at h; simp at h; omega))
            clear e1
            go_wp2_with fail
            go_quiet (fail)
            go_wp2_with fail
            go_ret
            exact gb HF.out (bdrewN Hbw.out _)
        · have hne : (s0 == r0) = false := by rw [beq_eq_false_iff_ne]; exact e0
          have HF : Hid (decide (a = b) = false) := by
            unfold Hid
            rw [decide_eq_false_iff_not]
            exact ne_of_getD (0, 0) k (fun h => e0 (by rw [HI.out, HJ.out] at h; simp at h; omega))
          clear e0
          go_wp2_with fail
          go_quiet (fail)
          go_wp2_with fail
          go_ret
          exact gb HF.out (bdrewN Hbw.out _)
      · obtain rfl : k = a.length := by omega
        have HT : Hid (decide (a = b) = true) := by
          unfold Hid
          rw [decide_eq_true_eq]
          exact eq_of_take Hlen.out Hk.out
        go_wp2_with fail
        go_ret
        exact gb HT.out Hbw.out
  · have hbe : (a.length != b.length) = true := by rw [bne_iff_ne]; exact hlen
    have hbi : (((a.length : Nat) : Int) != ((b.length : Nat) : Int)) = true := by rw [bne_iff_ne]; omega
    have HF : Hid (decide (a = b) = false) := by
      unfold Hid
      rw [decide_eq_false_iff_not]
      intro e
      exact hlen (by rw [e])
    clear hlen
    go_enter Tryz.func64, Tryz.ntmps64
    go_wp2_with fail
    go_ret
    exact gb HF.out (Below.refl _ _)
set_option maxHeartbeats 2000000 in
theorem rHas_any (x : Nat) (l : List ID) (A : Option Addr) (c : Nat) (s z : Int) (w : World) (hl : RdID w x A l) (hn : l.length ≤ 9223372036854775807) :
    Calls Tryz.prog 49 #[.slice A l.length c, .agg #[.int .u64 s, .int .i64 z]] w (Gives (.bool (decide ((s, z) ∈ l))) w) := by
  have Hl := Lib.hid hl
  clear hl
  go_enter Tryz.func49, Tryz.ntmps49
  go_wp2_with fail
  go_loopw [5] (fun v wr => ∃ k : Nat, k ≤ l.length ∧ v = .int .i64 k ∧ Hid (¬ (s, z) ∈ l.take k) ∧ IsB wr w.heap.size 31 #[.int .u64 s, .int .i64 z] ∧ Below w.heap.size w wr) (fun v _ => l.length - (intOf v).toNat)
  case atStart => exact ⟨0, Nat.zero_le _, rfl, by simp [Hid], IsB.new _ _ _, bel1 _ _⟩
  case round =>
    obtain ⟨k, hk, rfl, Hk, hI, hbw⟩ := hrel
    have hi0 : wr.cell? ⟨w.heap.size, 0, none⟩ = some (.int .u64 s) := by rw [hI.cell]; rfl
    have hi1 : wr.cell? ⟨w.heap.size, 1, none⟩ = some (.int .i64 z) := by rw [hI.cell]; rfl
    have hIl := hI.lt
    have HI := Lib.hid hI
    have Hbw := Lib.hid hbw
    clear hbw hI
    by_cases hlt : k < l.length
    · obtain ⟨b1, o1, rfl, hb1, _, hc1⟩ := Hl.out (by omega)
      obtain ⟨p, q, HJ⟩ : ∃ p q, Hid (l.getD k (0, 0) = (p, q)) := ⟨_, _, rfl⟩
      have p0 : wr.cell? ⟨b1, o1 + k * 2, none⟩ = some (.int .u64 p) := B_cell Hbw.out hb1 (hc1 k hlt 0 _ (by rw [HJ.out]; rfl))
      have p1 : wr.cell? ⟨b1, o1 + k * 2 + 1, none⟩ = some (.int .i64 q) := B_cell Hbw.out hb1 (hc1 k hlt 1 _ (by rw [HJ.out]; rfl))
      clear hc1
      have next : (p, q) ≠ (s, z) → ¬ (s, z) ∈ l.take (k + 1) := by
        intro hne hm
        rw [take_snoc _ (0, 0) _ hlt, HJ.out] at hm
        rcases List.mem_append.1 hm with h | h
        · exact Hk.out h
        · rw [List.mem_singleton] at h; exact hne h.symm
      have Hnext := Lib.hid next
      clear next
      by_cases e0 : p = s
      · obtain rfl := e0
        by_cases e1 : q = z
        · obtain rfl := e1
          have HT : Hid (decide ((p, q) ∈ l) = true) := by
            unfold Hid
            rw [decide_eq_true_eq, ← HJ.out]
            exact getD_mem _ _ _ hlt
          go_wp2_with fail
          go_quiet (fail)
          go_wp2_with fail
          go_ret
          exact gb HT.out (bdrewN Hbw.out _)
        · have hne : (q == z) = false := by rw [beq_eq_false_iff_ne]; exact e1
          have Hn : Hid (¬ (p, z) ∈ l.take (k + 1)) := Hnext.out (fun h => e1 (by injection h))
          clear e1
          go_wp2_with fail
          go_quiet (fail)
          go_wp2_with fail
          go_roundw
          case rel => exact ⟨k + 1, by omega, by go_num, Hn, HI.out.drewN _, bdrewN Hbw.out _⟩
          case measure => simp [intOf]; omega
      · have hne : (p == s) = false := by rw [beq_eq_false_iff_ne]; exact e0
        have Hn : Hid (¬ (s, z) ∈ l.take (k + 1)) := Hnext.out (fun h => e0 (by injection h))
        clear e0
        go_wp2_with fail
        go_quiet (fail)
        go_wp2_with fail
        go_roundw
        case rel => exact ⟨k + 1, by omega, by go_num, Hn, HI.out.drewN _, bdrewN Hbw.out _⟩
        case measure => simp [intOf]; omega
    · obtain rfl : k = l.length := by omega
      have HF : Hid (decide ((s, z) ∈ l) = false) := by
        unfold Hid
        rw [decide_eq_false_iff_not]
        have := Hk.out
        rwa [List.take_length] at this
      go_wp2_with fail
      go_ret
      exact gb HF.out Hbw.out
end Go.Proofs.YteabgcollokgjaaGreatDoor
namespace Go.Proofs.YteabgcollokgjaaGreatDoor
open Go.RowKit Go.MapKept Go.ChangeMaps Go.Shelf Go.Sort

/-- The IDs of a list that are not in another one. -/
def lessR (l gone : List ID) : List ID := l.filter fun i => !decide (i ∈ gone)
theorem lessR_snoc (l gone : List ID) (i : ID) : lessR (l ++ [i]) gone = lessR l gone ++ if i ∈ gone then [] else [i] := by
 unfold lessR
 rw [List.filter_append]
 congr 1
 by_cases h : i ∈ gone <;> simp [h]
theorem rdID_of {w : World} {A : Option Addr} {ids : List ID} (h : (riOb A ids).holds w) : RdID w w.heap.size A ids := by
 intro hp
 cases A with
 | none =>
  have := h.1 rfl
  rw [this] at hp
  simp at hp
 | some ad =>
  obtain ⟨g, rfl, hr, hlt⟩ := h.2 ad rfl
  refine ⟨g, 0, rfl, hlt, by omega, fun j hj i v hv => ?_⟩
  obtain ⟨a0, a1, _, _⟩ := hr.cells hj rfl
  match i, hv with
  | 0, hv =>
   simp [encID] at hv
   subst hv
   simpa using a0
  | 1, hv =>
   simp [encID] at hv
   subst hv
   simpa using a1
  | i + 2, hv => simp [encID] at hv
section
variable {b : Nat} {w0 w : World} {l : List Ob}
set_option maxRecDepth 100000 in
set_option maxHeartbeats 8000000 in
theorem rLess_any {A1 A2 : Option Addr} {l1 l2 : List ID} (h : SW b w0 l w) (h1 : riOb A1 l1 ∈ l) (h2 : riOb A2 l2 ∈ l) (n1 : l1.length ≤ 100000) (n2 : l2.length ≤ 100000) (c1 c2 : Nat) :
 Calls Tryz.prog 121 #[.slice A1 l1.length c1, .slice A2 l2.length c2] w (fun e w' => ∃ A cap, e = .returned (.slice A (lessR l1 l2).length cap) ∧ SW b w0 (riOb A (lessR l1 l2) :: l) w') := by
 have S0 := Lib.hid h
 have H1 := Lib.hid h1
 have H2 := Lib.hid h2
 clear h h1 h2
 go_enter Tryz.func121, Tryz.ntmps121
 go_wp2_with fail
 go_loopw [5, 6] (fun s5 s6 wr => ∃ (k : Nat) (A : Option Addr) (cap : Nat), k ≤ l1.length ∧ s6 = .int .i64 (k : Int) ∧ s5 = .slice A (lessR (l1.take k) l2).length cap ∧ SW b w0 (rowOb 31 2 (.slice A (lessR (l1.take k) l2).length cap) (lessR (l1.take k) l2).length ((lessR (l1.take k) l2).flatMap encID) :: l) wr) (fun _ s6 _ => l1.length - (intOf s6).toNat)
 case atStart => exact ⟨0, none, 0, Nat.zero_le _, rfl, rfl, S0.out.newRow 31 2⟩
 case round =>
  obtain ⟨k, A, cap, hk, rfl, rfl, hs⟩ := hrel
  have S1 := Lib.hid hs
  clear hs S0
  by_cases hlt : k < l1.length
  · obtain ⟨i, hik⟩ : ∃ i, l1.getD k id0 = i := ⟨_, rfl⟩
    obtain ⟨g1, rfl, a0, a1⟩ := S1.out.rowCell (List.mem_cons_of_mem _ H1.out) hlt hik
    have hts : l1.take (k + 1) = l1.take k ++ [i] := by
     rw [List.take_succ_eq_append_getElem hlt, ← hik, List.getD_eq_getElem?_getD, List.getElem?_eq_getElem hlt]
     rfl
    have HTS : Hid (lessR (l1.take (k + 1)) l2 = lessR (l1.take k) l2 ++ if i ∈ l2 then [] else [i]) := by rw [Hid, hts, lessR_snoc]
    have hfl : (lessR (l1.take k) l2).length ≤ k := by
     unfold lessR
     have := List.length_filter_le (fun i => !decide (i ∈ l2)) (l1.take k)
     rw [List.length_take] at this
     omega
    generalize lessR (l1.take k) l2 = F at S1 HTS hfl ⊢
    have HH : Hid (Calls Tryz.prog 49 #[.slice A2 l2.length c2, .agg #[.int .u64 i.1, .int .i64 i.2]] wr (Gives (.bool (decide (i ∈ l2))) wr)) := rHas_any wr.heap.size l2 A2 c2 i.1 i.2 wr (rdID_of (S1.out.1.holds (riOb A2 l2) (List.mem_cons_of_mem _ H2.out))) (by omega)
    clear hts
    go_upto_if 19 with (go_at_call 49; (with_reducible refine HH.out.mono ?_); rintro e w2 ⟨rfl, hb2⟩; have S2 := Lib.hid (S1.out.on hb2); clear hb2 S1 HH)
    obtain ⟨g2, e2, a0', a1'⟩ := S2.out.rowCell (List.mem_cons_of_mem _ H1.out) hlt hik
    injection e2 with e2
    injection e2 with e2
    subst e2
    clear hik a0 a1
    obtain ⟨v, hv⟩ : ∃ v, decide (i ∈ l2) = v := ⟨_, rfl⟩
    cases v with
    | true =>
     rw [if_pos (of_decide_eq_true hv), List.append_nil] at HTS
     rw [hv]
     clear hv
     go_wp2_with fail
     go_roundw
     case rel =>
      refine ⟨k + 1, A, cap, by omega, by go_num, ?_, ?_⟩
      · rw [HTS.out]
      · rw [HTS.out]
        exact S2.out
     case measure => simp [intOf]; omega
    | false =>
     rw [if_neg (of_decide_eq_false hv)] at HTS
     rw [hv]
     clear hv
     obtain ⟨i1, gi, gz0, gz1, gz2⟩ := info_parts info31
     go_wp2_with (at_builtin; (refine wpList_rowS (t := 38) (e := 31) (size := 2) (bytes := 16) (i := i1) (S2.out.alloc _) 0 rfl (by rfl) (.tmp 20) (.tmp 25) (by rfl) Tryz.underlying38 gi gz0 gz1 gz2 rfl (by omega) (by rfl) ⟨w2.heap.size, 0, none⟩ 1 [.int .u64 i.1, .int .i64 i.2] (by rfl) rfl (two_new w2 _ _ 31 _ rfl) (encID_one i) (by unfold maxLen; omega) (by omega) ?_); refine halt_ ?_)
     intro v4 w4 s4
     obtain ⟨g4, c4, rfl⟩ := own_some (s4.get 0 rfl) (by omega)
     have S4 : Hid (SW b w0 (rowOb 31 2 (.slice (some ⟨g4, 0, none⟩) (F ++ [i]).length c4) (F ++ [i]).length ((F ++ [i]).flatMap encID) :: l) w4) := by
      rw [Hid, List.flatMap_append, List.length_append]
      exact s4
     clear s4 S2 a0' a1'
     go_wp2_with fail
     go_roundw
     case rel =>
      refine ⟨k + 1, some ⟨g4, 0, none⟩, c4, by omega, by go_num, ?_, ?_⟩
      · rw [HTS.out, List.length_append]
        rfl
      · rw [HTS.out]
        exact S4.out
     case measure => simp [intOf]; omega
  · obtain rfl : k = l1.length := by omega
    rw [List.take_length] at S1 ⊢
    go_wp2_with fail
    go_ret
    exact ⟨A, cap, rfl, S1.out.rowRi⟩
end
end Go.Proofs.YteabgcollokgjaaGreatDoor
namespace Go.Proofs.YteabgcollokgjaaGreatDoor
open Go.RowKit Go.MapKept Go.ChangeMaps Go.Shelf Go.Sort
attribute [local go_sem] wext_cell

set_option maxRecDepth 100000 in
set_option maxHeartbeats 16000000 in
theorem rPut_there {w : World} {r : R3} (h : R3Ok w r) (d : BD) (bs : List UInt8) (hb : RB w d bs) (h1 : 1 ≤ bs.length) (h2 : bs.length ≤ 8192) {e : RE} (hat : hasAt r.E (fpOf bs) = true) (he : r.E.getD (atI r.E (fpOf bs)) re0 = e) (hk : atI r.E (fpOf bs) < r.E.length) (heb : e.bs = bs) :
 Calls Tryz.prog 36 #[.agg #[.slice r.A r.E.length r.c, .slice r.B r.E.length r.k], .slice d.A d.len d.cap] w (fun e w' => e = .returned (.tuple #[.agg #[.slice r.A r.E.length r.c, .slice r.B r.E.length r.k], .agg #[.int .u64 (fpOf bs).1, .int .i64 (fpOf bs).2], .int .i64 0]) ∧ Below w.heap.size w w') := by
 have hdl : d.len = bs.length := hb.1.symm
 rw [hdl]
 have HRB := Lib.hid hb
 have S0 : Hid (SW w.heap.size w [rsOb d.A bs, r3Ob r] w) := (SW.startR h).also (o' := rsOb d.A bs) hb.rs (fun _ h => h) (fun _ h' => rsOb_lt hb.rs h') (fun i _ y hy => by
  rcases List.mem_cons.1 hy with rfl | hy
  · exact fun h => h
  · cases hy)
 have S1 := Lib.hid (((S0.out.newCell 54 #[.slice r.A r.E.length r.c, .slice r.B r.E.length r.k]).newCellAt 54 #[.slice none 0 0, .slice none 0 0] (H := w.heap.size + 1) (by simp)).newCellAt 31 #[.int .u64 0, .int .i64 0] (H := w.heap.size + 2) (by simp))
 generalize hN : bs.length = N at h1 h2
 have HN := Lib.hid hN
 have hd1 : decide ((N : Int) < 1) = false := decide_eq_false (by omega)
 have hd2 : decide ((N : Int) > 8192) = false := decide_eq_false (by omega)
 obtain ⟨W1, HW1⟩ : ∃ W1, Hid (((w.alloc (.cells #[.slice r.A r.E.length r.c, .slice r.B r.E.length r.k] 54)).alloc (.cells #[.slice none 0 0, .slice none 0 0] 54)).alloc (.cells #[.int .u64 0, .int .i64 0] 31) = W1) := ⟨_, rfl⟩
 rw [HW1.out] at S1
 have HOF := Lib.hid (rOf_any d.A d.cap bs W1 (S1.out.get 3 (o := rsOb d.A bs) rfl) (by omega))
 rw [hN] at HOF
 obtain ⟨i, HI⟩ : ∃ i, Hid (fpOf bs = i) := ⟨_, rfl⟩
 rw [HI.out] at HOF hat he hk
 have HAT' := Lib.hid hat
 have HE := Lib.hid he
 have HEB := Lib.hid heb
 obtain ⟨K, HK⟩ : ∃ K, Hid (atI r.E i = K) := ⟨_, rfl⟩
 rw [HK.out] at hk HE
 clear hN h hb hat he heb hdl
 rw [HI.out]
 go_enter Tryz.func36, Tryz.ntmps36
 go_upto_region 3 with fail
 rw [HW1.out]
 go_wp2_with (first | (go_at_call 94; (with_reducible refine HOF.out.mono ?_); refine halt_ ?_) | (at_builtin; refine halt_ ?_))
 rintro e2 w2 ⟨rfl, hb2⟩
 have S2 := Lib.hid (S1.out.on hb2)
 clear hb2 HOF S1
 have HRB2 := Lib.hid (HRB.out.on S2.out.2)
 go_wp2_with (at_builtin; refine halt_ ?_)
 refine wpList_append_bytes rfl _ _ rfl ⟨none, 0, 0⟩ [] rfl (rb_nil w2) d.A d.cap bs (by rw [HN.out]; rfl) HRB2.out.src (by have := HN.out; simp only [List.length_nil]; omega) ?_
 intro d2 w3 hl2 happ
 clear hl2
 have S3 : Hid (SW w.heap.size w [bufOb d2 bs, cellOb (w.heap.size + 2) 31 #[.int .u64 0, .int .i64 0], cellOb (w.heap.size + 1) 54 #[.slice none 0 0, .slice none 0 0], cellOb w.heap.size 54 #[.slice r.A r.E.length r.c, .slice r.B r.E.length r.k], rsOb d.A bs, r3Ob r] w3) := S2.out.newBuf.appB 0 rfl happ
 unfold vB
 have S4 := Lib.hid (S3.out.newCell 65 #[.int .u64 i.1, .int .i64 i.2, .slice d2.A d2.len d2.cap])
 have HAT := Lib.hid (At_any (S4.out.get 6 (o := r3Ob r) rfl) i)
 rw [HK.out, HAT'.out] at HAT
 have d0 : (w3.alloc (.cells #[.int .u64 i.1, .int .i64 i.2, .slice d2.A d2.len d2.cap] 65)).cell? ⟨w3.heap.size, 0, none⟩ = some (.int .u64 i.1) := (S4.out.cell 0 rfl).cell 0
 have d1 : (w3.alloc (.cells #[.int .u64 i.1, .int .i64 i.2, .slice d2.A d2.len d2.cap] 65)).cell? ⟨w3.heap.size, 1, none⟩ = some (.int .i64 i.2) := (S4.out.cell 0 rfl).cell 1
 have c0 : (w3.alloc (.cells #[.int .u64 i.1, .int .i64 i.2, .slice d2.A d2.len d2.cap] 65)).cell? ⟨w.heap.size, 0, none⟩ = some (.slice r.A r.E.length r.c) := (S4.out.cell 4 rfl).cell 0
 have c1 : (w3.alloc (.cells #[.int .u64 i.1, .int .i64 i.2, .slice d2.A d2.len d2.cap] 65)).cell? ⟨w.heap.size, 1, none⟩ = some (.slice r.B r.E.length r.k) := (S4.out.cell 4 rfl).cell 1
 have h3lt := (S3.out.cell 1 rfl).lt
 clear happ S2 S3
 go_wp2_with (go_at_call 95; (with_reducible refine HAT.out.mono ?_); refine halt_ ?_)
 rintro e4 w4 ⟨rfl, hb4⟩
 have S5 := Lib.hid (S4.out.on hb4)
 clear hb4 HAT S4 d0 d1 c0 c1
 have c0 := (S5.out.cell 4 rfl).cell 0
 have c1 := (S5.out.cell 4 rfl).cell 1
 have hok : R3Ok w4 r := S5.out.get 6 (o := r3Ob r) rfl
 obtain ⟨gE, hA, hgl, a0, a1, a2⟩ := hok.chunk hk HE.out
 have hrb1 : RB w4 e.d e.bs := hok.bytes e (by
  rw [← HE.out, List.getD_eq_getElem?_getD, List.getElem?_eq_getElem hk]
  exact List.getElem_mem hk)
 have hrb2 : RB w4 d bs := HRB.out.on S5.out.2
 have v1 := fun q : Ext w4 => conv_rb (hrb1.on (wext_below q))
 have v2 := fun q : Ext w4 => conv_rb (hrb2.on (wext_below q))
 rw [HEB.out] at v1
 have hdl : d.len = N := hrb2.1.symm.trans HN.out
 rw [hdl] at v2
 rw [hA] at c0
 have l0 := (S5.out.cell 4 rfl).lt
 clear hok hrb1 hrb2 hdl
 go_upto_region 6 with fail
 refine wp_region_ext (by kernel_rfl) (by kernel_rfl) ?_
 repeat (go_big_quiet_step (fail))
 refine wpQuiet_nil ?_
 intro w5 hb5
 have S6 := Lib.hid (S5.out.on hb5)
 clear hb5 v1 v2 a0 a1 a2 c0 c1 S5
 have c0 := (S6.out.cell 4 rfl).cell 0
 have c1 := (S6.out.cell 4 rfl).cell 1
 have d0 := (S6.out.cell 0 rfl).cell 0
 have d1 := (S6.out.cell 0 rfl).cell 1
 have z0 := (S6.out.cell 3 rfl).cell 0
 have z1 := (S6.out.cell 3 rfl).cell 1
 have y0 := (S6.out.cell 2 rfl).cell 0
 have y1 := (S6.out.cell 2 rfl).cell 1
 have f0 := (S6.out.cell 3 rfl).frozen 0
 have f1 := (S6.out.cell 3 rfl).frozen 1
 have f2 := (S6.out.cell 2 rfl).frozen 0
 have f3 := (S6.out.cell 2 rfl).frozen 1
 have hn1 : w3.heap.size ≠ w.heap.size + 1 := by omega
 have hn2 : w3.heap.size ≠ w.heap.size + 2 := by omega
 have hn3 : w3.heap.size ≠ w.heap.size + 1 + 1 := by omega
 go_upto_region 8 with fail
 go_region
 have S7 := Lib.hid (((((S6.out.setAt 3 rfl 0 (.slice (some ⟨gE, 0, none⟩) r.E.length r.c)).setAt 3 rfl 1 (.slice r.B r.E.length r.k)).setAt 2 rfl 0 (.int .u64 i.1)).setAt 2 rfl 1 (.int .i64 i.2)).drew)
 have e0 := (S7.out.cell 3 rfl).cell 0
 have e1 := (S7.out.cell 3 rfl).cell 1
 have e2 := (S7.out.cell 2 rfl).cell 0
 have e3 := (S7.out.cell 2 rfl).cell 1
 clear c0 c1 d0 d1 z0 z1 y0 y1 f0 f1 f2 f3 S6
 generalize World.drew _ = W at S7 e0 e1 e2 e3 ⊢
 have hRA := hA
 clear hA
 go_wp2_with fail
 refine bodyPost_ret (v := .tuple #[.agg #[.slice (some ⟨gE, 0, none⟩) r.E.length r.c, .slice r.B r.E.length r.k], .agg #[.int .u64 i.1, .int .i64 i.2], .int .i64 0]) ?_ rfl ⟨?_, S7.out.2⟩
 · simp [results, Tryz.results36, go_sem, e0, e1, e2, e3]
 · first
    | rfl
    | (rw [hRA])
theorem mk_bools (w : World) (n : Nat) (hn : n ≤ 100000) : (Instr.makeSlice 52 (.int .i64 n) (.int .i64 n)).run Tryz.prog w = .ok (.slice (some ⟨w.heap.size, 0, none⟩) n n) (w.alloc (.cells (Array.replicate n (.bool false)) 4)) := by
 obtain ⟨i0, hi, hz0, hz1, hz2⟩ := info_parts info4
 have := run_makeSlice (P := Tryz.prog) w 52 4 i0 _ Tryz.underlying52 hi hz0 .i64 .i64 n n (by omega) (by omega) (by rw [hz1]; simp; omega) (by rw [hz2]; omega) (by omega)
 simp only [Int.toNat_natCast] at this
 have e : madeCells (Value.bool false).cells n = (Array.replicate n (.bool false)) := Array.ext' (by rw [show (Value.bool false).cells = #[Value.bool false] from rfl, toList_madeCells_one]; simp)
 rw [this, hz1, Nat.mul_one, e]
/-- Nothing is pending. -/
def R3.still (r : R3) (g : Nat) : R3 := ⟨r.A, r.c, some ⟨g, 0, none⟩, r.E.length, r.E.map fun e => { e with pn := false }⟩
theorem still_len (r : R3) (g : Nat) : (r.still g).E.length = r.E.length := by simp [R3.still]
theorem still_ids (r : R3) (g : Nat) : (r.still g).ids = r.ids := by simp [R3.still, R3.ids]
theorem RTX.still {r : R3} {P : List (List UInt8)} (h : RTX r P) (g : Nat) : RTX (r.still g) P := by
 refine ⟨?_, fun i => ?_, fun e he => ?_⟩
 · exact List.pairwise_map.2 h.sort
 · rw [still_ids]
   exact h.has i
 · obtain ⟨f, hf, rfl⟩ := List.mem_map.1 he
   exact h.val f hf
theorem still_ok {w w' : World} {r : R3} (h : R3Ok w r) (hb : Below w.heap.size w w') {g : Nat} (hg : IsB w' g 4 (Array.replicate r.E.length (.bool false))) : R3Ok w' (r.still g) := by
 have h' := h.on hb
 have e1 : (r.still g).E.flatMap encK = r.E.flatMap encK := by
  show (r.E.map fun e => { e with pn := false }).flatMap encK = _
  rw [List.flatMap_map]
  rfl
 have e2 : (r.still g).E.flatMap encP = List.replicate r.E.length (.bool false) := by
  have : ∀ l : List RE, (l.map fun e => { e with pn := false }).flatMap encP = List.replicate l.length (Value.bool false) := fun l => by
   induction l with
   | nil => rfl
   | cons e l ih => rw [List.map_cons, List.flatMap_cons, ih]; rfl
  exact this r.E
 refine ⟨?_, ?_, ?_, ?_, ?_, fun e he => ?_⟩
 · rw [e1, still_len]
   exact h'.a
 · rw [e2, still_len]
   refine ⟨by simp, .inr ⟨g, _, rfl, hg, by simp⟩⟩
 · rw [still_len]; exact h'.c
 · rw [still_len]; exact Nat.le_refl _
 · rw [still_len]; exact h'.n
 · obtain ⟨f, hf, rfl⟩ := List.mem_map.1 he
   exact h'.bytes f hf
theorem still_rd {r : R3} {g i : Nat} (h : (r3Ob (r.still g)).rd i) : i = g ∨ (r3Ob r).rd i := by
 rcases h with ⟨hn, e | e⟩ | ⟨e, he, ea⟩
 · exact .inr (.inl ⟨by rw [still_len] at hn; exact hn, .inl e⟩)
 · injection e with e
   injection e with e
   exact .inl e.symm
 · obtain ⟨f, hf, rfl⟩ := List.mem_map.1 he
   exact .inr (.inr ⟨f, hf, ea⟩)
set_option maxRecDepth 100000 in
set_option maxHeartbeats 4000000 in
theorem rFlush_any {w : World} {r : R3} (h : R3Ok w r) : Calls Tryz.prog 43 #[.agg #[.slice r.A r.E.length r.c, .slice r.B r.E.length r.k]] w (fun e w' => ∃ g, e = .returned (.agg #[.slice r.A r.E.length r.c, .slice (some ⟨g, 0, none⟩) r.E.length r.E.length]) ∧ w.heap.size ≤ g ∧ R3Ok w' (r.still g) ∧ Below w.heap.size w w') := by
 have S0 : Hid (SW w.heap.size w [cellOb (w.heap.size + 1) 54 #[.slice none 0 0, .slice none 0 0], cellOb w.heap.size 54 #[.slice r.A r.E.length r.c, .slice r.B r.E.length r.k]] _) := Lib.hid (((SW.refl (Sep.nil w (Nat.le_refl _))).newCell 54 #[.slice r.A r.E.length r.c, .slice r.B r.E.length r.k]).newCellAt 54 #[.slice none 0 0, .slice none 0 0] (H := w.heap.size + 1) (by simp))
 have HO := Lib.hid h
 have hn := h.n
 have hmk := fun W => mk_bools W r.E.length hn
 generalize hN : r.E.length = N at hmk hn S0
 have HN := Lib.hid hN
 clear h
 go_enter Tryz.func43, Tryz.ntmps43
 go_upto_region 1 with fail
 clear hN
 generalize hW : (w.alloc _).alloc _ = W at S0 ⊢
 have c0 := (S0.out.cell 1 rfl).cell 0
 have d0 := (S0.out.cell 0 rfl).cell 0
 have d1 := (S0.out.cell 0 rfl).cell 1
 have f0 := (S0.out.cell 0 rfl).frozen 0
 have f1 := (S0.out.cell 0 rfl).frozen 1
 have l1 := (S0.out.cell 0 rfl).lt
 have l0 : w.heap.size < W.heap.size := by omega
 clear hW
 go_region
 have S1 := Lib.hid ((((S0.out.setAt 0 rfl 0 (.slice r.A N r.c)).setAt 0 rfl 1 (.slice (some ⟨W.heap.size, 0, none⟩) N N)).newCellAt 4 (Array.replicate N (.bool false)) (H := W.heap.size) (by simp [World.setCell])).drew)
 have e0 := (S1.out.cell 1 rfl).cell 0
 have e1 := (S1.out.cell 1 rfl).cell 1
 have hg := S1.out.cell 0 rfl
 clear c0 d0 d1 f0 f1 S0
 generalize World.drew _ = W1 at S1 e0 e1 hg ⊢
 go_wp2_with fail
 refine bodyPost_ret (v := .agg #[.slice r.A N r.c, .slice (some ⟨W.heap.size, 0, none⟩) N N]) ?_ rfl ⟨W.heap.size, rfl, by omega, still_ok HO.out S1.out.2 (by rw [HN.out]; exact hg), S1.out.2⟩
 simp [results, Tryz.results43, go_sem, e0, e1]
set_option maxRecDepth 100000 in
set_option maxHeartbeats 4000000 in
theorem rNew_any {b : Nat} {w0 w : World} {l : List Ob} {r : R3} (h : SW b w0 l w) (hm : r3Ob r ∈ l) {A : Option Addr} {live : List ID} (hA : riOb A live ∈ l) (hl : live.length ≤ 100000) (c : Nat) :
 Calls Tryz.prog 110 #[.agg #[.slice r.A r.E.length r.c, .slice r.B r.E.length r.k], .slice A live.length c] w (fun e w' => ∃ CA cc, e = .returned (.agg #[.slice r.A r.E.length r.c, .slice r.B r.E.length r.k, .slice CA (lessR r.ids live).length cc, .slice none 0 0]) ∧ SW b w0 (riOb CA (lessR r.ids live) :: l) w') := by
 have S0 := Lib.hid ((h.newCell 54 #[.slice r.A r.E.length r.c, .slice r.B r.E.length r.k]).newCellAt 100 #[.slice none 0 0, .slice none 0 0, .slice none 0 0, .slice none 0 0] (H := w.heap.size + 1) (by simp))
 have hn := (h.1.holds _ hm : R3Ok w r).n
 have HM := Lib.hid hm
 have HA := Lib.hid hA
 generalize hN : r.E.length = N at S0
 have HN := Lib.hid hN
 clear h hm hA
 go_enter Tryz.func110, Tryz.ntmps110
 go_upto_region 1 with fail
 generalize hW : (w.alloc _).alloc _ = W at S0 ⊢
 have c0 := (S0.out.cell 1 rfl).cell 0
 have c1 := (S0.out.cell 1 rfl).cell 1
 have HI := Lib.hid (rIDs_any (r := r) S0.out.drew (by simp [HM.out]))
 rw [HN.out] at HI
 clear hW
 have HML := Lib.hid hl
 have HIL : Hid (r.ids.length ≤ 100000) := by rw [Hid, List.length_map]; exact hn
 obtain ⟨ids, HIDS⟩ : ∃ ids, Hid (r.ids = ids) := ⟨_, rfl⟩
 rw [HIDS.out] at HI HIL
 refine wp_region_held_tail [(0, true), (1, true), (3, true), (2, false), (4, false)] (fun w' => w'.cell? ⟨w.heap.size, 0, none⟩ = some (.slice r.A N r.c) ∧ w'.cell? ⟨w.heap.size, 1, none⟩ = some (.slice r.B N r.k)) (by kernel_rfl) (fun _ _ d _ _ h => by cases d <;> exact h) (by kernel_rfl) (⟨c0, c1⟩) ?_
 simp only [picked, List.map_cons, List.map_nil, List.getD_cons_succ, List.getD_cons_zero]
 iterate 3
  (refine wpHeld_take (v := ?_) (Or.inl ⟨by rfl, ?_⟩) ?_
   rotate_left
   · (intro w' hSw; obtain ⟨h1, h2⟩ := hSw; go_simp; try with_reducible rfl)
   try simp only [Act.put, List.setIfInBounds_toArray, List.set])
 refine wpHeld_run (fun K hK => ?_)
 go_simp
 go_at_call 70
 refine HI.out.mono ?_
 rintro e w1 ⟨A1, c1, rfl, s1⟩
 have S1 := Lib.hid s1
 clear s1
 go_wp2_with fail
 refine hK.out _ _ ⟨(S1.out.cell 2 rfl).cell 0, (S1.out.cell 2 rfl).cell 1⟩ ?_
 clear hK K
 try simp only [Act.put, List.setIfInBounds_toArray, List.set]
 refine wpHeld_run (fun K hK => ?_)
 go_simp
 go_at_call 121
 refine (rLess_any S1.out (A1 := A1) (A2 := A) (l1 := ids) (l2 := live) (by simp) (by simp [HA.out]) HIL.out HML.out c1 c).mono ?_
 rintro e w2 ⟨CA, cc, rfl, s2⟩
 have S2 := Lib.hid s2
 clear s2
 go_wp2_with fail
 refine hK.out _ _ ⟨(S2.out.cell 3 rfl).cell 0, (S2.out.cell 3 rfl).cell 1⟩ ?_
 clear hK K
 try simp only [Act.put, List.setIfInBounds_toArray, List.set]
 refine wpHeld_nil ?_
 simp only [List.length_cons, List.length_nil, List.drop_succ_cons, List.drop_zero]
 have z0 := (S2.out.cell 2 rfl).cell 0
 have z1 := (S2.out.cell 2 rfl).cell 1
 have z2 := (S2.out.cell 2 rfl).cell 2
 have z3 := (S2.out.cell 2 rfl).cell 3
 have f0 := (S2.out.cell 2 rfl).frozen 0
 have f1 := (S2.out.cell 2 rfl).frozen 1
 have f2 := (S2.out.cell 2 rfl).frozen 2
 have f3 := (S2.out.cell 2 rfl).frozen 3
 have S3 := Lib.hid ((((S2.out.setAt 2 rfl 0 (.slice r.A N r.c)).setAt 2 rfl 1 (.slice r.B N r.k)).setAt 2 rfl 2 (.slice CA (lessR ids live).length cc)).setAt 2 rfl 3 (.slice none 0 0))
 have S4 : Hid (SW b w0 (riOb CA (lessR ids live) :: l) _) := Lib.hid (SW.few (pre := [_, _, _, _]) S3.out [0] (n := 4) rfl (by decide) (by decide))
 have e0 : _ = some (Value.slice r.A N r.c) := (S3.out.cell 2 rfl).cell 0
 have e1 : _ = some (Value.slice r.B N r.k) := (S3.out.cell 2 rfl).cell 1
 have e2 : _ = some (Value.slice CA (lessR ids live).length cc) := (S3.out.cell 2 rfl).cell 2
 have e3 : _ = some (Value.slice none 0 0) := (S3.out.cell 2 rfl).cell 3
 clear S2 S3
 go_wp2_with fail
 generalize ((((w2.setCell ⟨w.heap.size + 1, 0, none⟩ (.slice r.A N r.c)).setCell ⟨w.heap.size + 1, 1, none⟩ (.slice r.B N r.k)).setCell ⟨w.heap.size + 1, 2, none⟩ (.slice CA (lessR ids live).length cc)).setCell ⟨w.heap.size + 1, 3, none⟩ (.slice none 0 0)) = W at S4 e0 e1 e2 e3 ⊢
 refine bodyPost_ret (v := .agg #[.slice r.A N r.c, .slice r.B N r.k, .slice CA (lessR ids live).length cc, .slice none 0 0]) ?_ rfl ⟨CA, cc, ?_, ?_⟩
 · simp [results, Tryz.results110, go_sem, e0, e1, e2, e3]
 · first
    | rfl
    | rw [HIDS.out]
 · first
    | exact S4.out
    | (rw [HIDS.out]; exact S4.out)
end Go.Proofs.YteabgcollokgjaaGreatDoor
namespace Go.Proofs.YteabgcollokgjaaGreatDoor
open Go.RowKit Go.MapKept Go.ChangeMaps Go.Shelf Go.Sort

section
variable {b : Nat} {w0 w : World} {l : List Ob} {c : CR}
/-- What stays is written over the candidates. -/
theorem run_put31 {w : World} {g m cap H : Nat} {x : ID} (hi : ∃ cur, IsB w g 31 cur ∧ m * 2 + 1 < cur.size) (hroom : m + 1 ≤ cap) (h0 : w.cell? ⟨H, 0, none⟩ = some (.int .u64 x.1)) (h1 : w.cell? ⟨H, 1, none⟩ = some (.int .i64 x.2)) (ty : TypeId) :
 (Builtin.append_ #[38, 38] ty #[.slice (some ⟨g, 0, none⟩) m cap, .slice (some ⟨H, 0, none⟩) 1 1]).run Tryz.prog w = .ok (.slice (some ⟨g, 0, none⟩) (m + 1) cap) ((w.setCell ⟨g, m * 2, none⟩ (.int .u64 x.1)).setCell ⟨g, m * 2 + 1, none⟩ (.int .i64 x.2)) := by
 obtain ⟨cur, hi, hlt⟩ := hi
 obtain ⟨i, hinfo, _, hz, _⟩ := info_parts info31
 have hz : i.size = 2 := hz
 have := run_append_room_cells (P := Tryz.prog) w 38 ty 31 i Tryz.underlying38 hinfo g 0 m cap ⟨H, 0, none⟩ 1 1 [.int .u64 x.1, .int .i64 x.2] (by rw [hz]; rfl) (fun j u hu => ?_) (fun u hu => ?_) hroom (fun j hj => ?_) (fun j hj => ?_)
 · rw [this, hz]
   simp [World.setCells]
 · match j, hu with
   | 0, hu =>
    simp at hu
    subst hu
    simpa [Addr.add] using h0
   | 1, hu =>
    simp at hu
    subst hu
    simpa [Addr.add] using h1
   | j + 2, hu => simp at hu
 · simp at hu
   rcases hu with rfl | rfl <;> rfl
 · rw [hz, hi.cell]
   have hj : j < 2 := hj
   rw [Array.getElem?_eq_getElem (by omega)]
   rfl
 · exact hi.frozen _
theorem wpList_put {w : World} {ops : Array Oper} {rest : List Oper} {o : Oper} {a : Act} {Q : Exit → Act → World → Prop} (hg : o.guard = none) (s y : Operand) (hop : o.op = Op.call { callee := Callee.builtin Builtin.append, args := #[s, y], argTypes := #[38, 38] })
 {g m cap H : Nat} {x : ID} (hi : ∃ cur, IsB w g 31 cur ∧ m * 2 + 1 < cur.size) (hroom : m + 1 ≤ cap) (h0 : w.cell? ⟨H, 0, none⟩ = some (.int .u64 x.1)) (h1 : w.cell? ⟨H, 1, none⟩ = some (.int .i64 x.2))
 (hs : a.eval s = .slice (some ⟨g, 0, none⟩) m cap) (hy : a.eval y = .slice (some ⟨H, 0, none⟩) 1 1)
 (h : wpList Tryz.prog ops Q rest (a.put o.dst (.slice (some ⟨g, 0, none⟩) (m + 1) cap)) ((w.setCell ⟨g, m * 2, none⟩ (.int .u64 x.1)).setCell ⟨g, m * 2 + 1, none⟩ (.int .i64 x.2))) : wpList Tryz.prog ops Q (o :: rest) a w := by
 refine wpList_plain hg fun K hK' => ?_
 have hrun := run_put31 hi hroom h0 h1 o.type
 unfold Oper.wp
 simp [execOp, hop, resolve, invoke, builtin, hs, hy, hrun, Result.andThen]
 exact hK' _ _ h
theorem co_row {W : World} {F : List ID} {g : Nat} (h : (coOb (c.mid F)).holds W) (hA : c.A = some ⟨g, 0, none⟩) (hF : F.length < c.cand.length) : (∃ cur, IsB W g 31 cur ∧ F.length * 2 + 1 < cur.size) ∧ g < W.heap.size := by
 obtain ⟨_, _, r3⟩ := h.2.1
 obtain ⟨g', e, ⟨cur, hi, h2, _⟩, hlt⟩ := r3 _ hA
 injection e with e
 subst e
 refine ⟨⟨cur, hi, ?_⟩, hlt⟩
 rw [CR.mid_len c (Nat.le_of_lt hF)] at h2
 omega
set_option maxRecDepth 100000 in
set_option maxHeartbeats 8000000 in
theorem drop_any {gm : Nat} {G : HL} (h : SW b w0 (coOb c :: mpOb okID vID vU gm G :: l) w) (hok : ∀ i ∈ c.cand, okID i) (hl : c.cand.length ≤ 100000) :
 Calls Tryz.prog 112 #[vPtr c.cp, .map (some gm)] w (fun e w' => e = .returned (.tuple #[]) ∧ SW b w0 (coOb { c with cand := lessL G c.cand } :: mpOb okID vID vU gm G :: l) w') := by
 have HOK := Lib.hid hok
 have S0 : Hid (SW b w0 (coOb (c.mid []) :: mpOb okID vID vU gm G :: l) w) := h
 obtain ⟨n, Hn⟩ : ∃ n, Hid (c.cand.length = n) := ⟨_, rfl⟩
 have hh : (coOb c).holds w := h.get 0 rfl
 have k1 : w.cell? ⟨c.cp, 1, none⟩ = some (.slice c.A n c.cap) := by rw [← Hn.out]; exact CR.cell1 hh
 have hcap : n ≤ c.cap := by rw [← Hn.out]; exact hh.2.1.1
 have hcap63 : Hid (n ≤ c.cap) := hcap
 have HA : Hid (∀ ad, c.A = some ad → ∃ g, ad = ⟨g, 0, none⟩) := fun ad e => by
  obtain ⟨g, e2, _⟩ := hh.2.1.2.2 ad e
  exact ⟨g, e2⟩
 have HA0 : Hid (c.A = none → n = 0) := fun e => by
  rw [← Hn.out, hh.2.1.2.1 e]
  rfl
 have hsl := fun W => slice0_38 c.A HA.out n c.cap W
 rw [Hn.out] at hl
 clear h hok hh
 go_enter Tryz.func112, Tryz.ntmps112
 go_wp2_with fail
 clear hsl
 go_loopw [4, 19] (fun s4 s19 wr => ∃ k : Nat, k ≤ n ∧ s19 = .int .i64 (k : Int) ∧ s4 = .slice c.A (lessL G (c.cand.take k)).length c.cap ∧ SW b w0 (coOb (c.mid (lessL G (c.cand.take k))) :: mpOb okID vID vU gm G :: l) wr) (fun s4 s19 _ => n - (intOf s19).toNat)
 case atStart => exact ⟨0, Nat.zero_le _, rfl, rfl, S0.out⟩
 case round =>
  obtain ⟨k, hk, rfl, rfl, hs⟩ := hrel
  have S1 := Lib.hid hs
  clear hs S0 k1
  by_cases hlt : k < n
  · obtain ⟨F, HF⟩ : ∃ F, Hid (lessL G (c.cand.take k) = F) := ⟨_, rfl⟩
    rw [HF.out] at S1 ⊢
    have hFk : F.length ≤ k := by
     rw [← HF.out]
     refine Nat.le_trans (lessL_le _ _) ?_
     rw [List.length_take]
     omega
    have hltc : k < c.cand.length := by rw [Hn.out]; exact hlt
    obtain ⟨i, hik⟩ : ∃ i, c.cand.getD k id0 = i := ⟨_, rfl⟩
    have hmm : i ∈ c.cand := by
     rw [← hik, List.getD_eq_getElem?_getD, List.getElem?_eq_getElem hltc]
     exact List.getElem_mem hltc
    have hoki := HOK.out i hmm
    have hts : c.cand.take (k + 1) = c.cand.take k ++ [i] := by
     rw [List.take_succ_eq_append_getElem hltc, ← hik, List.getD_eq_getElem?_getD, List.getElem?_eq_getElem hltc]
     rfl
    have HTS : Hid (lessL G (c.cand.take (k + 1)) = F ++ if (asc G i).isSome then [] else [i]) := by rw [Hid, hts, lessL_snoc, HF.out]
    have hhm : (coOb (c.mid F)).holds wr := S1.out.get 0 rfl
    obtain ⟨A0, hA0⟩ : ∃ A0, c.A = A0 := ⟨_, rfl⟩
    cases A0 with
    | none => exact absurd (HA0.out hA0) (by omega)
    | some ad =>
     obtain ⟨g, rfl⟩ := HA.out ad hA0
     rw [hA0]
     obtain ⟨g', e, hrow, hgl⟩ := hhm.2.1.2.2 _ hA0
     injection e with e
     subst e
     have hmk : (F ++ c.cand.drop F.length).getD k id0 = i := by
      rw [List.getD_eq_getElem?_getD, List.getElem?_append_right hFk, List.getElem?_drop, show F.length + (k - F.length) = k by omega, ← hik, List.getD_eq_getElem?_getD]
     have hml : k < (F ++ c.cand.drop F.length).length := by rw [List.length_append, List.length_drop]; omega
     obtain ⟨a0, a1, _, _⟩ := hrow.cells hml hmk
     have HROW : Hid (∃ cur, IsB wr g 31 cur ∧ F.length * 2 + 1 < cur.size) := by
      obtain ⟨cur, hi, h2, _⟩ := hrow
      refine ⟨cur, hi, ?_⟩
      rw [List.length_append, List.length_drop] at h2
      omega
     have HAE := Lib.hid hA0
     have S2 := Lib.hid (S1.out.newCell 31 #[.int .u64 i.1, .int .i64 i.2])
     have hlk := look_u (S2.out.get 2 (o := mpOb okID vID vU gm G) rfl) hoki
     have c0 : (wr.alloc (.cells #[.int .u64 i.1, .int .i64 i.2] 31)).cell? ⟨wr.heap.size, 0, none⟩ = some (.int .u64 i.1) := (S2.out.cell 0 rfl).cell 0
     have c1 : (wr.alloc (.cells #[.int .u64 i.1, .int .i64 i.2] 31)).cell? ⟨wr.heap.size, 1, none⟩ = some (.int .i64 i.2) := (S2.out.cell 0 rfl).cell 1
     have HGL := Lib.hid hgl
     have hFl : F.length < c.cand.length := by omega
     have HFL := Lib.hid hFl
     have hFc : F.length + 1 ≤ c.cap := by omega
     have HFC := Lib.hid hFc
     clear hik hmm hts hhm hrow hmk hml hltc hgl S1 hA0 hoki hFl hFc hFk
     cases hgo : (asc G i).isSome with
     | true =>
      rw [hgo] at hlk HTS
      have HT2 : Hid (lessL G (c.cand.take (k + 1)) = F) := by rw [Hid, HTS.out]; simp
      clear hgo HTS
      go_wp2_with fail
      go_roundw
      case rel =>
       refine ⟨k + 1, by omega, by go_num, ?_, ?_⟩
       · rw [HT2.out]
       · rw [HT2.out]
         exact (S2.out.alloc _).tail
      case measure => simp [intOf]; omega
     | false =>
      rw [hgo] at hlk HTS
      have HT2 : Hid (lessL G (c.cand.take (k + 1)) = F ++ [i]) := by rw [Hid, HTS.out]; simp
      clear hgo HTS
      go_upto_region 6 with fail
      have S3 : Hid (SW b w0 (cellOb wr.heap.size 31 #[.int .u64 i.1, .int .i64 i.2] :: coOb (c.mid F) :: mpOb okID vID vU gm G :: l) ((wr.alloc (.cells #[.int .u64 i.1, .int .i64 i.2] 31)).alloc (.cells #[] 170))) := S2.out.alloc _
      generalize (wr.alloc (.cells #[.int .u64 i.1, .int .i64 i.2] 31)).alloc (.cells #[] 170) = W at S3 ⊢
      have d0 := (S3.out.cell 0 rfl).cell 0
      have d1 := (S3.out.cell 0 rfl).cell 1
      have S5 := Lib.hid (S3.out.newCell 31 #[.int .u64 i.1, .int .i64 i.2])
      have hrw := Lib.hid (co_row (S5.out.get 2 (o := coOb (c.mid F)) rfl) HAE.out HFL.out).1
      have e0 := Lib.hid ((S5.out.cell 0 rfl).cell 0)
      have e1 := Lib.hid ((S5.out.cell 0 rfl).cell 1)
      go_wp2_with (at_builtin; (refine wpList_put rfl (.tmp 31) (.tmp 33) rfl hrw.out HFC.out e0.out e1.out rfl rfl ?_))
      have S6 := Lib.hid (S5.out.tail.tail.coPut HAE.out HFL.out i)
      go_roundw
      case rel =>
       refine ⟨k + 1, by omega, by go_num, ?_, ?_⟩
       · rw [HT2.out, List.length_append]
         rfl
       · rw [HT2.out]
         exact S6.out
      case measure => simp [intOf]; omega
  · obtain rfl : k = n := by omega
    have hF : c.cand.take k = c.cand := by rw [← Hn.out, List.take_length]
    rw [hF] at S1 ⊢
    have k1 := CR.cell1 (S1.out.get 0 (o := coOb (c.mid (lessL G c.cand))) rfl)
    have k2 : wr.frozen? ⟨c.cp, 1, none⟩ = false := (S1.out.get 0 (o := coOb (c.mid (lessL G c.cand))) rfl).1.frozen _
    go_wp2_with fail
    go_end0
    refine ⟨rfl, ?_⟩
    have hh := S1.out.get 0 (o := coOb (c.mid (lessL G c.cand))) rfl
    refine SW.coSet (c := c.mid (lessL G c.cand)) (c' := { c with cand := lessL G c.cand }) S1.out 1 _ ?_ rfl ?_ ?_ ?_ ?_ rfl ?_
    · rfl
    · exact hh.2.2.len
    · exact fun s hs m hm => ⟨s, hs, hm, rfl⟩
    · exact hh.2.2.nomap
    · exact hh.2.2.uniq
    · rintro ⟨r1, r2, r3⟩
      refine ⟨Nat.le_trans (lessL_le G c.cand) (by rw [Hn.out]; exact hcap63.out), fun e => by
       have := lessL_le G c.cand
       rw [Hn.out, HA0.out e] at this
       have h4 : lessL G c.cand = [] := List.eq_nil_of_length_eq_zero (by omega)
       exact h4, fun ad e => ?_⟩
      obtain ⟨g, e2, hrow, hlt⟩ := r3 ad e
      exact ⟨g, e2, hrow.pre, hlt⟩
end
end Go.Proofs.YteabgcollokgjaaGreatDoor
