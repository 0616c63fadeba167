/- Contracts: kept, of the collector's law. -/
import Derived.Test.YteabgcollokgjaaGreatDoorQ28
namespace Go.Proofs.YteabgcollokgjaaGreatDoor
open Go.RowKit Go.MapKept Go.ChangeMaps Go.Shelf Go.Sort

/-- The IDs of a list that are in another one. -/
def keptR (l of : List ID) : List ID := l.filter fun i => decide (i ∈ of)
theorem keptR_snoc (l of : List ID) (i : ID) : keptR (l ++ [i]) of = keptR l of ++ if i ∈ of then [i] else [] := by
 unfold keptR
 rw [List.filter_append]
 congr 1
 by_cases h : i ∈ of <;> simp [h]
section
variable {b : Nat} {w0 w : World} {l : List Ob}
set_option maxRecDepth 100000 in
set_option maxHeartbeats 8000000 in
theorem kept_any {A1 A2 : Option Addr} {l1 l2 : List ID} (h : SW b w0 l w) (h1 : riOb A1 l1 ∈ l) (h2 : riOb A2 l2 ∈ l) (n1 : l1.length ≤ 100000) (n2 : l2.length ≤ 100000) (c1 c2 : Nat) :
 Calls Tryz.prog 76 #[.slice A1 l1.length c1, .slice A2 l2.length c2] w (fun e w' => ∃ A cap, e = .returned (.slice A (keptR l1 l2).length cap) ∧ SW b w0 (riOb A (keptR l1 l2) :: l) w') := by
 have S0 := Lib.hid h
 have H1 := Lib.hid h1
 have H2 := Lib.hid h2
 clear h h1 h2
 go_enter Tryz.func76, Tryz.ntmps76
 go_wp2_with fail
 go_loopw [5, 6] (fun s5 s6 wr => ∃ (k : Nat) (A : Option Addr) (cap : Nat), k ≤ l1.length ∧ s6 = .int .i64 (k : Int) ∧ s5 = .slice A (keptR (l1.take k) l2).length cap ∧ SW b w0 (rowOb 31 2 (.slice A (keptR (l1.take k) l2).length cap) (keptR (l1.take k) l2).length ((keptR (l1.take k) l2).flatMap encID) :: l) wr) (fun _ s6 _ => l1.length - (intOf s6).toNat)
 case atStart => exact ⟨0, none, 0, Nat.zero_le _, rfl, rfl, S0.out.newRow 31 2⟩
 case round =>
  obtain ⟨k, A, cap, hk, rfl, rfl, hs⟩ := hrel
  have S1 := Lib.hid hs
  clear hs S0
  by_cases hlt : k < l1.length
  · obtain ⟨i, hik⟩ : ∃ i, l1.getD k id0 = i := ⟨_, rfl⟩
    obtain ⟨g1, rfl, a0, a1⟩ := S1.out.rowCell (List.mem_cons_of_mem _ H1.out) hlt hik
    have hts : l1.take (k + 1) = l1.take k ++ [i] := by
     rw [List.take_succ_eq_append_getElem hlt, ← hik, List.getD_eq_getElem?_getD, List.getElem?_eq_getElem hlt]
     rfl
    have HTS : Hid (keptR (l1.take (k + 1)) l2 = keptR (l1.take k) l2 ++ if i ∈ l2 then [i] else []) := by rw [Hid, hts, keptR_snoc]
    have hfl : (keptR (l1.take k) l2).length ≤ k := by
     unfold keptR
     have := List.length_filter_le (fun i => decide (i ∈ l2)) (l1.take k)
     rw [List.length_take] at this
     omega
    generalize keptR (l1.take k) l2 = F at S1 HTS hfl ⊢
    have HH : Hid (Calls Tryz.prog 49 #[.slice A2 l2.length c2, .agg #[.int .u64 i.1, .int .i64 i.2]] wr (Gives (.bool (decide (i ∈ l2))) wr)) := rHas_any wr.heap.size l2 A2 c2 i.1 i.2 wr (rdID_of (S1.out.1.holds (riOb A2 l2) (List.mem_cons_of_mem _ H2.out))) (by omega)
    clear hts
    go_upto_if 18 with (go_at_call 49; (with_reducible refine HH.out.mono ?_); rintro e w2 ⟨rfl, hb2⟩; have S2 := Lib.hid (S1.out.on hb2); clear hb2 S1 HH)
    obtain ⟨g2, e2, a0', a1'⟩ := S2.out.rowCell (List.mem_cons_of_mem _ H1.out) hlt hik
    injection e2 with e2
    injection e2 with e2
    subst e2
    clear hik a0 a1
    obtain ⟨v, hv⟩ : ∃ v, decide (i ∈ l2) = v := ⟨_, rfl⟩
    cases v with
    | false =>
     rw [if_neg (of_decide_eq_false hv), List.append_nil] at HTS
     rw [hv]
     clear hv
     go_wp2_with fail
     go_roundw
     case rel =>
      refine ⟨k + 1, A, cap, by omega, by go_num, ?_, ?_⟩
      · rw [HTS.out]
      · rw [HTS.out]
        exact S2.out
     case measure => simp [intOf]; omega
    | true =>
     rw [if_pos (of_decide_eq_true hv)] at HTS
     rw [hv]
     clear hv
     obtain ⟨i1, gi, gz0, gz1, gz2⟩ := info_parts info31
     go_wp2_with (at_builtin; (refine wpList_rowS (t := 38) (e := 31) (size := 2) (bytes := 16) (i := i1) (S2.out.alloc _) 0 rfl (by rfl) (.tmp 19) (.tmp 24) (by rfl) Tryz.underlying38 gi gz0 gz1 gz2 rfl (by omega) (by rfl) ⟨w2.heap.size, 0, none⟩ 1 [.int .u64 i.1, .int .i64 i.2] (by rfl) rfl (two_new w2 _ _ 31 _ rfl) (encID_one i) (by unfold maxLen; omega) (by omega) ?_); refine halt_ ?_)
     intro v4 w4 s4
     obtain ⟨g4, c4, rfl⟩ := own_some (s4.get 0 rfl) (by omega)
     have S4 : Hid (SW b w0 (rowOb 31 2 (.slice (some ⟨g4, 0, none⟩) (F ++ [i]).length c4) (F ++ [i]).length ((F ++ [i]).flatMap encID) :: l) w4) := by
      rw [Hid, List.flatMap_append, List.length_append]
      exact s4
     clear s4 S2 a0' a1'
     go_wp2_with fail
     go_roundw
     case rel =>
      refine ⟨k + 1, some ⟨g4, 0, none⟩, c4, by omega, by go_num, ?_, ?_⟩
      · rw [HTS.out, List.length_append]
        rfl
      · rw [HTS.out]
        exact S4.out
     case measure => simp [intOf]; omega
  · obtain rfl : k = l1.length := by omega
    rw [List.take_length] at S1 ⊢
    go_wp2_with fail
    go_ret
    exact ⟨A, cap, rfl, S1.out.rowRi⟩
end
end Go.Proofs.YteabgcollokgjaaGreatDoor
