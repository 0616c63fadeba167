/- KN in one text. -/
import Derived.Test.YteabgcollokgjaaGreatDoorQ30
import Derived.Outline
namespace Go.Proofs.YteabgcollokgjaaGreatDoor
open Go.RowKit Go.MapKept Go.ChangeMaps Go.Shelf Go.Sort

abbrev nmS : ByteArray := ⟨#[115]⟩
theorem nmS_ok : nameV nmS = true := by decide +kernel
abbrev bAB : List UInt8 := [97, 98]
def iAB : ID := fpOf bAB
theorem iAB_ne : iAB ≠ (1, 1) := by decide +kernel
theorem iAB_ok : okID iAB := okID_fp bAB (by decide)
/-- Bytes of a constant, as they lie. -/
theorem rs_const (w : World) (g : Nat) (hg : g = w.heap.size) (bs : List UInt8) (fr : Nat × Nat) : RS (w.alloc (.cells (bs.map encU).toArray 5 fr)) (some ⟨g, 0, none⟩) bs := by
  subst hg
  refine ⟨(fun e => by cases e), fun ad e => ?_⟩
  injection e with e
  subst e
  refine ⟨_, 0, rfl, fun j hj => ?_⟩
  have : (w.alloc (.cells (bs.map encU).toArray 5 fr)).heap[w.heap.size]? = some (.cells (bs.map encU).toArray 5 fr) := heap_alloc_new w _
  rw [Nat.zero_add, cell_of_row _ _ j _ _ _ this, List.getElem?_toArray, List.getElem?_map, List.getElem?_eq_getElem hj, List.getD_eq_getElem?_getD, List.getElem?_eq_getElem hj]
  rfl
set_option maxRecDepth 100000 in
set_option maxHeartbeats 8000000 in
theorem known33_any (w : World) : Calls Tryz.prog 22 #[] w (fun e w' => e = .returned (.bool true) ∧ Below w.heap.size w w') := by
  have kc := fun (w : World) (C : Array Value) (n c : Nat) => Lib.run_convert_bytes_const (P := Tryz.prog) w 34 5 C n c Tryz.underlying34 Tryz.underlying5
  have kc1 := fun (w : World) (o : Obj) (C : Array Value) (n c : Nat) => (show Sem.run Tryz.prog (convert 34 34 (.slice (some ⟨w.heap.size + 1, 0, none⟩) n c)) ((w.alloc o).alloc (.cells C 5)) = .ok (.slice (some ⟨w.heap.size + 1, 0, none⟩) n c) ((w.alloc o).alloc (.cells C 5 (C.size, C.size + 1))) from by
    have := kc (w.alloc o) C n c
    simpa using this)
  go_enter Tryz.func22, Tryz.ntmps22
  go_wp2_with fail
  refine (New_L _).mono ?_
  rintro e w1 ⟨r, rfl, hs⟩
  have S1 := Lib.hid hs
  clear hs
  go_wp2_with fail
  refine (Open_L (ns := [fileN nmS]) S1.out nmS nmS_ok rfl rfl (fun _ => rfl) (by decide) (by simp) (by simp)).mono ?_
  rintro e w2 ⟨x0, rfl, hs, hc, hC, hF, hnm, _, hw, hby⟩
  have S2 := Lib.hid hs
  have C2 := Lib.hid hc
  have HC := Lib.hid hC
  have HF := Lib.hid hF
  have HN := Lib.hid hnm
  have HW := Lib.hid hw
  clear hs hc hC hF hnm hw hby S1
  go_wp2_with fail
  have S2b : Hid (SW w.heap.size w (x0.obs []) (w2.alloc (Obj.cells #[Value.int .u8 97, Value.int .u8 98] 5 (2, 3)))) := S2.out.alloc _
  refine (PutN_L S2b.out C2.out _ 2 bAB (rs_const w2 _ rfl bAB (2, 3)) (by decide) (by decide) (by rw [HC.out]; rfl) (by rw [HC.out]; decide)).mono ?_
  rintro e w3 ⟨rfl, d, hs, hc⟩
  have S3 := Lib.hid hs
  have C3 := Lib.hid hc
  clear hs hc S2b S2 C2
  rw [show fpOf bAB = iAB from rfl] at *
  obtain ⟨x1, HX⟩ : ∃ x1, Hid (putS x0 iAB d bAB = x1) := ⟨_, rfl⟩
  rw [HX.out] at S3 C3
  have hps : x0.ps = x1.ps := by rw [← HX.out]; rfl
  rw [hps]
  clear hps
  go_wp2_with fail
  have S3b := Lib.hid (((S3.out.newCell 31 #[.int .u64 iAB.1, .int .i64 iAB.2]).behind).alloc (Obj.cells #[Value.int .u8 97, Value.int .u8 98] 5 (2, 3)))
  have hv1 : valC x1 iAB = some bAB := by rw [← HX.out]; exact (put_val x0 bAB d iAB).trans (if_pos rfl)
  refine (PutS_L S3b.out C3.out _ 2 bAB (rs_const (w3.alloc (Obj.cells #[.int .u64 iAB.1, .int .i64 iAB.2] 31)) _ (by simp) bAB (2, 3)) (by decide) (by decide) hv1).mono ?_
  rintro e w4 ⟨rfl, hs⟩
  rw [show fpOf bAB = iAB from rfl]
  have S4 := Lib.hid (hs.alloc (Obj.cells #[.int .u64 iAB.1, .int .i64 iAB.2] 31))
  have HV1 := Lib.hid hv1
  have hw1 : x1.wait = 1 := by rw [← HX.out]; simp [putS, HW.out]
  have hC1 : x1.C = [(iAB, .pend d bAB)] := by rw [← HX.out]; simp [putS, HC.out, setL]
  have hF1 : x1.F = none := by rw [← HX.out]; exact HF.out
  have hdA := (C3.out.pA iAB d bAB (by rw [hC1]; simp)).1
  have hpn : pends x1.C = [iAB] := by rw [hC1]; simp [pends, Pl.A, hdA]
  clear hs S3b hv1
  have HP := Lib.hid (Pending_L S4.out 1 hw1)
  have HFL := Lib.hid (Flush_L S4.out C3.out (by rw [hpn]; simp) (by rw [hpn, hF1]; simp [flen, frSum]; decide))
  have HW1 := Lib.hid hw1
  have HC1 := Lib.hid hC1
  have HF1 := Lib.hid hF1
  clear hw1 hC1 hF1 hdA hpn
  go_wp2_with (first | (go_at_call 29; (with_reducible refine HP.out.mono ?_); rintro e w5 ⟨rfl, rfl⟩) | (go_at_call 35; (with_reducible refine HFL.out.mono ?_); refine halt_ ?_))
  rintro e w5 ⟨rfl, x2, hs, hc, hfl⟩
  rw [← hfl.ps]
  have S5 := Lib.hid hs
  have C5 := Lib.hid hc
  have hv2 : valC x2 iAB = some bAB := (hfl.val iAB).trans HV1.out
  have HV2 := Lib.hid hv2
  have HP2 := Lib.hid (Pending_L S5.out 0 hfl.wait)
  have HFL2 := Lib.hid hfl
  have HG := Lib.hid (Get_L S5.out C5.out iAB iAB_ok bAB hv2)
  have k0 : w5.cell? ⟨w3.heap.size, 0, none⟩ = some (.int .u64 iAB.1) := (S5.out.cell 4 rfl).cell 0
  have k1 : w5.cell? ⟨w3.heap.size, 1, none⟩ = some (.int .i64 iAB.2) := (S5.out.cell 4 rfl).cell 1
  clear hs hc hfl hv2 HP HFL
  go_wp2_with (first | (go_at_call 29; (with_reducible refine HP2.out.mono ?_); rintro e w6 ⟨rfl, rfl⟩) | (go_at_call 30; (with_reducible refine HG.out.mono ?_); refine halt_ ?_))
  rintro e w6 ⟨d1, rfl, hs⟩
  have S6 := Lib.hid hs
  have k0 : w6.cell? ⟨w3.heap.size, 0, none⟩ = some (.int .u64 iAB.1) := (S6.out.cell 5 rfl).cell 0
  have k1 : w6.cell? ⟨w3.heap.size, 1, none⟩ = some (.int .i64 iAB.2) := (S6.out.cell 5 rfl).cell 1
  clear hs HP2 HG
  go_wp2_with fail
  have S7 := Lib.hid ((S6.out.newIds2 iAB (1, 1)).behind)
  have has2 : ∀ i, (asc x2.C i).isSome = decide (iAB = i) := fun i => by
    rw [HFL2.out.has i, HC1.out]
    simp only [asc]
    by_cases e : iAB = i <;> simp [e]
  have hone : goneL x2.C [iAB, (1, 1)] = [(iAB, true)] := by
    have h1 := has2 iAB
    have h2 := has2 (1, 1)
    rw [decide_eq_true rfl] at h1
    rw [decide_eq_false iAB_ne] at h2
    simp [goneL, gstep, h1, h2, setL]
  refine (Rem_L S7.out C5.out _ 2 [iAB, (1, 1)] (by simp) (fun i hi => ?_) (by simp)).mono ?_
  · simp only [List.mem_cons, List.not_mem_nil, or_false] at hi
    rcases hi with rfl | rfl
    · exact iAB_ok
    · exact okID_of (by decide) (by decide) (by decide) (by decide)
  rintro e w7 ⟨he, x3, hs, hc, hgn⟩
  rw [hone] at he
  subst he
  rw [← hgn.ps]
  have S8 := Lib.hid hs
  have C8 := Lib.hid hc
  have hno : asc x3.C iAB = none := by
    have := hgn.has iAB
    cases hx : asc x3.C iAB with
    | none => rfl
    | some v => rw [hx] at this; simp at this
  have k0 : w7.cell? ⟨w3.heap.size, 0, none⟩ = some (.int .u64 iAB.1) := (S8.out.cell 6 rfl).cell 0
  have k1 : w7.cell? ⟨w3.heap.size, 1, none⟩ = some (.int .i64 iAB.2) := (S8.out.cell 6 rfl).cell 1
  have HG := Lib.hid (GetN_L S8.out C8.out iAB iAB_ok hno)
  clear hs hc hgn hno hone has2
  go_wp2_with (go_at_call 30; (with_reducible refine HG.out.mono ?_); refine halt_ ?_)
  rintro e w8 ⟨d2, rfl, hs⟩
  have S9 := Lib.hid hs
  have v1 := conv_rb (S9.out.get 6 (o := bufOb d1 bAB) rfl)
  clear hs HG k0 k1
  go_wp2_with fail
  go_ret
  exact ⟨rfl, S9.out.2⟩
end Go.Proofs.YteabgcollokgjaaGreatDoor
