/- Contracts of the walk, part 27. -/
import Derived.Lib.SlBytesConst
import Derived.Test.YtmiknfneeipkeaaGreatR26
import Derived.Test.YtmiknfneeipkeaaGreatR16
import Derived.Test.YtmiknfneeipkeaaGreatR05
import Derived.Test.YtmiknfneeipkeaaGreatR02
import Derived.Test.YtmiknfneeipkeaaGreatR22
import Derived.Test.YtmiknfneeipkeaaGreatR24
namespace Go.Proofs.YtmiknfneeipkeaaGreat
open Go.RowKit Go.MapKept Go.ChangeMaps
def exR (i : Int) : Rv := ⟨pA, i, 10 * i, actI i, 1, false, false, false, i, 1, ⟨#[]⟩, 0⟩
theorem ok_ex (i : Int) (h0 : 0 ≤ i) (h1 : i ≤ 1000) : okR (exR i) := ⟨okID_of h0 (by simp only [Rv.id, exR]; omega) (by simp only [Rv.id, exR]; omega) (by simp only [Rv.id, exR]; omega), okS_pA, WalkArith.wf_i64 ⟨by simp only [Rv.fi, exR]; omega, by simp only [Rv.fi, exR]; omega⟩⟩
def ex5 : List Rv := [exR 1, exR 2, exR 3, exR 4, exR 5]
def mem5 : List RvO := [⟨exR 1, ok_ex 1 (by omega) (by omega)⟩, ⟨exR 2, ok_ex 2 (by omega) (by omega)⟩, ⟨exR 3, ok_ex 3 (by omega) (by omega)⟩, ⟨exR 4, ok_ex 4 (by omega) (by omega)⟩, ⟨exR 5, ok_ex 5 (by omega) (by omega)⟩]
theorem revs5 : revs 5 = [1, 2, 3, 4, 5] := by rfl
theorem ex5_enc : ex5.flatMap Rv.enc = (revs 5).flatMap encR := by rw [revs5]; rfl
theorem mem5_enc : mem5.flatMap RvO.enc = (revs 5).flatMap encR := by rw [revs5]; rfl
theorem sel5 : selOf (selAll 2 30 (keptOf []) (fun _ => mem5) [(pA, 1)]) ex5 = [exR 1, exR 2] := by rfl
section
variable {b : Nat} {w0 w : World} {l : List Ob} {A : Option Addr} {cm : Nat}
theorem rvOb_eq : rvOb A 5 = vsOb 111 12 A 5 (ex5.flatMap Rv.enc) := by
  rw [ex5_enc]
  rfl
theorem select5 (h : SW b w0 l w) (hv : rvOb A 5 ∈ l) : Calls Tryz.prog 51 #[.agg #[.slice A 5 cm, .slice none 0 0], .agg #[.int .i64 2, .int .i64 30], .slice none 0 0] w (fun e w' => ∃ A' c', e = .returned (.tuple #[.slice A' 2 c', .int .i64 0]) ∧ SW b w0 (rowOb 111 12 (.slice A' 2 c') 2 (encR 1 ++ encR 2) :: l) w') := by
  have h2 : SW b w0 (vsOb 36 2 none 0 (([] : List ID).flatMap encID) :: l) w := h.also (o' := vsOb 36 2 none 0 []) RowV.nil (fun _ hi => hi) (fun i hi => absurd hi.1 (by omega)) (fun i hi => absurd hi.1 (by omega))
  refine (select_any (m := 5) (A := A) (nk := 0) (K := none) (dO := rvOb A 5) (rs := ex5) (fs := [(pA, 1)]) (mem := fun _ => mem5) (ks := []) h2 (List.mem_cons_of_mem _ hv) (fun _ hi => hi) (by rw [← rvOb_eq]; exact List.mem_cons_of_mem _ hv) rfl (by omega) (List.mem_cons_self ..) rfl (by omega) (by simp) ?_ ?_ (by simp) (by omega) (by omega) ?_ ?_).mono ?_
  · intro r hr
    simp only [ex5, List.mem_cons, List.not_mem_nil, or_false] at hr
    rcases hr with rfl | rfl | rfl | rfl | rfl <;> exact ok_ex _ (by omega) (by omega)
  · intro f _
    simp [mem5]
  · intro b w0 W l hs hd
    exact lines_any hs hd (by omega) (by omega)
  · intro f hf b w0 W l hs hd
    obtain rfl := List.mem_singleton.1 hf
    rw [mem5_enc]
    exact line_any hs hd (by omega) (by omega)
  · rintro e w' ⟨A', c', rfl, hs⟩
    rw [sel5] at hs
    refine ⟨A', c', by rw [sel5]; rfl, ?_⟩
    have hp := (SW.few (pre := [_, _]) hs [0] (n := 2) rfl (by decide) (by decide))
    exact hp
end
end Go.Proofs.YtmiknfneeipkeaaGreat
namespace Go.Proofs.YtmiknfneeipkeaaGreat
open Go.RowKit Go.MapKept Go.ChangeMaps
attribute [local go_sem] wext_cell
set_option maxRecDepth 100000 in
theorem len64_0 (w : World) : Calls Tryz.prog 165 #[.int .u64 0] w (fun e w' => e = .returned (.int .i64 0) ∧ w = w') := by
  go_enter Tryz.func165, Tryz.ntmps165
  go_wp2_with fail
  go_ret
  exact ⟨by kernel_rfl, rfl⟩
theorem len_0 (w : World) : Calls Tryz.prog 127 #[.int .u64 0] w (fun e w' => e = .returned (.int .i64 0) ∧ w = w') := by
  go_enter Tryz.func127, Tryz.ntmps127
  go_wp2_with (go_at_call 165; (with_reducible refine (len64_0 _).mono ?_); refine halt_ ?_)
  rintro e w3 ⟨rfl, rfl⟩
  go_wp2_with fail
  go_ret
  exact ⟨rfl, rfl⟩
theorem insort156 (w : World) (f : Value) : Calls Tryz.prog 156 #[.slice none 0 0, .int .i64 0, .int .i64 0, f] w (fun e w' => e = .returned (.tuple #[]) ∧ w = w') := by
  go_enter Tryz.func156, Tryz.ntmps156
  go_wp2_with fail
  go_loopw [8] (fun s8 wr => s8 = .int .i64 1 ∧ w = wr) (fun _ _ => 0)
  case atStart => exact ⟨rfl, rfl⟩
  case round =>
    obtain ⟨rfl, rfl⟩ := hrel
    go_wp2_with fail
    refine bodyPost_end (v := .tuple #[]) (results_none rfl _ _ _) rfl ?_
    exact ⟨rfl, rfl⟩
theorem insort168 (w : World) (f : Value) : Calls Tryz.prog 168 #[.slice none 0 0, .int .i64 0, .int .i64 0, f] w (fun e w' => e = .returned (.tuple #[]) ∧ w = w') := by
  go_enter Tryz.func168, Tryz.ntmps168
  go_wp2_with fail
  go_loopw [8] (fun s8 wr => s8 = .int .i64 1 ∧ w = wr) (fun _ _ => 0)
  case atStart => exact ⟨rfl, rfl⟩
  case round =>
    obtain ⟨rfl, rfl⟩ := hrel
    go_wp2_with fail
    refine bodyPost_end (v := .tuple #[]) (results_none rfl _ _ _) rfl ?_
    exact ⟨rfl, rfl⟩
theorem pdq126 (w : World) (f : Value) (d : Int) : Calls Tryz.prog 126 #[.slice none 0 0, .int .i64 0, .int .i64 0, .int .i64 d, f] w (fun e w' => e = .returned (.tuple #[]) ∧ w = w') := by
  go_enter Tryz.func126, Tryz.ntmps126
  go_wp2_with fail
  go_loopw [1, 2, 3, 10, 11] (fun s1 s2 s3 s10 s11 wr => s1 = .int .i64 0 ∧ s2 = .int .i64 0 ∧ s3 = .int .i64 d ∧ s10 = .bool true ∧ s11 = .bool true ∧ w = wr) (fun _ _ _ _ _ _ => 0)
  case atStart => exact ⟨rfl, rfl, rfl, rfl, rfl, rfl⟩
  case round =>
    obtain ⟨rfl, rfl, rfl, rfl, rfl, rfl⟩ := hrel
    go_wp2_with (go_at_call 156; (with_reducible refine (insort156 _ _).mono ?_); refine halt_ ?_)
    rintro e w3 ⟨rfl, rfl⟩
    go_wp2_with fail
    refine bodyPost_ret (v := .tuple #[]) (results_none rfl _ _ _) rfl ?_
    exact ⟨rfl, rfl⟩
theorem pdq129 (w : World) (f : Value) (d : Int) : Calls Tryz.prog 129 #[.slice none 0 0, .int .i64 0, .int .i64 0, .int .i64 d, f] w (fun e w' => e = .returned (.tuple #[]) ∧ w = w') := by
  go_enter Tryz.func129, Tryz.ntmps129
  go_wp2_with fail
  go_loopw [1, 2, 3, 10, 11] (fun s1 s2 s3 s10 s11 wr => s1 = .int .i64 0 ∧ s2 = .int .i64 0 ∧ s3 = .int .i64 d ∧ s10 = .bool true ∧ s11 = .bool true ∧ w = wr) (fun _ _ _ _ _ _ => 0)
  case atStart => exact ⟨rfl, rfl, rfl, rfl, rfl, rfl⟩
  case round =>
    obtain ⟨rfl, rfl, rfl, rfl, rfl, rfl⟩ := hrel
    go_wp2_with (go_at_call 168; (with_reducible refine (insort168 _ _).mono ?_); refine halt_ ?_)
    rintro e w3 ⟨rfl, rfl⟩
    go_wp2_with fail
    refine bodyPost_ret (v := .tuple #[]) (results_none rfl _ _ _) rfl ?_
    exact ⟨rfl, rfl⟩
theorem insort166 (w : World) (f : Value) : Calls Tryz.prog 166 #[.slice none 0 0, .int .i64 0, .int .i64 0, f] w (fun e w' => e = .returned (.tuple #[]) ∧ w = w') := by
  go_enter Tryz.func166, Tryz.ntmps166
  go_wp2_with fail
  go_loopw [8] (fun s8 wr => s8 = .int .i64 1 ∧ w = wr) (fun _ _ => 0)
  case atStart => exact ⟨rfl, rfl⟩
  case round =>
    obtain ⟨rfl, rfl⟩ := hrel
    go_wp2_with fail
    refine bodyPost_end (v := .tuple #[]) (results_none rfl _ _ _) rfl ?_
    exact ⟨rfl, rfl⟩
theorem stable128 (w : World) (f : Value) : Calls Tryz.prog 128 #[.slice none 0 0, .int .i64 0, f] w (fun e w' => e = .returned (.tuple #[]) ∧ w = w') := by
  go_enter Tryz.func128, Tryz.ntmps128
  go_wp2_with fail
  go_loopw [7, 8] (fun s7 s8 wr => s7 = .int .i64 0 ∧ s8 = .int .i64 20 ∧ w = wr) (fun _ _ _ => 0)
  case atStart => exact ⟨rfl, rfl, rfl⟩
  case round =>
    obtain ⟨rfl, rfl, rfl⟩ := hrel
    go_wp2_with (go_at_call 166; (with_reducible refine (insort166 _ _).mono ?_); refine halt_ ?_)
    rintro e w3 ⟨rfl, rfl⟩
    go_wp2_with fail
    go_loopw [6] (fun s6 wr => s6 = .int .i64 20 ∧ w = wr) (fun _ _ => 0)
    case atStart => exact ⟨rfl, rfl⟩
    case round =>
      obtain ⟨rfl, rfl⟩ := hrel
      go_wp2_with fail
      refine bodyPost_end (v := .tuple #[]) (results_none rfl _ _ _) rfl ?_
      exact ⟨rfl, rfl⟩
theorem sortF82 (w : World) (f : Value) : Calls Tryz.prog 82 #[.slice none 0 0, f] w (fun e w' => e = .returned (.tuple #[]) ∧ w = w') := by
  go_enter Tryz.func82, Tryz.ntmps82
  go_wp2_with (go_at_call 127; (with_reducible refine (len_0 _).mono ?_); refine halt_ ?_)
  rintro e w3 ⟨rfl, rfl⟩
  go_wp2_with (go_at_call 126; (with_reducible refine (pdq126 _ _ _).mono ?_); refine halt_ ?_)
  rintro e w3 ⟨rfl, rfl⟩
  go_wp2_with fail
  refine bodyPost_end (v := .tuple #[]) (results_none rfl _ _ _) rfl ?_
  exact ⟨rfl, rfl⟩
theorem sortF87 (w : World) (f : Value) : Calls Tryz.prog 87 #[.slice none 0 0, f] w (fun e w' => e = .returned (.tuple #[]) ∧ w = w') := by
  go_enter Tryz.func87, Tryz.ntmps87
  go_wp2_with (go_at_call 127; (with_reducible refine (len_0 _).mono ?_); refine halt_ ?_)
  rintro e w3 ⟨rfl, rfl⟩
  go_wp2_with (go_at_call 129; (with_reducible refine (pdq129 _ _ _).mono ?_); refine halt_ ?_)
  rintro e w3 ⟨rfl, rfl⟩
  go_wp2_with fail
  refine bodyPost_end (v := .tuple #[]) (results_none rfl _ _ _) rfl ?_
  exact ⟨rfl, rfl⟩
theorem sortS84 (w : World) (f : Value) : Calls Tryz.prog 84 #[.slice none 0 0, f] w (fun e w' => e = .returned (.tuple #[]) ∧ w = w') := by
  go_enter Tryz.func84, Tryz.ntmps84
  go_wp2_with (go_at_call 128; (with_reducible refine (stable128 _ _).mono ?_); refine halt_ ?_)
  rintro e w3 ⟨rfl, rfl⟩
  go_wp2_with fail
  refine bodyPost_end (v := .tuple #[]) (results_none rfl _ _ _) rfl ?_
  exact ⟨rfl, rfl⟩
theorem compact_none (w : World) : Calls Tryz.prog 83 #[.slice none 0 0] w (fun e w' => e = .returned (.slice none 0 0) ∧ w = w') := by
  go_enter Tryz.func83, Tryz.ntmps83
  go_wp2_with fail
  go_ret
  exact ⟨rfl, rfl⟩
theorem chunksOf_none (w : World) : Calls Tryz.prog 39 #[.slice none 0 0] w (fun e w' => e = .returned (.tuple #[.slice none 0 0, .int .i64 0]) ∧ w = w') := by
  go_enter Tryz.func39, Tryz.ntmps39
  go_wp2_with fail
  go_loopw [4, 10] (fun s4 s10 wr => s4 = .slice none 0 0 ∧ s10 = .int .i64 0 ∧ w = wr) (fun _ _ _ => 0)
  case atStart => exact ⟨rfl, rfl, rfl⟩
  case round =>
    obtain ⟨rfl, rfl, rfl⟩ := hrel
    go_wp2_with (go_at_call 82; (with_reducible refine (sortF82 _ _).mono ?_); refine halt_ ?_)
    rintro e w3 ⟨rfl, rfl⟩
    go_wp2_with (go_at_call 83; (with_reducible refine (compact_none _).mono ?_); refine halt_ ?_)
    rintro e w3 ⟨rfl, rfl⟩
    go_wp2_with fail
    refine bodyPost_ret (results_tmp2 rfl _ _ _) rfl ?_
    exact ⟨rfl, rfl⟩
theorem contentsOf_none (w : World) : Calls Tryz.prog 40 #[.slice none 0 0] w (fun e w' => e = .returned (.tuple #[.slice none 0 0, .bool true]) ∧ w = w') := by
  go_enter Tryz.func40, Tryz.ntmps40
  go_wp2_with fail
  go_loopw [4, 15] (fun s4 s15 wr => s4 = .slice none 0 0 ∧ s15 = .int .i64 0 ∧ w = wr) (fun _ _ _ => 0)
  case atStart => exact ⟨rfl, rfl, rfl⟩
  case round =>
    obtain ⟨rfl, rfl, rfl⟩ := hrel
    go_wp2_with (go_at_call 84; (with_reducible refine (sortS84 _ _).mono ?_); refine halt_ ?_)
    rintro e w3 ⟨rfl, rfl⟩
    go_wp2_with fail
    go_loopw [9, 35] (fun s9 s35 wr => s9 = .slice none 0 0 ∧ s35 = .int .i64 0 ∧ w = wr) (fun _ _ _ => 0)
    case atStart => exact ⟨rfl, rfl, rfl⟩
    case round =>
      obtain ⟨rfl, rfl, rfl⟩ := hrel
      go_wp2_with fail
      refine bodyPost_ret (results_tmp2 rfl _ _ _) rfl ?_
      exact ⟨rfl, rfl⟩
theorem choose_none (w : World) : Calls Tryz.prog 41 #[.slice none 0 0, .slice none 0 0] w (fun e w' => e = .returned (.tuple #[.slice none 0 0, .bool true]) ∧ w' = w.alloc (.map #[] 0)) := by
  have hmk : ∀ (W : World), (Instr.makeMap 146 none).run Tryz.prog W = .ok (.map (some W.heap.size)) (W.alloc (.map #[] 0)) := fun W => by simp [Instr.makeMap, run_underlying Tryz.underlying146]
  go_enter Tryz.func41, Tryz.ntmps41
  go_wp2_with fail
  go_loopw [15] (fun s15 wr => s15 = .int .i64 0 ∧ wr = w.alloc (.map #[] 0)) (fun _ _ => 0)
  case atStart => exact ⟨rfl, rfl⟩
  case round =>
    obtain ⟨rfl, rfl⟩ := hrel
    go_wp2_with fail
    go_loopw [9, 24] (fun s9 s24 wr => s9 = .slice none 0 0 ∧ s24 = .int .i64 0 ∧ wr = w.alloc (.map #[] 0)) (fun _ _ _ => 0)
    case atStart => exact ⟨rfl, rfl, rfl⟩
    case round =>
      obtain ⟨rfl, rfl, rfl⟩ := hrel
      go_wp2_with (go_at_call 87; (with_reducible refine (sortF87 _ _).mono ?_); refine halt_ ?_)
      rintro e w3 ⟨rfl, rfl⟩
      go_wp2_with fail
      refine bodyPost_ret (results_tmp2 rfl _ _ _) rfl ?_
      exact ⟨rfl, rfl⟩
end Go.Proofs.YtmiknfneeipkeaaGreat
namespace Go.Proofs.YtmiknfneeipkeaaGreat
open Go.RowKit Go.MapKept Go.ChangeMaps
attribute [local go_sem] wext_cell
def packH : List UInt8 := [83, 89, 80, 75, 0] ++ putU 0
theorem packH_len : packH.length = 6 := by
  rw [packH, putU]
  rfl
set_option maxRecDepth 100000 in
set_option maxHeartbeats 4000000 in
theorem encode_none (w : World) : Calls Tryz.prog 42 #[.slice none 0 0] w (fun e w' => ∃ d, e = .returned (.tuple #[vB d, .int .i64 0]) ∧ Buf w w' d (packH ++ putU (fpSum packH))) := by
  have R0 : Hid (RX (w.alloc (.cells #[.int .u8 83, .int .u8 89, .int .u8 80, .int .u8 75] 5 (4, 5))) ⟨some ⟨w.heap.size, 0, none⟩, 4, 4⟩ [83, 89, 80, 75]) := full_rx w #[.int .u8 83, .int .u8 89, .int .u8 80, .int .u8 75] (4, 5) _ 4 rfl (by decide) rfl
  have B0 : Hid (Below w.heap.size w (w.alloc (.cells #[.int .u8 83, .int .u8 89, .int .u8 80, .int .u8 75] 5 (4, 5)))) := bel1q _ _
  have hcv := Lib.run_convert_bytes_const (P := Tryz.prog) w 40 5 #[.int .u8 83, .int .u8 89, .int .u8 80, .int .u8 75] 4 4 Tryz.underlying40 Tryz.underlying5
  go_enter Tryz.func42, Tryz.ntmps42
  go_upto_region 2 with fail
  clear hcv
  obtain ⟨w1, HW⟩ : ∃ W, Hid (w.alloc (.cells #[.int .u8 83, .int .u8 89, .int .u8 80, .int .u8 75] 5 (4, 5)) = W) := ⟨_, rfl⟩
  rw [HW.out] at R0 B0 ⊢
  clear HW
  go_wp2_with fail
  go_loopw [4, 11] (fun s4 s11 wr => s4 = .slice (some ⟨w.heap.size, 0, none⟩) 4 4 ∧ s11 = .int .i64 0 ∧ wr = w1) (fun _ _ _ => 0)
  case atStart => exact ⟨rfl, rfl, rfl⟩
  case round =>
    obtain ⟨rfl, rfl, rfl⟩ := hrel
    have S1 := Lib.hid (sb_one wr 0 0 (by decide))
    go_wp2_with (at_builtin; refine halt_q ?_)
    refine wpList_buf0 (w0 := w) (R0.out.on (bel1q _ _)) (fun g hg => (by injection hg with hg; exact Nat.le_of_eq hg)) (B0.out.trans ((bel1q wr _).mono B0.out.size)) rfl _ _ rfl rfl (some ⟨wr.heap.size, 0, none⟩) 1 1 [0] rfl rfl (by decide) S1.out (by simp) ?_
    intro d2 w2 hb2
    have U2 := Lib.hid hb2
    clear hb2 S1 R0 B0
    unfold vB
    have HP : Hid (Calls Tryz.prog 43 #[.slice none 0 0, .int .u64 0] w2 (NewB (putU 0) w2)) := Lib.hid (PutUint_nil 0 w2 (by omega))
    go_wp2_with (go_at_call 43; (with_reducible refine HP.out.mono ?_); refine halt_ ?_)
    rintro e w3 ⟨d3, rfl, hr, hd, hb⟩
    have R3 := Lib.hid hr
    have U3 := Lib.hid (U2.out.on hb)
    have hl3 := Lib.hid hr.1
    clear hr hd hb HP U2
    unfold vB
    go_wp2_with (at_builtin; (refine wpList_buf U3.out rfl _ _ rfl rfl d3.A d3.len d3.cap (putU 0) rfl hl3.out R3.out.src (by rw [← hl3.out]; simp [putU]) ?_); refine halt_ ?_)
    intro d4 w4 hb4
    have hb4 : Buf w w4 d4 packH := hb4
    have U4 := Lib.hid hb4
    have HS : Hid (Calls Tryz.prog 77 #[.slice d4.A d4.len d4.cap] w4 (fun e w' => e = .returned (.int .u64 ((fpSum packH : Nat) : Int)) ∧ w4 = w')) := by
      rw [hb4.len]
      exact Sum_any d4.A d4.cap packH w4 hb4.rb.rs (by rw [packH_len]; omega)
    clear hb4 U3 R3 hl3
    unfold vB
    go_wp2_with (go_at_call 77; (with_reducible refine HS.out.mono ?_); refine halt_ ?_)
    rintro e w5 ⟨rfl, rfl⟩
    have HP := Lib.hid (PutUint_nil (fpSum packH) w4 (by have := fpSum_lt packH; unfold pP at this; omega))
    go_wp2_with (go_at_call 43; (with_reducible refine HP.out.mono ?_); refine halt_ ?_)
    rintro e w5 ⟨d5, rfl, hr, hd, hb⟩
    have R5 := Lib.hid hr
    have U5 := Lib.hid (U4.out.on hb)
    have hl5 := Lib.hid hr.1
    have hu5 := Lib.hid (show (putU (fpSum packH)).length ≤ 10 from putU_len (k := 9) (by have := fpSum_lt packH; unfold pP at this; omega))
    clear hr hd hb HP U4
    unfold vB
    go_wp2_with (at_builtin; (refine wpList_buf U5.out rfl _ _ rfl rfl d5.A d5.len d5.cap (putU (fpSum packH)) rfl hl5.out R5.out.src (by rw [packH_len, ← hl5.out]; have := hu5.out; omega) ?_); refine halt_ ?_)
    intro d6 w6 hb6
    have U6 := Lib.hid hb6
    have hl6 : d6.len ≤ 16 := by
      rw [hb6.len, List.length_append, packH_len]
      have := hu5.out
      omega
    clear hb6 U5 R5 hl5
    unfold vB
    go_wp2_with fail
    refine bodyPost_ret (results_tmp2 rfl _ _ _) rfl ?_
    exact ⟨d6, rfl, U6.out⟩
end Go.Proofs.YtmiknfneeipkeaaGreat
namespace Go.Proofs.YtmiknfneeipkeaaGreat
open Go.RowKit Go.MapKept Go.ChangeMaps
attribute [local go_sem] wext_cell
def volN : List UInt8 := [83, 89, 65, 82] ++ putU 0 ++ (packH ++ putU (fpSum packH))
set_option maxRecDepth 100000 in
set_option maxHeartbeats 4000000 in
theorem store_none (w : World) : Calls Tryz.prog 11 #[.slice none 0 0, .slice none 0 0] w (fun e w' => ∃ d, e = .returned (.tuple #[vB d, .int .i64 0]) ∧ Buf w w' d volN) := by
  go_enter Tryz.func11, Tryz.ntmps11
  go_wp2_with (go_at_call 39; (with_reducible refine (chunksOf_none _).mono ?_); refine halt_ ?_)
  rintro e w1 ⟨rfl, rfl⟩
  go_wp2_with (go_at_call 40; (with_reducible refine (contentsOf_none _).mono ?_); refine halt_ ?_)
  rintro e w1 ⟨rfl, rfl⟩
  go_wp2_with (go_at_call 41; (with_reducible refine (choose_none _).mono ?_); refine halt_ ?_)
  rintro e w1 ⟨rfl, HW⟩
  have B1 : Hid (Below w.heap.size w w1) := by
    rw [HW]
    exact bel1q _ _
  clear HW
  go_wp2_with (go_at_call 42; (with_reducible refine (encode_none _).mono ?_); refine halt_ ?_)
  rintro e w2 ⟨d2, rfl, hu⟩
  have U2 := Lib.hid hu
  have B2 := Lib.hid (B1.out.trans (hu.bl.mono B1.out.size))
  clear hu
  unfold vB
  have R0 : Hid (RX (w2.alloc (.cells #[.int .u8 83, .int .u8 89, .int .u8 65, .int .u8 82] 5 (4, 5))) ⟨some ⟨w2.heap.size, 0, none⟩, 4, 4⟩ [83, 89, 65, 82]) := full_rx w2 #[.int .u8 83, .int .u8 89, .int .u8 65, .int .u8 82] (4, 5) _ 4 rfl (by decide) rfl
  have hcv := Lib.run_convert_bytes_const (P := Tryz.prog) w2 40 5 #[.int .u8 83, .int .u8 89, .int .u8 65, .int .u8 82] 4 4 Tryz.underlying40 Tryz.underlying5
  have HP : Hid (Calls Tryz.prog 43 #[.slice (some ⟨w2.heap.size, 0, none⟩) 4 4, .int .u64 0] (w2.alloc (.cells #[.int .u8 83, .int .u8 89, .int .u8 65, .int .u8 82] 5 (4, 5))) (NewB ([83, 89, 65, 82] ++ putU 0) (w2.alloc (.cells #[.int .u8 83, .int .u8 89, .int .u8 65, .int .u8 82] 5 (4, 5))))) := by
    refine Lib.hid (PutUint_any _ 4 [83, 89, 65, 82] 0 _ ?_ (by decide) (by omega))
    rcases R0.out with h | h
    · exact h.src
    · exact h.2.2.2
  go_wp2_with (go_at_call 43; (with_reducible refine HP.out.mono ?_); refine halt_ ?_)
  rintro e w3 ⟨d3, rfl, hr, hd, hb⟩
  have U3 : Hid (Buf w w3 d3 ([83, 89, 65, 82] ++ putU 0)) := Lib.hid ⟨hr, fun g hg => by
    have h1 := hd g hg
    have h2 := B2.out.size
    simp at h1
    omega, B2.out.trans (((bel1q w2 _).trans (hb.mono (by simp))).mono B2.out.size)⟩
  have R2 := Lib.hid ((U2.out.rb.on (bel1q w2 _)).on hb)
  have hl2 := Lib.hid U2.out.rb.1
  clear hr hd hb HP hcv R0 U2 B2 B1
  unfold vB
  have hu5 := Lib.hid (show (putU (fpSum packH)).length ≤ 10 from putU_len (k := 9) (by have := fpSum_lt packH; unfold pP at this; omega))
  have hbd : Hid (([83, 89, 65, 82] ++ putU 0).length + d2.len ≤ 1099511627776) := by
    rw [Hid, ← hl2.out, List.length_append, List.length_append, packH_len]
    have h1 := hu5.out
    have h2 : (putU 0).length ≤ 10 := putU_len (k := 9) (by omega)
    simp
    omega
  go_wp2_with fail
  go_loopw [12, 56] (fun s12 s56 wr => s12 = .slice d3.A d3.len d3.cap ∧ s56 = .int .i64 0 ∧ wr = w3) (fun _ _ _ => 0)
  case atStart => exact ⟨rfl, rfl, rfl⟩
  case round =>
    obtain ⟨rfl, rfl, rfl⟩ := hrel
    go_wp2_with (at_builtin; (refine wpList_buf U3.out rfl _ _ rfl rfl d2.A d2.len d2.cap (packH ++ putU (fpSum packH)) rfl hl2.out R2.out.src hbd.out ?_); refine halt_ ?_)
    intro d4 w4 hb4
    have U4 : Hid (Buf w w4 d4 volN) := Lib.hid hb4
    clear hb4
    unfold vB
    go_wp2_with fail
    refine bodyPost_ret (results_tmp2 rfl _ _ _) rfl ?_
    exact ⟨d4, rfl, U4.out⟩
end Go.Proofs.YtmiknfneeipkeaaGreat
namespace Go.Proofs.YtmiknfneeipkeaaGreat
open Go.RowKit Go.MapKept Go.ChangeMaps
attribute [local go_sem] wext_cell
set_option maxRecDepth 100000 in
set_option maxHeartbeats 8000000 in
theorem known_any (w : World) : Calls Tryz.prog 13 #[] w (fun e w' => e = .returned (.bool true) ∧ Below w.heap.size w w') := by
  have S0 := Lib.hid ((SW.refl (Sep.nil w (Nat.le_refl _))).newCell 96 #[.slice none 0 0, .slice none 0 0])
  go_enter Tryz.func13, Tryz.ntmps13
  go_upto_region 2 with fail
  obtain ⟨w1, HW⟩ : ∃ W, Hid (w.alloc (.cells #[.slice none 0 0, .slice none 0 0] 96) = W) := ⟨_, rfl⟩
  rw [HW.out] at S0 ⊢
  clear HW
  obtain ⟨g1, HG1⟩ : ∃ x, Hid (w.heap.size = x) := ⟨_, rfl⟩
  rw [HG1.out] at S0 ⊢
  go_wp2_with fail
  go_loopw [2] (fun s2 wr => ∃ (m : Nat) (A : Option Addr) (cm : Nat), s2 = .int .i64 ((m : Int) + 1) ∧ m ≤ 5 ∧ (m = 0 → A = none ∧ cm = 0) ∧ SW g1 w (rvOb A m :: cellOb g1 96 #[.slice A m cm, .slice none 0 0] :: []) wr) (fun s2 _ => 6 - (intOf s2).toNat)
  case atStart => exact ⟨0, none, 0, rfl, by omega, fun _ => ⟨rfl, rfl⟩, S0.out.also (RowV.nil) (fun _ hi => hi) (fun i hi => absurd hi.1 (by omega)) (fun i hi => absurd hi.1 (by omega))⟩
  case round =>
    obtain ⟨m, A, cm, rfl, hm5, hA, hs⟩ := hrel
    clear S0
    have S1 := Lib.hid hs
    clear hs
    by_cases hlt : m < 5
    · obtain ⟨s, hs⟩ : ∃ s, Hid ((m : Int) + 1 = s) := ⟨_, rfl⟩
      obtain ⟨bs, hbs⟩ : ∃ x, Hid ((m : Int) = x) := ⟨_, rfl⟩
      obtain ⟨n, hn⟩ : ∃ x, Hid (10 * ((m : Int) + 1) = x) := ⟨_, rfl⟩
      rw [hs.out]
      have h1 : 1 ≤ s ∧ s ≤ 5 := by have := hs.out; omega
      obtain ⟨h1, h2⟩ := h1
      have h3 : s - 1 = bs := by have := hs.out; have := hbs.out; omega
      have h4 : 10 * s = n := by have := hs.out; have := hn.out; omega
      have c0 : wr.cell? ⟨g1, 0, none⟩ = some (.slice A m cm) := (S1.out.cell 1 rfl).cell 0
      have c1 : wr.cell? ⟨g1, 1, none⟩ = some (.slice none 0 0) := (S1.out.cell 1 rfl).cell 1
      have HA0 := Lib.hid hA
      clear hA
      have S2a := Lib.hid (S1.out.newCell 100 (cEd 2 s bs))
      go_upto_region 6 with fail
      clear c0 c1
      obtain ⟨w2, HW⟩ : ∃ W, Hid (wr.alloc (.cells #[.string pA, .int .i64 2, .int .i64 1, .bool false, .bool false, .bool false, .int .u64 s, .int .i64 1, .int .i64 bs, .string ⟨#[]⟩, .int .i64 0, .int .i64 0] 100) = W) := ⟨_, rfl⟩
      obtain ⟨g3, HG⟩ : ∃ x, Hid (wr.heap.size = x) := ⟨_, rfl⟩
      rw [HW.out, HG.out] at S2a ⊢
      clear HW HG S1
      have S2 := S2a
      clear S2a
      by_cases hm0 : m = 0
      · obtain rfl : s = 1 := by have := hs.out; omega
        obtain rfl : n = 10 := by have := hn.out; omega
        have HA : Hid (actI ((m : Int) + 1) = 1) := by rw [Hid, actI, if_pos (by omega)]
        clear hm0
        have f1 := (S2.out.cell 0 rfl).frozen 1
        have e1 : w2.cell? ⟨g3, 1, none⟩ = some (.int .i64 2) := (S2.out.cell 0 rfl).cell 1
        have S3a := Lib.hid (S2.out.setAt 0 rfl 1 (.int .i64 1))
        go_upto_region 8 with fail
        clear f1 e1
        obtain ⟨w3, HW⟩ : ∃ W, Hid (w2.setCell ⟨g3, 1, none⟩ (.int .i64 1) = W) := ⟨_, rfl⟩
        rw [HW.out] at S3a ⊢
        clear HW
        have S3 : Hid (SW g1 w (cellOb g3 100 (cEd 1 1 bs) :: rvOb A m :: cellOb g1 96 #[.slice A m cm, .slice none 0 0] :: []) w3) := S3a
        clear S3a S2
        have S4a := Lib.hid (S3.out.newCell 100 (cEd 1 1 bs))
        have d0 : w3.cell? ⟨g3, 0, none⟩ = some (.string pA) := (S3.out.cell 0 rfl).cell 0
        have d1 : w3.cell? ⟨g3, 1, none⟩ = some (.int .i64 1) := (S3.out.cell 0 rfl).cell 1
        have d2 : w3.cell? ⟨g3, 2, none⟩ = some (.int .i64 1) := (S3.out.cell 0 rfl).cell 2
        have d3 : w3.cell? ⟨g3, 3, none⟩ = some (.bool false) := (S3.out.cell 0 rfl).cell 3
        have d4 : w3.cell? ⟨g3, 4, none⟩ = some (.bool false) := (S3.out.cell 0 rfl).cell 4
        have d5 : w3.cell? ⟨g3, 5, none⟩ = some (.bool false) := (S3.out.cell 0 rfl).cell 5
        have d6 : w3.cell? ⟨g3, 6, none⟩ = some (.int .u64 1) := (S3.out.cell 0 rfl).cell 6
        have d7 : w3.cell? ⟨g3, 7, none⟩ = some (.int .i64 1) := (S3.out.cell 0 rfl).cell 7
        have d8 : w3.cell? ⟨g3, 8, none⟩ = some (.int .i64 bs) := (S3.out.cell 0 rfl).cell 8
        have d9 : w3.cell? ⟨g3, 9, none⟩ = some (.string ⟨#[]⟩) := (S3.out.cell 0 rfl).cell 9
        have d10 : w3.cell? ⟨g3, 10, none⟩ = some (.int .i64 0) := (S3.out.cell 0 rfl).cell 10
        have d11 : w3.cell? ⟨g3, 11, none⟩ = some (.int .i64 0) := (S3.out.cell 0 rfl).cell 11
        have c0 : w3.cell? ⟨g1, 0, none⟩ = some (.slice A m cm) := (S3.out.cell 2 rfl).cell 0
        have c1 : w3.cell? ⟨g1, 1, none⟩ = some (.slice none 0 0) := (S3.out.cell 2 rfl).cell 1
        have HAP := Lib.hid (append_any (m := m) S4a.out (by simp) HA0.out (by omega) (List.mem_cons_self ..) HA.out hs.out hbs.out hn.out.symm)
        go_wp2_with (go_at_call 50; (with_reducible refine HAP.out.mono ?_); refine halt_ ?_)
        rintro e w4 ⟨A', cm', rfl, s5⟩
        have S5 : Hid (SW g1 w [rvOb A' (m + 1), cellOb g1 96 #[.slice A m cm, .slice none 0 0]] w4) := Lib.hid (SW.few (pre := [_, _, _, _, _]) s5 [0, 4] (n := 5) rfl (by decide) (by decide))
        clear s5 S4a S3 HAP c0 c1 d0 d1 d2 d3 d4 d5 d6 d7 d8 d9 d10 d11
        have e0 : w4.cell? ⟨g1, 0, none⟩ = some (.slice A m cm) := (S5.out.cell 1 rfl).cell 0
        have e1 : w4.cell? ⟨g1, 1, none⟩ = some (.slice none 0 0) := (S5.out.cell 1 rfl).cell 1
        have f0 := (S5.out.cell 1 rfl).frozen 0
        have f1 := (S5.out.cell 1 rfl).frozen 1
        have S6 := Lib.hid ((S5.out.setAt 1 rfl 0 (.slice A' (m + 1) cm')).setAt 1 rfl 1 (.slice none 0 0))
        go_wp2_with fail
        go_roundw
        case rel => exact ⟨m + 1, A', cm', congrArg (Value.int .i64) (by have := hs.out; omega), by omega, fun h => absurd h (by omega), S6.out⟩
        case measure => simp [intOf] <;> omega
      · have HA : Hid (actI ((m : Int) + 1) = 2) := by rw [Hid, actI, if_neg (by omega)]
        have hs1 : ¬ s = 1 := by have := hs.out; omega
        clear hm0
        go_upto_region 8 with fail
        obtain ⟨w3, HW⟩ : ∃ W, Hid (w2 = W) := ⟨_, rfl⟩
        rw [HW.out] at S2 ⊢
        clear HW
        have S3 := S2
        clear S2
        have S4a := Lib.hid (S3.out.newCell 100 (cEd 2 s bs))
        have d0 : w3.cell? ⟨g3, 0, none⟩ = some (.string pA) := (S3.out.cell 0 rfl).cell 0
        have d1 : w3.cell? ⟨g3, 1, none⟩ = some (.int .i64 2) := (S3.out.cell 0 rfl).cell 1
        have d2 : w3.cell? ⟨g3, 2, none⟩ = some (.int .i64 1) := (S3.out.cell 0 rfl).cell 2
        have d3 : w3.cell? ⟨g3, 3, none⟩ = some (.bool false) := (S3.out.cell 0 rfl).cell 3
        have d4 : w3.cell? ⟨g3, 4, none⟩ = some (.bool false) := (S3.out.cell 0 rfl).cell 4
        have d5 : w3.cell? ⟨g3, 5, none⟩ = some (.bool false) := (S3.out.cell 0 rfl).cell 5
        have d6 : w3.cell? ⟨g3, 6, none⟩ = some (.int .u64 s) := (S3.out.cell 0 rfl).cell 6
        have d7 : w3.cell? ⟨g3, 7, none⟩ = some (.int .i64 1) := (S3.out.cell 0 rfl).cell 7
        have d8 : w3.cell? ⟨g3, 8, none⟩ = some (.int .i64 bs) := (S3.out.cell 0 rfl).cell 8
        have d9 : w3.cell? ⟨g3, 9, none⟩ = some (.string ⟨#[]⟩) := (S3.out.cell 0 rfl).cell 9
        have d10 : w3.cell? ⟨g3, 10, none⟩ = some (.int .i64 0) := (S3.out.cell 0 rfl).cell 10
        have d11 : w3.cell? ⟨g3, 11, none⟩ = some (.int .i64 0) := (S3.out.cell 0 rfl).cell 11
        have c0 : w3.cell? ⟨g1, 0, none⟩ = some (.slice A m cm) := (S3.out.cell 2 rfl).cell 0
        have c1 : w3.cell? ⟨g1, 1, none⟩ = some (.slice none 0 0) := (S3.out.cell 2 rfl).cell 1
        have HAP := Lib.hid (append_any (m := m) S4a.out (by simp) HA0.out (by omega) (List.mem_cons_self ..) HA.out hs.out hbs.out hn.out.symm)
        go_wp2_with (go_at_call 50; (with_reducible refine HAP.out.mono ?_); refine halt_ ?_)
        rintro e w4 ⟨A', cm', rfl, s5⟩
        have S5 : Hid (SW g1 w [rvOb A' (m + 1), cellOb g1 96 #[.slice A m cm, .slice none 0 0]] w4) := Lib.hid (SW.few (pre := [_, _, _, _, _]) s5 [0, 4] (n := 5) rfl (by decide) (by decide))
        clear s5 S4a S3 HAP c0 c1 d0 d1 d2 d3 d4 d5 d6 d7 d8 d9 d10 d11
        have e0 : w4.cell? ⟨g1, 0, none⟩ = some (.slice A m cm) := (S5.out.cell 1 rfl).cell 0
        have e1 : w4.cell? ⟨g1, 1, none⟩ = some (.slice none 0 0) := (S5.out.cell 1 rfl).cell 1
        have f0 := (S5.out.cell 1 rfl).frozen 0
        have f1 := (S5.out.cell 1 rfl).frozen 1
        have S6 := Lib.hid ((S5.out.setAt 1 rfl 0 (.slice A' (m + 1) cm')).setAt 1 rfl 1 (.slice none 0 0))
        go_wp2_with fail
        go_roundw
        case rel => exact ⟨m + 1, A', cm', congrArg (Value.int .i64) (by have := hs.out; omega), by omega, fun h => absurd h (by omega), S6.out⟩
        case measure => simp [intOf] <;> omega
    · obtain rfl : m = 5 := by omega
      have c0 : wr.cell? ⟨g1, 0, none⟩ = some (.slice A 5 cm) := (S1.out.cell 1 rfl).cell 0
      have c1 : wr.cell? ⟨g1, 1, none⟩ = some (.slice none 0 0) := (S1.out.cell 1 rfl).cell 1
      have HSL := Lib.hid (select5 (cm := cm) S1.out (List.mem_cons_self ..))
      go_wp2_with (go_at_call 51; (with_reducible refine HSL.out.mono ?_); refine halt_ ?_)
      rintro e w2 ⟨RA, rc, rfl, s2⟩
      have S2 := Lib.hid s2
      clear s2 HSL c0 c1 S1
      go_wp2_with (go_at_call 11; (with_reducible refine (store_none _).mono ?_); refine halt_ ?_)
      rintro e w3 ⟨d, rfl, hu⟩
      have S3 := Lib.hid (S2.out.on hu.bl)
      have U3 := Lib.hid hu
      clear S2 hu
      have hR : w3.ownsRow 0 111 12 (.slice RA 2 rc) 2 (encR 1 ++ encR 2) := S3.out.get 0 rfl
      obtain ⟨gr, hRA, hgr, hc⟩ := (RowV.of hR).at (by omega)
      subst hRA
      have r0 : w3.cell? ⟨gr, 1, none⟩ = some (.int .i64 1) := hc 1 (by omega)
      have r1 : w3.cell? ⟨gr, 13, none⟩ = some (.int .i64 2) := hc 13 (by omega)
      have hl := U3.out.len
      obtain ⟨hv1, hv2⟩ : 9 < volN.length ∧ volN.length ≤ 30 := by
        have h0 : (putU 0).length = 1 := by rw [putU_0]; rfl
        have hu5 : (putU (fpSum packH)).length ≤ 10 := putU_len (k := 9) (by have := fpSum_lt packH; unfold pP at this; omega)
        have hu6 := putU_pos (fpSum packH)
        simp only [volN, List.length_append, packH_len, h0, List.length_cons, List.length_nil]
        omega
      have hv3 : 9 < d.len := by rw [hl]; exact hv1
      have hv4 : d.len ≤ 30 := by rw [hl]; exact hv2
      have hv5 : d.len ≤ d.cap := U3.out.rb.2.1
      clear hl hc hR
      have hcv : (convert 40 9 (.slice d.A 9 d.cap)).run Tryz.prog w3 = .ok (.string ⟨#[83, 89, 65, 82, 0, 83, 89, 80, 75]⟩) w3 := by
        have e9 : volN.take 9 = [83, 89, 65, 82, 0, 83, 89, 80, 75] := by
          simp [volN, packH, putU_0]
        have := conv_str (U3.out.rb.src.take 9) 9 d.cap (by rw [e9]; rfl)
        rw [e9] at this
        exact this
      have hb := Lib.hid (show Below w.heap.size w w3 by rw [HG1.out]; exact S3.out.2)
      clear U3 hv1 hv2
      unfold vB
      go_wp2_with fail
      go_ret
      exact ⟨rfl, hb.out⟩
end Go.Proofs.YtmiknfneeipkeaaGreat
namespace Go.Proofs.YtmiknfneeipkeaaGreat
open Go.RowKit Go.MapKept Go.ChangeMaps Go.Shelf Go.Sort
theorem validB_fp {bs : List UInt8} (h1 : 1 ≤ bs.length) (h2 : bs.length ≤ 8192) : chunkB (fpOf bs) = true := by
  have h := fpSum_lt bs
  unfold pP at h
  have e : fpOf bs = (((fpSum bs : Nat) : Int), ((bs.length : Nat) : Int)) := rfl
  rw [e]
  simp only [chunkB, validB, Bool.and_eq_true, Bool.or_eq_true, decide_eq_true_eq, beq_iff_eq]
  omega
theorem sumZ_idS (T : List BS) : sumZ (idS T) = ((lenS T : Nat) : Int) := by
  induction T with
  | nil => rfl
  | cons e T ih =>
    have h1 : sumZ (idS (e :: T)) = (e.bs.length : Int) + sumZ (idS T) := rfl
    have h2 : lenS (e :: T) = e.bs.length + lenS T := by simp [lenS]
    rw [h1, h2, ih, Int.natCast_add]
theorem manE_idS {T : List BS} (hn : T.length ≤ 100) (hb : ∀ e ∈ T, 1 ≤ e.bs.length ∧ e.bs.length ≤ 8192) : manE ⟨((lenS T : Nat) : Int), idS T⟩ = 0 := by
  have hl := lenS_le (fun e he => (hb e he).2)
  have h2 : 8192 * T.length ≤ 819200 := by omega
  rw [manE_end (by simp [idS]; omega) (by
    rw [List.all_eq_true]
    intro i hi
    obtain ⟨e, he, rfl⟩ := List.mem_map.1 hi
    exact validB_fp (hb e he).1 (hb e he).2)]
  rw [if_pos ⟨(sumZ_idS T).symm, by simp only; omega⟩]
theorem errM_all {ms : List Man} (h : ∀ m ∈ ms, manE m = 0) : errM ms = 0 := by
  have : ∀ k, k ≤ ms.length → errM (ms.take k) = 0 := fun k => by
    induction k with
    | zero => intro _; rfl
    | succ k ih =>
      intro hk
      rw [take_snoc _ man0 _ (by omega), errM_snoc _ _ (ih (by omega))]
      exact h _ (getD_mem _ _ _ (by omega))
  have h2 := this ms.length (Nat.le_refl _)
  rwa [List.take_length] at h2
theorem good_man {Ps : List (List BS)} (h : GoodPs Ps) : ∀ m ∈ mansT Ps, manE m = 0 := by
  intro m hm
  obtain ⟨T, hT, rfl⟩ := List.mem_map.1 hm
  obtain ⟨h1, h2⟩ := h.2 T hT
  exact manE_idS (by omega) (fun e he => ⟨(h2 e he).1, by have := (h2 e he).2; omega⟩)
theorem good_err {Ps : List (List BS)} (h : GoodPs Ps) : errM (mansT Ps) = 0 := errM_all (good_man h)
theorem good_ids {Ps : List (List BS)} (h : GoodPs Ps) : ∀ m ∈ mansT Ps, m.ids.length ≤ 3 := by
  intro m hm
  obtain ⟨T, hT, rfl⟩ := List.mem_map.1 hm
  simpa [manT, idS] using (h.2 T hT).1
theorem good_ok {Ps : List (List BS)} (h : GoodPs Ps) : ∀ m ∈ mansT Ps, ∀ i ∈ m.ids, okID i := by
  intro m hm i hi
  obtain ⟨T, hT, rfl⟩ := List.mem_map.1 hm
  obtain ⟨e, he, rfl⟩ := List.mem_map.1 hi
  exact okID_fp _ (by have := ((h.2 T hT).2 e he).2; omega)
theorem mansT_len (Ps : List (List BS)) : (mansT Ps).length = Ps.length := by simp [mansT]
theorem idsOf_few {ms : List Man} {B : Nat} (h : ∀ m ∈ ms, m.ids.length ≤ B) : (idsOf ms).length ≤ B * ms.length := by
  induction ms with
  | nil => simp [idsOf]
  | cons m ms ih =>
    have h1 := ih (fun m hm => h m (List.mem_cons_of_mem _ hm))
    have h2 := h m (.head _)
    have : (idsOf (m :: ms)).length = m.ids.length + (idsOf ms).length := by simp [idsOf]
    rw [this, List.length_cons, Nat.mul_add]
    omega
def inOb (A : Option Addr) (L : List Int) : Ob where
  own := fun _ => False
  rd := fun i => 0 < L.length ∧ ∃ o, A = some ⟨i, o, none⟩
  holds := fun w => RdT w w.heap.size A L ∧ L.length ≤ 9223372036854775807
  stable := fun w w' h hs hk => by
    refine ⟨fun hp => ?_, h.2⟩
    obtain ⟨b, o, e, hlt, hc⟩ := h.1 hp
    have h2 := hk b (.inr ⟨hp, o, e⟩)
    refine ⟨b, o, e, Nat.lt_of_lt_of_le hlt hs.2.2.2, fun j hj => ?_⟩
    rw [← hc j hj]
    simp [World.cell?, h2]
section
variable {b : Nat} {w0 w w' : World} {l t : List Ob} {o o' : Ob}
theorem SW.newTape {A : Option Addr} {L : List Int} (h : SW b w0 l w) (hm : inOb A L ∈ l) (c : Nat) {H : Nat} (hH : w.heap.size = H) : SW b w0 (tpOb H A c L 0 :: l) (w.alloc (.cells #[.slice A L.length c, .int .i64 0] 26)) := by
  subst hH
  have hh : RdT w w.heap.size A L ∧ L.length ≤ 9223372036854775807 := h.1.holds _ hm
  have hb : Below w.heap.size w (w.alloc (.cells #[.slice A L.length c, .int .i64 0] 26)) := (Below.refl _ _).alloc (Nat.le_refl _) _
  have := h.1.add (o' := tpOb w.heap.size A c L 0) hb ⟨IsB.new _ _ _, fun hp => ?_, hh.2⟩ (fun i hi => ?_) (fun i hi => ?_) (fun i hi hlt => h.noOwn hm (fun _ h => h) hi)
  · exact ⟨this.1, h.2.trans this.2⟩
  · obtain ⟨q, o, e, hlt, hc⟩ := hh.1 hp
    exact ⟨q, o, e, by simp; omega, by omega, fun j hj => (hb.cell hlt).trans (hc j hj)⟩
  · have hi : i = w.heap.size := hi
    rw [hi]
    exact ⟨Nat.le_refl _, by simp⟩
  · obtain ⟨hp, o, e⟩ := hi
    obtain ⟨q, o', e', hlt, _⟩ := hh.1 hp
    rw [e] at e'
    injection e' with e'
    injection e' with e' _
    rw [e']
    exact Nat.lt_of_lt_of_le hlt (by simp)
theorem SW.startIn {w : World} {A : Option Addr} {L : List Int} (hr : RdT w w.heap.size A L) (hl : L.length ≤ 9223372036854775807) : SW w.heap.size w [inOb A L] w :=
  SW.start (o := inOb A L) ⟨hr, hl⟩ (fun _ h => h) (fun i hi => by
    obtain ⟨hp, o, e⟩ := hi
    obtain ⟨q, o', e', hlt, _⟩ := hr hp
    rw [e] at e'
    injection e' with e'
    injection e' with e' _
    rw [e']
    exact hlt)
theorem row_rdM {D : Option Addr} {rs : List MR} {q dc : Nat} (hr : w.ownsRow 0 33 2 (.slice D q dc) q (rs.flatMap encMR)) (hq : rs.length = q) : Rd encMR 2 mr0 w w.heap.size D rs := by
  intro hp
  have hx : ∀ g, D = some ⟨g, 0, none⟩ → g < w.heap.size := fun g e => (hr.lt g (by rw [e]; rfl)).2
  rcases hr.2 with ⟨hv, h0⟩ | ⟨g, cap, cur, hv, _⟩
  · omega
  · injection hv with e1 e2 e3
    subst e1
    subst e3
    refine ⟨g, 0, rfl, hx g rfl, by have := hx g rfl; omega, fun j hj i v hi => ?_⟩
    have hi2 : i < 2 := by
      have := (List.getElem?_eq_some_iff.1 hi).1
      rwa [encMR_len] at this
    rw [Nat.zero_add, hr.cellAt (j * 2 + i) (by rw [← hq]; omega), flat_at encMR_len mr0 rs j i hj hi2]
    exact hi
end
end Go.Proofs.YtmiknfneeipkeaaGreat
namespace Go.Proofs.YtmiknfneeipkeaaGreat
open Go.RowKit Go.MapKept Go.ChangeMaps Go.Shelf Go.Sort
theorem flat_take {α : Type} {enc : α → List Value} {k : Nat} (hk : ∀ y, (enc y).length = k) : ∀ (l : List α) (j : Nat), (l.take j).flatMap enc = (l.flatMap enc).take (j * k) := by
  intro l
  induction l with
  | nil => intro j; simp
  | cons a l ih =>
    intro j
    cases j with
    | zero => simp
    | succ j =>
      have h1 : (enc a).take ((j + 1) * k) = enc a := List.take_of_length_le (by rw [hk, Nat.succ_mul]; omega)
      have h2 : (j + 1) * k - (enc a).length = j * k := by rw [hk, Nat.succ_mul]; omega
      rw [List.take_succ_cons, List.flatMap_cons, List.flatMap_cons, ih j, List.take_append, h1, h2]
theorem flat_drop {α : Type} {enc : α → List Value} {k : Nat} (hk : ∀ y, (enc y).length = k) : ∀ (l : List α) (j : Nat), (l.drop j).flatMap enc = (l.flatMap enc).drop (j * k) := by
  intro l
  induction l with
  | nil => intro j; simp
  | cons a l ih =>
    intro j
    cases j with
    | zero => simp
    | succ j =>
      have h1 : (enc a).drop ((j + 1) * k) = [] := List.drop_eq_nil_of_le (by rw [hk, Nat.succ_mul]; omega)
      have h2 : (j + 1) * k - (enc a).length = j * k := by rw [hk, Nat.succ_mul]; omega
      rw [List.drop_succ_cons, List.flatMap_cons, ih j, List.drop_append, h1, h2, List.nil_append]
theorem row_part {α : Type} {enc : α → List Value} {k : Nat} (hk : ∀ y, (enc y).length = k) {w : World} {e : TypeId} {g n c : Nat} {rs : List α} (hr : w.ownsRow 0 e k (.slice (some ⟨g, 0, none⟩) n c) n (rs.flatMap enc)) (i m : Nat) (him : i + m ≤ n) : ∀ (a : Nat) (u : Value), (((rs.drop i).take m).flatMap enc)[a]? = some u → w.cell? ((⟨g, i * k, none⟩ : Addr).add a) = some u := by
  intro a u hu
  rw [flat_take hk, flat_drop hk, List.getElem?_take] at hu
  split at hu
  · rename_i ha
    rw [List.getElem?_drop] at hu
    rw [lit_add, hr.cellAt (i * k + a) (by
      have : i * k + m * k ≤ n * k := by rw [← Nat.add_mul]; exact Nat.mul_le_mul_right k him
      omega)]
    exact hu
  · cases hu
theorem row_all {α : Type} {enc : α → List Value} (h : ∀ y, ∀ u ∈ enc y, u.oneCell' = true) (l : List α) : ∀ u ∈ l.flatMap enc, u.oneCell' = true := fun u hu => by
  obtain ⟨y, _, hy⟩ := List.mem_flatMap.1 hu
  exact h y u hy
section
variable {b : Nat} {w0 w w' : World} {l : List Ob}
theorem step_rowA {ops : Array Oper} {o : Oper} {tm : Array Value} {df : List Deferred} {K : Act → World → Prop} {Q : Exit → Act → World → Prop} {E : Prop} {t e : TypeId} {i : TypeInfo} {z : Value} {size bytes : Nat} (hS : SW b w0 l w) (k : Nat) {v : Value} {n : Nat} {xs : List Value} (hk : l[k]? = some (rowOb e size v n xs))
    (hgd : o.guard = none) (s x : Operand) (ho : o.op = .call { callee := .builtin .append, args := #[s, x], argTypes := #[t, t] })
    (ht : Tryz.prog.underlying t = some (.slice e)) (hi : Tryz.prog.info? e = some i) (hz : i.zero = some z) (hsize : i.size = size) (hby : i.bytes = bytes) (hzs : z.cells.size = size) (hsz : 0 < size)
    (hs : (⟨tm, df⟩ : Act).eval s = v) (A : Option Addr) (m c : Nat) (news : List Value) (hx : (⟨tm, df⟩ : Act).eval x = .slice A m c) (hl : news.length = m * size) (hA : 0 < m → ∃ ad, A = some ad ∧ ∀ j u, news[j]? = some u → w.cell? (ad.add j) = some u) (h1 : ∀ u ∈ news, u.oneCell' = true)
    (h63 : n + m ≤ maxLen) (hbytes : (n + m) * bytes ≤ 140737488355328)
    (h : ∀ v' w', SW b w0 (l.set k (rowOb e size v' (n + m) (xs ++ news))) w' → K ((⟨tm, df⟩ : Act).put o.dst v') w') :
    if Region.wanted o (yielded ops tm) = true then Oper.wp Tryz.prog o ⟨tm, df⟩ w K Q else E :=
  step_rowM (a := ⟨tm, df⟩) hS k hk hgd s x ho ht hi hz hsize hby hzs hsz hs A m c news hx hl hA h1 h63 hbytes h
end
end Go.Proofs.YtmiknfneeipkeaaGreat
