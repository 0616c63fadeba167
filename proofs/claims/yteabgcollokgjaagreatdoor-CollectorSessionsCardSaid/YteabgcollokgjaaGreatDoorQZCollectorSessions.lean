/- Proves Rows.CollectorSessionsCardSaid: for every input CollectorSessions returns true, and each argument reads afterwards as before. The card's five laid variables are not read. -/
import Derived.Test.YteabgcollokgjaaGreatDoorQ32
import Derived.Test.YteabgcollokgjaaGreatDoorQ33
import Derived.Test.YteabgcollokgjaaGreatDoorCards
import Derived.Test.YteabgcollokgjaaGreatDoorTie
import Derived.WalkKit
import Derived.ProofKit
import Derived.OpenShut
import Derived.ChangeOld
import Derived.Below
import Derived.Handy
import Derived.Lay
import Derived.SevenTiedAt
import Derived.Test.YteabgcollokgjaaGreatDoorQ34
import Derived.Test.YteabgcollokgjaaGreatDoorQKCollectorSessions
import Derived.Test.YteabgcollokgjaaGreatDoorQJCollectorSessions
namespace Go.Proofs.YteabgcollokgjaaGreatDoor
open Go.RowKit Go.MapKept Go.ChangeMaps Go.Shelf Go.Sort

section
variable {b : Nat} {w0 w w' : World} {l : List Ob}
set_option maxRecDepth 100000 in
set_option maxHeartbeats 16000000 in
theorem law15_any (h : SW w.heap.size w l w) {A : Option Addr} {L : List Int} (hin : inOb A L ∈ l) (cap : Nat) (N : Int) : Calls Tryz.prog 15 #[.slice A L.length cap, .int .i64 N] w (fun e w' => e = .returned (.bool true) ∧ Below w.heap.size w w') := by
 have S0 := Lib.hid h
 have HSH := Lib.hid (Short_any w)
 have HIN := Lib.hid hin
 clear h hin
 have kc := fun (w : World) (C : Array Value) (n c : Nat) => Lib.run_convert_bytes_const (P := Tryz.prog) w 34 5 C n c Tryz.underlying34 Tryz.underlying5
 go_enter Tryz.func15, Tryz.ntmps15
 go_wp2_with (go_at_call 32; (with_reducible refine HSH.out.mono ?_); refine halt_ ?_)
 rintro e w1 ⟨v, rfl, hb1⟩
 have S1 := Lib.hid (S0.out.on hb1)
 clear hb1 HSH S0
 cases v with
 | false =>
  go_wp2_with fail
  go_ret
  exact ⟨rfl, S1.out.2⟩
 | true =>
  have HBG := Lib.hid (begin_any S1.out HIN.out cap)
  go_wp2_with (go_at_call 60; (with_reducible refine HBG.out.mono ?_); refine halt_ ?_)
  rintro e w2 ⟨⟨tg, x, co, r, CA, cc, cd⟩, LA, lc, rfl, s2, ok⟩
  have OK := Lib.hid ok
  obtain ⟨R, HR⟩ : ∃ R, Hid ((tpOb tg A cap L (bgE L).n :: riOb LA (bgE L).live :: r3Ob r :: riOb CA cd :: l) = R) := ⟨_, rfl⟩
  have s2 : SW w.heap.size w (coOb co :: x.obs (tpOb tg A cap L (bgE L).n :: riOb LA (bgE L).live :: r3Ob r :: riOb CA cd :: l)) w2 := s2
  rw [HR.out] at s2
  have S3 := Lib.hid (SW.front (pre := [_, _]) (s2.newCell 102 #[vPtr tg, vPtr x.p, vPtr x.ps, vPtr co.cp, .slice r.A r.E.length r.c, .slice r.B r.E.length r.k, .slice CA cd.length cc, .slice none 0 0]) [1, 0] (n := 2) rfl (by decide))
  obtain ⟨g5, HG5⟩ : ∃ g5, Hid (w2.heap.size = g5) := ⟨_, rfl⟩
  clear ok s2 HBG S1
  go_upto_region 4 with fail
  obtain ⟨W3, HW3⟩ : ∃ W3, Hid (w2.alloc (.cells #[vPtr tg, vPtr x.p, vPtr x.ps, vPtr co.cp, .slice r.A r.E.length r.c, .slice r.B r.E.length r.k, .slice CA cd.length cc, .slice none 0 0] 102) = W3) := ⟨_, rfl⟩
  rw [HW3.out, HG5.out] at S3
  rw [HW3.out, HG5.out]
  clear HW3 HG5
  have HKN := Lib.hid (known61_any W3)
  go_wp2_with (go_at_call 61; (with_reducible refine HKN.out.mono ?_); refine halt_ ?_)
  rintro e w3 ⟨rfl, hb3⟩
  have S4 := Lib.hid (S3.out.on hb3)
  have hps : co.ps = x.ps := OK.out.ps
  have K0 : Hid (SesK co 0) := SesK.start OK.out.se
  obtain ⟨ps, HPS⟩ : ∃ ps, Hid (x.ps = ps) := ⟨_, rfl⟩
  obtain ⟨cp, HCP⟩ : ∃ cp, Hid (co.cp = cp) := ⟨_, rfl⟩
  obtain ⟨cs, HCS⟩ : ∃ cs : Array Value, Hid (#[vPtr tg, vPtr x.p, vPtr x.ps, vPtr co.cp, .slice r.A r.E.length r.c, .slice r.B r.E.length r.k, .slice CA cd.length cc, .slice none 0 0] = cs) := ⟨_, rfl⟩
  have hcs2 : cs[2]? = some (vPtr ps) := by rw [← HCS.out, ← HPS.out]; rfl
  have hcs3 : cs[3]? = some (vPtr cp) := by rw [← HCS.out, ← HCP.out]; rfl
  rw [HCS.out] at S4
  have HCS2 := Lib.hid hcs2
  have HCS3 := Lib.hid hcs3
  have h12 : x.C.length ≤ 12 := Nat.le_trans OK.out.few (by decide)
  have H12 := Lib.hid h12
  clear hb3 HKN S3 hps hcs2 hcs3 HCS h12
  go_wp2_with fail
  go_loopw [8] (fun s8 wr => ∃ (k : Nat) (co : CR), k ≤ 16 ∧ s8 = .int .i64 (k : Int) ∧ co.cp = cp ∧ SesK co k ∧ SW w.heap.size w (coOb co :: cellOb g5 102 cs :: x.obs R) wr) (fun s8 _ => 16 - (intOf s8).toNat)
  case atStart => exact ⟨0, co, Nat.zero_le _, rfl, HCP.out, K0.out, S4.out⟩
  case round =>
   obtain ⟨k, co, hk, rfl, hcp, hses, hs⟩ := hrel
   have KS := Lib.hid hses
   have S5 := Lib.hid hs
   have HCP1 := Lib.hid hcp
   clear hses hs hcp S4 K0 HCP
   by_cases hlt : k < 16
   · have k3 : wr.cell? ⟨g5, 3, none⟩ = some (vPtr cp) := ((S5.out.cell 1 rfl).cell 3).trans HCS3.out
     have HB1 := Lib.hid (Begin_new S5.out (100 + (k : Int)) (by omega) k (KS.out.free hlt) (KS.out.no (fun j hj => by omega)))
     rw [HCP1.out] at HB1
     go_wp2_with (go_at_call 71; (with_reducible refine HB1.out.mono ?_); refine halt_ ?_)
     rintro e w4 ⟨rfl, m, s6⟩
     have KM : Hid (SesK (co.begun k (100 + (k : Int)) m) (k + 1)) := KS.out.more hlt
     have HCP2 : Hid ((co.begun k (100 + (k : Int)) m).cp = cp) := HCP1.out
     obtain ⟨c1, HC1⟩ : ∃ c1, Hid (co.begun k (100 + (k : Int)) m = c1) := ⟨_, rfl⟩
     rw [HC1.out] at s6 KM HCP2
     have S6 := Lib.hid s6
     have k3 : w4.cell? ⟨g5, 3, none⟩ = some (vPtr cp) := ((S6.out.cell 1 rfl).cell 3).trans HCS3.out
     have HB2 : Hid (Calls Tryz.prog 71 #[vPtr cp, .int .i64 (100 + (k : Int))] w4 (fun e w' => e = .returned (.int .i64 401) ∧ SW w.heap.size w (coOb c1 :: cellOb g5 102 cs :: x.obs R) w')) := by
      by_cases hk1 : k + 1 < 16
      · have := Begin_twice S6.out (100 + (k : Int)) (by omega) (k + 1) k (KM.out.free hk1) (KM.out.yes (Nat.lt_succ_self k) (by omega))
        rw [HCP2.out] at this
        exact this
      · obtain rfl : k = 15 := by omega
        have := Begin_full S6.out (100 + ((15 : Nat) : Int)) (by omega) KM.out.full
        rw [HCP2.out] at this
        exact this
     clear s6 HB1 S5 HC1
     go_wp2_with (go_at_call 71; (with_reducible refine HB2.out.mono ?_); refine halt_ ?_)
     rintro e w5 ⟨rfl, s7⟩
     have S7 := Lib.hid s7
     clear s7 HB2 S6 k3
     go_wp2_with fail
     go_roundw
     case rel => exact ⟨k + 1, c1, by omega, by go_num, HCP2.out, KM.out, S7.out⟩
     case measure => simp [intOf]; omega
   · obtain rfl : k = 16 := by omega
     by_cases hin : 100 ≤ N ∧ N < 116
     · have hd1 : decide (N ≥ 100) = true := decide_eq_true hin.1
       have hd2 : decide (N < 116) = true := decide_eq_true hin.2
       go_wp2_with fail
       go_ret
       exact ⟨rfl, S5.out.2⟩
     · have hno : ∀ j : Nat, j < 16 → N ≠ 100 + (j : Int) := fun j hj => by omega
       have HNO := Lib.hid (KS.out.no hno)
       have HNJ := Lib.hid hno
       clear hno
       have hcase : decide (N ≥ 100) = false ∨ (decide (N ≥ 100) = true ∧ decide (N < 116) = false) := by
        by_cases h1 : N ≥ 100
        · exact .inr ⟨decide_eq_true h1, decide_eq_false (by omega)⟩
        · exact .inl (decide_eq_false h1)
       clear hin
       rcases hcase with hd1 | ⟨hd1, hd2⟩
       all_goals (
        have S6 := Lib.hid (SW.front (pre := [_, _, _, _, _, _]) (t := R) S5.out [2, 3, 4, 5, 0, 1] (n := 6) rfl (by decide))
        have k2 : wr.cell? ⟨g5, 2, none⟩ = some (vPtr ps) := ((S5.out.cell 1 rfl).cell 2).trans HCS2.out
        have HI1 := Lib.hid (IDs_S S6.out H12.out)
        rw [HPS.out] at HI1
        go_wp2_with (go_at_call 28; (with_reducible refine HI1.out.mono ?_); refine halt_ ?_)
        rintro e w4 ⟨B, cB, ys, rfl, hp, hso, s7⟩
        have HP4 := Lib.hid hp
        have HSO := Lib.hid hso
        have S7 := Lib.hid (SW.front (pre := [_, _, _, _, _, _, _]) (t := R) s7 [5, 6, 1, 2, 3, 4, 0] (n := 7) rfl (by decide))
        have k3 : w4.cell? ⟨g5, 3, none⟩ = some (vPtr cp) := ((S7.out.cell 1 rfl).cell 3).trans HCS3.out
        clear hp hso s7 HI1 S6 S5 k2
        have HPN := Lib.hid (fun (o : Obj) (V : Value) => CPut_none (S7.out.alloc o) N HNO.out V)
        rw [HCP1.out] at HPN
        go_wp2_with (go_at_call 72; (with_reducible refine (HPN.out _ _).mono ?_); refine halt_ ?_)
        rintro e w5 ⟨rfl, s8⟩
        have S8 := Lib.hid (s8.alloc (.cells #[.int .u64 0, .int .i64 0] 31))
        obtain ⟨W8, HW8⟩ : ∃ W8, Hid (w5.alloc (.cells #[.int .u64 0, .int .i64 0] 31) = W8) := ⟨_, rfl⟩
        clear s8 HPN S7 k3
        go_upto_region 15 with fail
        rw [HW8.out] at S8 ⊢
        clear HW8
        have k3 : W8.cell? ⟨g5, 3, none⟩ = some (vPtr cp) := ((S8.out.cell 1 rfl).cell 3).trans HCS3.out
        have HT := Lib.hid (Touch_none S8.out N HNO.out (0, 0))
        rw [HCP1.out] at HT
        go_wp2_with (go_at_call 73; (with_reducible refine HT.out.mono ?_); refine halt_ ?_)
        rintro e w6 rfl s9
        have S9 := Lib.hid s9
        clear s9 HT S8 k3
        have k3 : w6.cell? ⟨g5, 3, none⟩ = some (vPtr cp) := ((S9.out.cell 1 rfl).cell 3).trans HCS3.out
        have HE := Lib.hid (End_none S9.out N HNO.out)
        rw [HCP1.out] at HE
        go_wp2_with (go_at_call 67; (with_reducible refine HE.out.mono ?_); refine halt_ ?_)
        rintro e w7 ⟨rfl, s10⟩
        have S10 := Lib.hid s10
        clear s10 HE S9 k3
        have k3 : w7.cell? ⟨g5, 3, none⟩ = some (vPtr cp) := ((S10.out.cell 1 rfl).cell 3).trans HCS3.out
        have HB : Hid (Calls Tryz.prog 71 #[vPtr cp, .int .i64 N] w7 (fun e w' => e = .returned (.int .i64 401) ∧ SW w.heap.size w (coOb co :: cellOb g5 102 cs :: x.obs (riOb B ys :: R)) w')) := by
         by_cases hN : N < 0
         · have := Begin_neg S10.out N hN
           rw [HCP1.out] at this
           exact this
         · have := Begin_full S10.out N (by omega) KS.out.full
           rw [HCP1.out] at this
           exact this
        go_wp2_with (go_at_call 71; (with_reducible refine HB.out.mono ?_); refine halt_ ?_)
        rintro e w8 ⟨rfl, s11⟩
        have S11 := Lib.hid (SW.front (pre := [_, _, _, _, _, _, _]) (t := R) s11 [2, 3, 4, 5, 0, 1, 6] (n := 7) rfl (by decide))
        clear s11 HB S10 k3
        have k2 : w8.cell? ⟨g5, 2, none⟩ = some (vPtr ps) := ((S11.out.cell 5 rfl).cell 2).trans HCS2.out
        have HI2 := Lib.hid (IDs_S S11.out H12.out)
        rw [HPS.out] at HI2
        go_wp2_with (go_at_call 28; (with_reducible refine HI2.out.mono ?_); refine halt_ ?_)
        rintro e w9 ⟨B2, cB2, ys2, rfl, hp2, hso2, s12⟩
        have hl1 : ys.length ≤ 12 := by rw [HP4.out.length_eq, List.length_map]; exact H12.out
        have hl2 : ys2.length ≤ 12 := by rw [hp2.length_eq, List.length_map]; exact H12.out
        have HS := Lib.hid (Same_S s12 (xs := ys2) (ys := ys) (A := B2) (B := B) (by simp) (by simp) (by omega) (by omega) cB2 cB (decide_eq_true (ids_uniq hp2 HP4.out hso2 HSO.out OK.out.cl.keys OK.out.cl.keys (fun _ => Iff.rfl))))
        clear hp2 hso2 s12 HI2 S11 k2
        go_wp2_with (go_at_call 64; (with_reducible refine HS.out.mono ?_); refine halt_ ?_)
        rintro e w10 ⟨rfl, s13⟩
        have S13 := Lib.hid (SW.front (pre := [_, _, _, _, _, _, _, _]) (t := R) s13 [5, 6, 0, 1, 2, 3, 4, 7] (n := 8) rfl (by decide))
        clear s13 HS
        have k3 : w10.cell? ⟨g5, 3, none⟩ = some (vPtr cp) := ((S13.out.cell 1 rfl).cell 3).trans HCS3.out
        have HE := Lib.hid (End_some S13.out 100 0 (KS.out.yes (j := 0) (by omega) (by omega)))
        rw [HCP1.out] at HE
        by_cases hN : N < 0
        · have hd : decide (N < 0) = true := decide_eq_true hN
          go_wp2_with (go_at_call 67; (with_reducible refine HE.out.mono ?_); refine halt_ ?_)
          rintro e w11 ⟨rfl, s14⟩
          have k3 : w11.cell? ⟨g5, 3, none⟩ = some (vPtr cp) := ((s14.cell 1 rfl).cell 3).trans HCS3.out
          have HB := Lib.hid (Begin_neg s14 N hN)
          rw [show (co.ended 0).cp = cp from HCP1.out] at HB
          clear s14
          go_wp2_with (go_at_call 71; (with_reducible refine HB.out.mono ?_); refine halt_ ?_)
          rintro e w12 ⟨rfl, s15⟩
          have S15 := Lib.hid s15
          clear s15
          go_wp2_with fail
          go_ret
          exact ⟨rfl, S15.out.2⟩
        · have hd : decide (N < 0) = false := decide_eq_false hN
          go_wp2_with (go_at_call 67; (with_reducible refine HE.out.mono ?_); refine halt_ ?_)
          rintro e w11 ⟨rfl, s14⟩
          have k3 : w11.cell? ⟨g5, 3, none⟩ = some (vPtr cp) := ((s14.cell 1 rfl).cell 3).trans HCS3.out
          have HB := Lib.hid (Begin_new s14 N (by omega) 0 KS.out.endedFree (KS.out.endedNo HNJ.out))
          rw [show (co.ended 0).cp = cp from HCP1.out] at HB
          clear s14
          go_wp2_with (go_at_call 71; (with_reducible refine HB.out.mono ?_); refine halt_ ?_)
          rintro e w12 ⟨rfl, m, s15⟩
          have S15 := Lib.hid s15
          clear s15
          go_wp2_with fail
          go_ret
          exact ⟨rfl, S15.out.2⟩)
theorem law15 {A : Option Addr} {L : List Int} {n : Nat} (e : L.length = n) (cap : Nat) (N : Int) (w : World) (hr : RdT w w.heap.size A L) (hl : n ≤ 9223372036854775807) : Calls Tryz.prog 15 #[.slice A n cap, .int .i64 N] w (fun e w' => e = .returned (.bool true) ∧ Below w.heap.size w w') := by
 subst e
 exact law15_any (SW.startIn hr hl) (by simp) cap N
end
end Go.Proofs.YteabgcollokgjaaGreatDoor
namespace Go.Proofs.YteabgcollokgjaaGreatDoor.lawCollectorSessions
open Go.ChangeShapes Go.WideShapes Go.ChangeAt Go.RowKit

theorem own : ownKnob Tryz.prog.godebug = none := by kernel_rfl
theorem laidOut : laidOutB Tryz.prog = true := by kernel_rfl
set_option maxRecDepth 100000 in
theorem lifted (os : Os) (started : os.Started) (H : Type) (enc : TypeId × Value → H) :
    ReturnsInHanded {} Tryz.checked os 15 .any (fun w args => (Rows.collectorSessionsSpec.pre enc Tryz.prog Tryz.f15 [] false w args ∧ laidMetH Tryz.prog Rows.collectorSessionsRow.laid w) ∧ sizedMet enc Tryz.prog Tryz.f15 (OpenSpec.ofChange Rows.collectorSessionsSpec) false w args)
      (Rows.collectorSessionsSpec.post enc Tryz.prog Tryz.f15 false true false false) := by
  refine returnsInHanded_of_change_and (C := Tryz.checked) (X := fun w _ => laidMetH Tryz.prog Rows.collectorSessionsRow.laid w) (fun _ _ _ hh h => h.of_heap hh) own started (by kernel_rfl) Tryz.func15
    (ChangeSpec.witness_shaped (enc := enc) (C := Tryz.checked) (os := os) (X := fun w _ => laidMetH Tryz.prog Rows.collectorSessionsRow.laid w) false (World.laidAll Tryz.prog os Rows.collectorSessionsRow.laid) #[.slice none 0 0, .int .i64 0] 8 (World.laidAll_os _ _ _)
      (World.shaped_of_ZipB (by kernel_rfl) (by kernel_rfl)) (by kernel_rfl) (by kernel_rfl) (by kernel_rfl)
      (by rw [MakeChecks.laidMetH_plain _ _ _ (by kernel_rfl)]; exact laidMet_laidAll _ (by kernel_rfl) (by kernel_rfl))) ?_
  intro W base args ds gs before hval0 hW _ _ _ _
  have hval : ∀ (j : Nat) t v, Tryz.f15.params[j]? = some t → args[j]? = some v → Value.okWide Tryz.prog W .any base t v := hval0
  have hW' := hW
  obtain ⟨p, q, hA0, hV, rfl, hfz, hnd⟩ := hW
  have hA : DataW.TrodAll enc Tryz.prog W 0 (fun _ => true) true Tryz.f15.params.toList args.toList ds p := hA0
  rw [Tryz.params15] at hA hval
  obtain ⟨v0, vs0, d0, ds0, p0, q0, hargs, rfl, rfl, h0, r0⟩ := trodAll_cons hA
  obtain ⟨v1, vs1, d1, ds1, p1, q1, rfl, rfl, rfl, h1, r1⟩ := trodAll_cons r0
  obtain ⟨rfl, rfl, rfl⟩ := trodAll_nil r1
  obtain rfl : args = #[v0, v1] := by cases args; simp_all
  obtain ⟨rfl, rfl⟩ := trodVars_none hV
  obtain ⟨a0, len0, cap0, rfl⟩ := okWide_slice Tryz.underlying47 (hval 0 47 v0 rfl rfl)
  have k0 := h0
  have lt0 : ∀ x ∈ p0, x.block < W.heap.size := by obtain ⟨m, hm⟩ := k0; exact DataW.trod_lt m _ _ _ hm
  obtain ⟨z0, e0, w0, l0⟩ := open_nums h0
  obtain ⟨a1, rfl, rfl, rfl, w1⟩ := open_int Tryz.underlying3 (hval 1 3 v1 rfl rfl) h1
  clear hA0 hval0
  simp only [List.append_nil] at hW'
  refine (law15 e0 cap0 a1 W w0 l0).mono fun e W' ⟨he, bel⟩ => ?_
  subst he
  exact ⟨_, rfl, _, _, _, [], _, [], hW', trodAll_mk1 (shut_bool Tryz.underlying4 _), (trodAll_cons_mk (Below.trod laidOut (by kernel_rfl) (of_decide_eq_true (by kernel_rfl)) k0 bel lt0) (trodAll_cons_mk (shut_int Tryz.underlying3 w1) trodAll_mk0)), rfl, bel.frame _, fun h => by cases h⟩
theorem over : Rows.CollectorSessionsSaid :=
  OpenClaim.holds_of_wide 15 Tryz.f15 rfl rfl rfl rfl rfl rfl rfl ⟨rfl, rfl, rfl, rfl, rfl⟩ rfl rfl rfl rfl rfl (by kernel_rfl) Tryz.func15 facts
    inst (by unfold Func.isWrapper; rw [if_neg (by decide +kernel)]; exact ⟨rfl, rfl⟩)
    (fun os started H enc _ => lifted os started H enc)
end Go.Proofs.YteabgcollokgjaaGreatDoor.lawCollectorSessions
namespace Go.Proofs.YteabgcollokgjaaGreatDoor
open Go
theorem collectorSessions_card_holds : Rows.CollectorSessionsCardSaid :=
  Claim7.holds_tied_plain_at .later [] [.data, .data, .data, .sentinel, .sentinel] true (true, "4a38bbb49ce63abfc4bef169534f954a347f1319075e6aeec9c8b86bb9d66d28") true lawCollectorSessions.over (fun _ h => by cases h) lawCollectorSessions.cardWf (fun _ h => by cases h) collectorSessions_row_tie rfl ⟨rfl, rfl⟩ mainIs_ok rfl
    (fun f fn hf hfn => by
      obtain rfl : f = 15 := Option.some.inj (lawCollectorSessions.named.symm.trans hf) |>.symm
      obtain rfl : fn = Tryz.f15 := (Option.some.inj (Tryz.func15.symm.trans hfn)).symm
      exact ⟨cardLooks, fun j t ht => by
        rw [Tryz.params15] at ht
        have hm : t ∈ [47, 3] := by simpa using Array.mem_of_getElem? ht
        exact (show Tryz.prog.wantsStandIn t = false by simpa using List.all_eq_true.1 lawCollectorSessions.noStand t hm)⟩)
    lawCollectorSessions.cardGoes
#print axioms collectorSessions_card_holds
end Go.Proofs.YteabgcollokgjaaGreatDoor
