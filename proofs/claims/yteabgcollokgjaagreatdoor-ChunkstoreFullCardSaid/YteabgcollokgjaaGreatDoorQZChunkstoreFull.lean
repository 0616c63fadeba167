/- Proves Rows.ChunkstoreFullCardSaid: for every input ChunkstoreFull returns true, and each argument reads afterwards as before. The card's five laid variables are not read. -/
import Derived.Test.YteabgcollokgjaaGreatDoorQ31
import Derived.Test.YteabgcollokgjaaGreatDoorQ02
import Derived.Test.YteabgcollokgjaaGreatDoorCards
import Derived.Test.YteabgcollokgjaaGreatDoorTie
import Derived.WalkKit
import Derived.ProofKit
import Derived.OpenShut
import Derived.ChangeOld
import Derived.Below
import Derived.Handy
import Derived.Lay
import Derived.SevenTiedAt
import Derived.Test.YteabgcollokgjaaGreatDoorQ32
import Derived.Test.YteabgcollokgjaaGreatDoorQKChunkstoreFull
import Derived.Test.YteabgcollokgjaaGreatDoorQJChunkstoreFull
namespace Go.Proofs.YteabgcollokgjaaGreatDoor
open Go.RowKit Go.MapKept Go.ChangeMaps Go.Shelf Go.Sort

def zs (j : Nat) : List UInt8 := List.replicate j 0
theorem zs_len (j : Nat) : (zs j).length = j := by simp [zs]
theorem zid_ne {i j : Nat} (h : i ≠ j) : fpOf (zs i) ≠ fpOf (zs j) := fun e => by
  have : (fpOf (zs i)).2 = (fpOf (zs j)).2 := by rw [e]
  simp only [fpOf, zs_len] at this
  omega
theorem mk_z (w : World) (k : Nat) (hc : k ≤ 16777216) : (Instr.makeSlice 34 (.int .i64 k) (.int .i64 k)).run Tryz.prog w = .ok (.slice (some ⟨w.heap.size, 0, none⟩) k k) (w.alloc (.cells ((zs k).map encU).toArray 5)) := by
  rw [mk_bytes w k k (Nat.le_refl _) hc]
  congr 3
  apply Array.ext'
  simp [zs]
theorem rb_z (w : World) (k : Nat) : RB (w.alloc (.cells ((zs k).map encU).toArray 5)) ⟨some ⟨w.heap.size, 0, none⟩, k, k⟩ (zs k) := by
  refine ⟨zs_len k, Nat.le_refl _, (fun e => by cases e), fun ad e => ?_⟩
  injection e with e
  exact ⟨w.heap.size, _, e.symm, IsB.new _ _ _, by simp [zs_len], fun j u hu => by simpa using hu⟩
/-- A store with m chunks of zeros. -/
structure FZ (x : SR) (m : Nat) : Prop where
  len : x.C.length = m
  val : ∀ j, 1 ≤ j → j ≤ m → valC x (fpOf (zs j)) = some (zs j)
  no : ∀ j, m < j → asc x.C (fpOf (zs j)) = none
  sum : 2 * x.bytes = (m : Int) * ((m : Int) + 1)
  fl : x.F = none
theorem asc_none_mem {α β : Type} [DecidableEq α] {L : List (α × β)} {a : α} (h : asc L a = none) : ∀ c ∈ L, c.1 ≠ a := fun c hc e => by
  have := asc_key.2 (List.mem_map.2 ⟨c, hc, e⟩)
  rw [h] at this
  cases this
theorem FZ.step {x : SR} {m : Nat} (h : FZ x m) (d : BD) : FZ (putS x (fpOf (zs (m + 1))) d (zs (m + 1))) (m + 1) where
  len := by
    simp only [putS]
    rw [setL_none (asc_none_mem (h.no _ (Nat.lt_succ_self m))), List.length_append, h.len]
    rfl
  val := fun j h1 h2 => by
    rw [put_val]
    by_cases e : m + 1 = j
    · subst e
      rw [if_pos rfl]
    · rw [if_neg (zid_ne e)]
      exact h.val j h1 (by omega)
  no := fun j hj => by
    simp only [putS]
    rw [asc_setL, if_neg (zid_ne (by omega))]
    exact h.no j (by omega)
  sum := by
    have h1 := h.sum
    simp only [putS, zs_len]
    have e : (((m + 1 : Nat) : Int)) * (((m + 1 : Nat) : Int) + 1) = (m : Int) * ((m : Int) + 1) + 2 * ((m + 1 : Nat) : Int) := by
      simp only [Int.natCast_add, Int.mul_add, Int.add_mul]
      omega
    omega
  fl := h.fl
theorem SW.swap2 {b : Nat} {w0 w : World} {x : SR} {l : List Ob} {o p : Ob} (h : SW b w0 (x.obs (o :: p :: l)) w) : SW b w0 (x.obs (p :: o :: l)) w :=
  SW.front (pre := [devOb x.p x.r x.s, cellOb x.ps 131 x.cells, chOb x.cm x.C, flOb x.fm x.F, o, p]) (t := l) h [0, 1, 2, 3, 5, 4] (n := 6) rfl (by decide)
theorem SW.newZ {b : Nat} {w0 w : World} {x : SR} {l : List Ob} (h : SW b w0 (x.obs l) w) (k : Nat) : SW b w0 (x.obs (bufOb ⟨some ⟨w.heap.size, 0, none⟩, k, k⟩ (zs k) :: l)) (w.alloc (.cells ((zs k).map encU).toArray 5)) :=
  (h.newBytes ((Below.refl _ _).alloc (Nat.le_refl _) _) (rb_z w k) (fun g hg => by injection hg with hg; exact Nat.le_of_eq hg)).behind
theorem SW.newZat {b : Nat} {w0 w : World} {x : SR} {l : List Ob} (h : SW b w0 (x.obs l) w) (k : Nat) {H : Nat} (hH : w.heap.size = H) : SW b w0 (x.obs (bufOb ⟨some ⟨H, 0, none⟩, k, k⟩ (zs k) :: l)) (w.alloc (.cells ((zs k).map encU).toArray 5)) := hH ▸ h.newZ k
theorem FZ.nil {x : SR} (hC : x.C = []) (hb : x.bytes = 0) (hF : x.F = none) : FZ x 0 := ⟨by rw [hC]; rfl, fun j h1 h2 => by omega, fun j _ => by rw [hC]; rfl, by rw [hb]; simp, hF⟩
set_option maxRecDepth 100000 in
set_option maxHeartbeats 8000000 in
theorem law3 (n0 : Int) (w : World) : Calls Tryz.prog 3 #[.int .i64 n0] w (fun e w' => e = .returned (.bool true) ∧ Below w.heap.size w w') := by
  go_enter Tryz.func3, Tryz.ntmps3
  go_wp2_with fail
  refine (New_L _).mono ?_
  rintro e w1 ⟨r, rfl, hs⟩
  have HO := Lib.hid (Open_L (ns := [fileN nmS]) hs nmS nmS_ok rfl rfl (fun _ => rfl) (by decide) (by simp) (by simp))
  clear hs
  go_wp2_with (go_at_call 20; (with_reducible refine HO.out.mono ?_); refine halt_ ?_)
  rintro e w2 ⟨x0, rfl, hs, hc, hC, hF, _, _, _, hby⟩
  have HK := Lib.hid (known33_any w2)
  have F0 := Lib.hid (FZ.nil hC hby hF)
  have S2 := Lib.hid hs
  have C2 := Lib.hid hc
  clear hs hc hC hF hby HO
  go_wp2_with (go_at_call 22; (with_reducible refine HK.out.mono ?_); refine halt_ ?_)
  rintro e w3 ⟨rfl, hb⟩
  have S3 := Lib.hid (S2.out.on hb)
  clear hb HK S2
  obtain ⟨ps, HPS⟩ : ∃ ps, Hid (x0.ps = ps) := ⟨_, rfl⟩
  rw [HPS.out]
  go_wp2_with fail
  go_loopw [5] (fun v wr => ∃ (k : Nat) (x : SR), 1 ≤ k ∧ k ≤ 4097 ∧ v = .int .i64 k ∧ x.ps = ps ∧ FZ x (k - 1) ∧ Cl [fileN nmS] x ∧ SW w.heap.size w (x.obs []) wr) (fun v _ => 4097 - (intOf v).toNat)
  case atStart => exact ⟨1, x0, by omega, by omega, rfl, HPS.out, F0.out, C2.out, S3.out⟩
  case round =>
    obtain ⟨k, x, hk1, hk2, rfl, hps, hfz, hc, hs⟩ := hrel
    have FZ1 := Lib.hid hfz
    have C1 := Lib.hid hc
    have S1 := Lib.hid hs
    have HP1 := Lib.hid hps
    clear hfz hc hs hps F0 C2 S3 HPS
    by_cases hlt : k ≤ 4096
    · have hmk := mk_z wr k (by omega)
      have S4 := Lib.hid (S1.out.newBytes ((Below.refl _ _).alloc (Nat.le_refl _) _) (rb_z wr k) (fun g hg => by injection hg with hg; exact Nat.le_of_eq hg)).tail
      have HPU := Lib.hid (PutN_L S4.out C1.out (some ⟨wr.heap.size, 0, none⟩) k (zs k) (rb_z wr k).rs (by rw [zs_len]; omega) (by rw [zs_len]; omega) (FZ1.out.no k (by omega)) (by rw [FZ1.out.len]; omega))
      rw [zs_len, HP1.out] at HPU
      go_wp2_with (go_at_call 23; (with_reducible refine HPU.out.mono ?_); refine halt_ ?_)
      rintro e w4 ⟨rfl, d, hs, hc⟩
      have S5 := Lib.hid (hs.alloc (Obj.cells #[.int .u64 (fpOf (zs k)).1, .int .i64 (fpOf (zs k)).2] 31))
      have C5 := Lib.hid hc
      have F5 : Hid (FZ (putS x (fpOf (zs k)) d (zs k)) (k + 1 - 1)) := by
        have := FZ1.out.step d
        rw [show k - 1 + 1 = k + 1 - 1 by omega] at this
        rw [show k + 1 - 1 = k by omega] at this ⊢
        exact this
      clear hs hc HPU S4 hmk
      go_wp2_with fail
      go_roundw
      case rel => exact ⟨k + 1, putS x (fpOf (zs k)) d (zs k), by omega, by omega, by go_num, HP1.out, F5.out, C5.out, S5.out⟩
      case measure => simp [intOf]; omega
    · obtain rfl : k = 4097 := by omega
      have HFo := Lib.hid (fun w => Fold_any n0 4096 w (by omega))
      go_upto_region 11 with (go_at_call 24; (with_reducible refine (HFo.out _).mono ?_); refine halt_ ?_)
      rintro e w5 ⟨rr, hrr, rfl, rfl⟩
      obtain ⟨N, hN, hN1, hN2⟩ : ∃ N : Nat, 1 + rr = (N : Int) ∧ 1 ≤ N ∧ N ≤ 4096 := ⟨(1 + rr).toNat, by have := hrr.1; omega, by have := hrr.1; omega, by have := hrr.1; have := hrr.2.1 (by omega); omega⟩
      obtain rfl : rr = (N : Int) - 1 := by omega
      clear hrr hN HFo
      go_upto_region 11 with fail
      rw [show (1 : Int) + ((N : Int) - 1) = (N : Int) by omega]
      have hm1 := fun W => mk_z W N (by omega)
      have hm2 := fun W => (show (Instr.makeSlice 34 (.int .i64 4097) (.int .i64 4097)).run Tryz.prog W = _ from mk_z W 4097 (by omega))
      have FZ1 : Hid (FZ x 4096) := FZ1.out
      clear hk1 hk2 hlt
      go_cut [8, 9] from 51 to 53 (fun v8 v9 wx => ∃ A B : Nat, v8 = .slice (some ⟨A, 0, none⟩) N N ∧ v9 = .slice (some ⟨B, 0, none⟩) 4097 4097 ∧ SW w.heap.size w (x.obs [bufOb ⟨some ⟨A, 0, none⟩, N, N⟩ (zs N), bufOb ⟨some ⟨B, 0, none⟩, 4097, 4097⟩ (zs 4097)]) wx)
      case first =>
        go_region_with fail
        all_goals (go_wp2_with fail)
        all_goals go_meet
        all_goals first
          | exact ⟨_, _, rfl, rfl, ((S1.out.drew.newZat N rfl).newZat 4097 (by simp)).swap2⟩
          | exact ⟨_, _, rfl, rfl, (S1.out.drew.newZat 4097 rfl).newZat N (by simp)⟩
      case rest =>
        obtain ⟨A, B, rfl, rfl, hs⟩ := hcut
        clear hm1 hm2
        have S2 := Lib.hid hs
        clear hs S1
        have RA := fun (W : World) (hW : RB W ⟨some ⟨A, 0, none⟩, N, N⟩ (zs N)) => hW.rs
        have HF1 := Lib.hid (Put_full S2.out.1 C1.out.toWF (some ⟨B, 0, none⟩) 4097 (zs 4097) (S2.out.get 5 (o := bufOb ⟨some ⟨B, 0, none⟩, 4097, 4097⟩ (zs 4097)) rfl : RB _ _ _).rs (by rw [zs_len]; omega) (by rw [zs_len]; omega) (FZ1.out.no 4097 (by omega)) (by rw [FZ1.out.len]; omega))
        rw [zs_len, HP1.out] at HF1
        clear RA
        go_wp2_with (go_at_call 23; (with_reducible refine HF1.out.mono ?_); refine halt_ ?_)
        rintro e w5 ⟨rfl, hb⟩
        have S3 := Lib.hid ((S2.out.on hb).alloc (Obj.cells #[.int .u64 0, .int .i64 0] 31))
        have HF2 := Lib.hid (PutS_L S3.out C1.out (some ⟨A, 0, none⟩) N (zs N) (S3.out.get 4 (o := bufOb ⟨some ⟨A, 0, none⟩, N, N⟩ (zs N)) rfl : RB _ _ _).rs (by rw [zs_len]; omega) (by rw [zs_len]; omega) (FZ1.out.val N hN1 hN2))
        rw [zs_len, HP1.out] at HF2
        clear hb HF1 S2
        go_wp2_with (go_at_call 23; (with_reducible refine HF2.out.mono ?_); refine halt_ ?_)
        rintro e w6 ⟨rfl, hs⟩
        obtain ⟨i, HI⟩ : ∃ i, Hid (fpOf (zs N) = i) := ⟨_, rfl⟩
        rw [HI.out]
        have S4 := Lib.hid (hs.newCell 31 #[.int .u64 i.1, .int .i64 i.2]).behind
        have k0 : (w6.alloc (.cells #[.int .u64 i.1, .int .i64 i.2] 31)).cell? ⟨w6.heap.size, 0, none⟩ = some (.int .u64 i.1) := (S4.out.cell 4 rfl).cell 0
        have k1 : (w6.alloc (.cells #[.int .u64 i.1, .int .i64 i.2] 31)).cell? ⟨w6.heap.size, 1, none⟩ = some (.int .i64 i.2) := (S4.out.cell 4 rfl).cell 1
        clear hs HF2 S3
        have S5 := Lib.hid (S4.out.newIds1 i).behind
        have hsome : (asc x.C i).isSome = true := by
          have := FZ1.out.val N hN1 hN2
          rw [HI.out] at this
          unfold valC at this
          cases hx : asc x.C i with
          | none => rw [hx] at this; cases this
          | some v => rfl
        have hone : goneL x.C [i] = [(i, true)] := by simp [goneL, gstep, hsome, setL]
        have hio : okID i := by rw [← HI.out]; exact okID_fp (zs N) (by rw [zs_len]; omega)
        have HRM := Lib.hid (Rem_L S5.out C1.out (some ⟨(w6.alloc (.cells #[.int .u64 i.1, .int .i64 i.2] 31)).heap.size, 0, none⟩) 1 [i] (by simp) (fun j hj => by simp only [List.mem_cons, List.not_mem_nil, or_false] at hj; rw [hj]; exact hio) (by simp))
        rw [HP1.out, show (w6.alloc (.cells #[.int .u64 i.1, .int .i64 i.2] 31)).heap.size = w6.heap.size + 1 by simp, show ([i] : List ID).length = 1 from rfl] at HRM
        have HONE := Lib.hid hone
        clear hsome hone
        go_wp2_with (go_at_call 25; (with_reducible refine HRM.out.mono ?_); refine halt_ ?_)
        rintro e w7 ⟨he, x1, hs, hc, hgn⟩
        rw [HONE.out] at he
        subst he
        have S6 := Lib.hid hs
        have C6 := Lib.hid hc
        have HGN := Lib.hid hgn
        have hps : x1.ps = ps := hgn.ps.trans HP1.out
        have hl1 : x1.C.length = 4095 := by
          have := hgn.cnt
          rw [HONE.out, FZ1.out.len] at this
          simp at this
          omega
        have hne : fpOf (zs 4097) ≠ i := by rw [← HI.out]; exact zid_ne (by omega)
        have hno : asc x1.C (fpOf (zs 4097)) = none := by
          have := hgn.has (fpOf (zs 4097))
          rw [FZ1.out.no 4097 (by omega)] at this
          cases hx : asc x1.C (fpOf (zs 4097)) with
          | none => rfl
          | some v => rw [hx] at this; simp at this
        have hno2 : asc x1.C i = none := by
          have := hgn.has i
          cases hx : asc x1.C i with
          | none => rfl
          | some v => rw [hx] at this; simp at this
        have HPU := Lib.hid (PutN_L S6.out C6.out (some ⟨B, 0, none⟩) 4097 (zs 4097) (S6.out.get 7 (o := bufOb ⟨some ⟨B, 0, none⟩, 4097, 4097⟩ (zs 4097)) rfl : RB _ _ _).rs (by rw [zs_len]; omega) (by rw [zs_len]; omega) hno (by rw [hl1]; omega))
        rw [zs_len, hps] at HPU
        have HPS := Lib.hid hps
        have HL1 := Lib.hid hl1
        have HNE := Lib.hid hne
        have HNO := Lib.hid hno
        have HNO2 := Lib.hid hno2
        clear hs hc hgn hps hl1 hne hno hno2 HRM S5 S4 k0 k1
        go_wp2_with (go_at_call 23; (with_reducible refine HPU.out.mono ?_); refine halt_ ?_)
        rintro e w8 ⟨rfl, d, hs, hc⟩
        have S7 := Lib.hid (hs.alloc (Obj.cells #[.int .u64 (fpOf (zs 4097)).1, .int .i64 (fpOf (zs 4097)).2] 31))
        have HF3 := Lib.hid (Put_full S7.out.1 hc.toWF (some ⟨A, 0, none⟩) N (zs N) (S7.out.get 6 (o := bufOb ⟨some ⟨A, 0, none⟩, N, N⟩ (zs N)) rfl : RB _ _ _).rs (by rw [zs_len]; omega) (by rw [zs_len]; omega) (by
          simp only [putS]
          rw [asc_setL, HI.out, if_neg HNE.out]
          exact HNO2.out) (by
          simp only [putS]
          rw [setL_none (asc_none_mem HNO.out), List.length_append, HL1.out]
          exact Nat.le_refl _))
        rw [zs_len, show (putS x1 (fpOf (zs 4097)) d (zs 4097)).ps = ps from HPS.out] at HF3
        clear hs hc HPU S6
        go_wp2_with (go_at_call 23; (with_reducible refine HF3.out.mono ?_); refine halt_ ?_)
        rintro e w9 ⟨rfl, hb⟩
        have S8 := Lib.hid ((S7.out.on hb).alloc (Obj.cells #[.int .u64 0, .int .i64 0] 31))
        have hbv : (putS x1 (fpOf (zs 4097)) d (zs 4097)).bytes = 8390656 - (N : Int) + 4096 + 1 := by
          have h1 := HGN.out.bytes
          have h2 := FZ1.out.sum
          rw [HONE.out] at h1
          have h3 : i.2 = (N : Int) := by rw [← HI.out]; simp [fpOf, zs_len]
          simp only [sizeN, List.map_cons, List.map_nil, List.sum_cons, List.sum_nil, h3] at h1
          simp only [putS, zs_len]
          omega
        have HBY := Lib.hid (Bytes_L S8.out _ hbv)
        rw [show (putS x1 (fpOf (zs 4097)) d (zs 4097)).ps = ps from HPS.out] at HBY
        clear hb hbv HF3 S7
        go_wp2_with (go_at_call 26; (with_reducible refine HBY.out.mono ?_); rintro e wz ⟨rfl, rfl⟩)
        go_ret
        exact ⟨rfl, S8.out.2⟩
end Go.Proofs.YteabgcollokgjaaGreatDoor
namespace Go.Proofs.YteabgcollokgjaaGreatDoor.lawChunkstoreFull
open Go.ChangeShapes Go.WideShapes Go.ChangeAt Go.RowKit

theorem own : ownKnob Tryz.prog.godebug = none := by kernel_rfl
theorem laidOut : laidOutB Tryz.prog = true := by kernel_rfl
set_option maxRecDepth 100000 in
theorem lifted (os : Os) (started : os.Started) (H : Type) (enc : TypeId × Value → H) :
    ReturnsInHanded {} Tryz.checked os 3 .any (fun w args => (Rows.chunkstoreFullSpec.pre enc Tryz.prog Tryz.f3 [] false w args ∧ laidMetH Tryz.prog Rows.chunkstoreFullRow.laid w) ∧ sizedMet enc Tryz.prog Tryz.f3 (OpenSpec.ofChange Rows.chunkstoreFullSpec) false w args)
      (Rows.chunkstoreFullSpec.post enc Tryz.prog Tryz.f3 false true false false) := by
  refine returnsInHanded_of_change_and (C := Tryz.checked) (X := fun w _ => laidMetH Tryz.prog Rows.chunkstoreFullRow.laid w) (fun _ _ _ hh h => h.of_heap hh) own started (by kernel_rfl) Tryz.func3
    (ChangeSpec.witness_shaped (enc := enc) (C := Tryz.checked) (os := os) (X := fun w _ => laidMetH Tryz.prog Rows.chunkstoreFullRow.laid w) false (World.laidAll Tryz.prog os Rows.chunkstoreFullRow.laid) #[.int .i64 0] 8 (World.laidAll_os _ _ _)
      (World.shaped_of_ZipB (by kernel_rfl) (by kernel_rfl)) (by kernel_rfl) (by kernel_rfl) (by kernel_rfl)
      (by rw [MakeChecks.laidMetH_plain _ _ _ (by kernel_rfl)]; exact laidMet_laidAll _ (by kernel_rfl) (by kernel_rfl))) ?_
  intro W base args ds gs before hval0 hW _ _ _ _
  have hval : ∀ (j : Nat) t v, Tryz.f3.params[j]? = some t → args[j]? = some v → Value.okWide Tryz.prog W .any base t v := hval0
  have hW' := hW
  obtain ⟨p, q, hA0, hV, rfl, hfz, hnd⟩ := hW
  have hA : DataW.TrodAll enc Tryz.prog W 0 (fun _ => true) true Tryz.f3.params.toList args.toList ds p := hA0
  rw [Tryz.params3] at hA hval
  obtain ⟨v0, vs0, d0, ds0, p0, q0, hargs, rfl, rfl, h0, r0⟩ := trodAll_cons hA
  obtain ⟨rfl, rfl, rfl⟩ := trodAll_nil r0
  obtain rfl : args = #[v0] := by cases args; simp_all
  obtain ⟨rfl, rfl⟩ := trodVars_none hV
  obtain ⟨a0, rfl, rfl, rfl, w0⟩ := open_int Tryz.underlying3 (hval 0 3 v0 rfl rfl) h0
  clear hA0 hval0
  simp only [List.append_nil] at hW'
  refine (law3 a0 W).mono fun e W' ⟨he, bel⟩ => ?_
  subst he
  exact ⟨_, rfl, _, _, _, [], _, [], hW', trodAll_mk1 (shut_bool Tryz.underlying4 _), (trodAll_cons_mk (shut_int Tryz.underlying3 w0) trodAll_mk0), rfl, bel.frame _, fun h => by cases h⟩
theorem over : Rows.ChunkstoreFullSaid :=
  OpenClaim.holds_of_wide 3 Tryz.f3 rfl rfl rfl rfl rfl rfl rfl ⟨rfl, rfl, rfl, rfl, rfl⟩ rfl rfl rfl rfl rfl (by kernel_rfl) Tryz.func3 facts
    inst (by unfold Func.isWrapper; rw [if_neg (by decide +kernel)]; exact ⟨rfl, rfl⟩)
    (fun os started H enc _ => lifted os started H enc)
end Go.Proofs.YteabgcollokgjaaGreatDoor.lawChunkstoreFull
namespace Go.Proofs.YteabgcollokgjaaGreatDoor
open Go
theorem chunkstoreFull_card_holds : Rows.ChunkstoreFullCardSaid :=
  Claim7.holds_tied_plain_at .later [] [.data, .data, .data, .sentinel, .sentinel] true (true, "4a38bbb49ce63abfc4bef169534f954a347f1319075e6aeec9c8b86bb9d66d28") true lawChunkstoreFull.over (fun _ h => by cases h) lawChunkstoreFull.cardWf (fun _ h => by cases h) chunkstoreFull_row_tie rfl ⟨rfl, rfl⟩ mainIs_ok rfl
    (fun f fn hf hfn => by
      obtain rfl : f = 3 := Option.some.inj (lawChunkstoreFull.named.symm.trans hf) |>.symm
      obtain rfl : fn = Tryz.f3 := (Option.some.inj (Tryz.func3.symm.trans hfn)).symm
      exact ⟨cardLooks, fun j t ht => by
        rw [Tryz.params3] at ht
        have hm : t ∈ [3] := by simpa using Array.mem_of_getElem? ht
        exact (show Tryz.prog.wantsStandIn t = false by simpa using List.all_eq_true.1 lawChunkstoreFull.noStand t hm)⟩)
    lawChunkstoreFull.cardGoes
#print axioms chunkstoreFull_card_holds
end Go.Proofs.YteabgcollokgjaaGreatDoor
