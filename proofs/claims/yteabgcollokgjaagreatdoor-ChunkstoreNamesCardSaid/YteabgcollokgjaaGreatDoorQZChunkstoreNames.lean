/- Proves Rows.ChunkstoreNamesCardSaid: for every input ChunkstoreNames returns true, and each argument reads afterwards as before. The card's five laid variables are not read. -/
import Derived.Test.YteabgcollokgjaaGreatDoorQ31
import Derived.Test.YteabgcollokgjaaGreatDoorQ02
import Derived.Test.YteabgcollokgjaaGreatDoorCards
import Derived.Test.YteabgcollokgjaaGreatDoorTie
import Derived.WalkKit
import Derived.ProofKit
import Derived.OpenShut
import Derived.ChangeOld
import Derived.Below
import Derived.Handy
import Derived.Lay
import Derived.SevenTiedAt
import Derived.Test.YteabgcollokgjaaGreatDoorQ32
import Derived.Test.YteabgcollokgjaaGreatDoorQKChunkstoreNames
import Derived.Test.YteabgcollokgjaaGreatDoorQJChunkstoreNames
namespace Go.Proofs.YteabgcollokgjaaGreatDoor
open Go.RowKit Go.MapKept Go.ChangeMaps Go.Shelf Go.Sort
attribute [local go_sem] wext_cell

set_option maxRecDepth 100000 in
set_option maxHeartbeats 8000000 in
theorem law4_no (name : ByteArray) (n x : Int) (w : World) (hs : name.size ≤ maxLen) (hv : nameV name = false) : Calls Tryz.prog 4 #[.string name, .int .i64 n, .int .u8 x] w (fun e w' => e = .returned (.bool true) ∧ Below w.heap.size w w') := by
  have HO := Lib.hid (fun v w => Open_name v name w hs hv)
  have HR := Lib.hid (fun w => rName_any name w hs)
  rw [hv] at HR
  clear hv hs
  go_enter Tryz.func4, Tryz.ntmps4
  go_wp2_with fail
  refine (New_L _).mono ?_
  rintro e w1 ⟨r, rfl, hs⟩
  have B1 := Lib.hid hs.2
  clear hs
  go_wp2_with (first | (go_at_call 20; (with_reducible refine (HO.out _ _).mono ?_); rintro e w2 ⟨rfl, rfl⟩) | (go_at_call 27; (with_reducible refine (HR.out _).mono ?_); rintro e w2 ⟨rfl, rfl⟩) | (go_at_call 22; refine halt_ ?_))
  refine (known33_any _).mono ?_
  rintro e w3 ⟨rfl, hb⟩
  have B3 := Lib.hid (B1.out.trans (hb.mono B1.out.size))
  clear hb B1
  go_wp2_with fail
  go_ret
  exact ⟨rfl, B3.out⟩
theorem arr_eq (N : Nat) (hN : 1 ≤ N) (xb : UInt8) : (Array.replicate N (encU 0)).setIfInBounds (N - 1) (encU xb) = ((List.replicate (N - 1) (0 : UInt8) ++ [xb]).map encU).toArray := by
  obtain ⟨M, rfl⟩ : ∃ M, N = M + 1 := ⟨N - 1, by omega⟩
  apply Array.ext'
  rw [Nat.add_sub_cancel, Array.toList_setIfInBounds, Array.toList_replicate, List.replicate_succ', List.map_append, List.map_replicate]
  rw [List.set_append_right _ _ (by simp)]
  simp
theorem rb_new (w : World) (bs : List UInt8) : RB (w.alloc (.cells (bs.map encU).toArray 5)) ⟨some ⟨w.heap.size, 0, none⟩, bs.length, bs.length⟩ bs := by
  refine ⟨rfl, Nat.le_refl _, (fun e => by cases e), fun ad e => ?_⟩
  injection e with e
  exact ⟨w.heap.size, _, e.symm, IsB.new _ _ _, by simp, fun j u hu => by simpa using hu⟩
theorem IDs_none {b : Nat} {w0 w : World} {x : SR} {l : List Ob} (h : SW b w0 (x.obs l) w) (hC : x.C = []) : Calls Tryz.prog 28 #[vPtr x.ps] w (fun e w' => ∃ A c, e = .returned (.slice A 0 c) ∧ SW b w0 (x.obs l) w') := by
  refine (IDs_any h.1 (by rw [hC]; simp)).mono ?_
  rintro e w' ⟨A, c, ys, rfl, hp, _, _, hb⟩
  rw [hC] at hp
  have : ys = [] := hp.eq_nil
  subst this
  exact ⟨A, c, rfl, h.on hb⟩
set_option maxRecDepth 100000 in
set_option maxHeartbeats 8000000 in
theorem law4_yes (name : ByteArray) (n z : Int) (xb : UInt8) (hz : z = ((xb.toNat : Nat) : Int)) (w : World) (hs : name.size ≤ maxLen) (hv : nameV name = true) : Calls Tryz.prog 4 #[.string name, .int .i64 n, .int .u8 z] w (fun e w' => e = .returned (.bool true) ∧ Below w.heap.size w w') := by
  have HR := Lib.hid (fun w => rName_any name w hs)
  rw [hv] at HR
  have HV := Lib.hid hv
  have HZ : Hid (Value.int .u8 z = encU xb) := by rw [hz]; rfl
  clear hz
  have HFo := Lib.hid (fun w => Fold_any n 4 w (by omega))
  clear hv hs
  go_enter Tryz.func4, Tryz.ntmps4
  go_wp2_with fail
  refine (New_L _).mono ?_
  rintro e w1 ⟨r, rfl, hs⟩
  have HO := Lib.hid (Open_L (ns := [fileN name]) hs name HV.out rfl rfl (fun _ => rfl) (by decide) (by simp) (by simp))
  clear hs
  go_wp2_with (go_at_call 20; (with_reducible refine HO.out.mono ?_); refine halt_ ?_)
  rintro e w2 ⟨x0, rfl, hs, hc, hC, hF, hnm, _, hw, _⟩
  have S2 := Lib.hid hs
  have C2 := Lib.hid hc
  have HC := Lib.hid hC
  have HW := Lib.hid hw
  have HK := Lib.hid (known33_any w2)
  clear hs hc hC hF hnm hw HO
  go_wp2_with (first | (go_at_call 27; (with_reducible refine (HR.out _).mono ?_); rintro e w2 ⟨rfl, rfl⟩) | (go_at_call 22; (with_reducible refine HK.out.mono ?_); refine halt_ ?_))
  rintro e w3 ⟨rfl, hb⟩
  have S3 := Lib.hid (S2.out.on hb)
  have HI := Lib.hid (IDs_none S3.out HC.out)
  clear hb HK S2
  go_wp2_with (go_at_call 28; (with_reducible refine HI.out.mono ?_); refine halt_ ?_)
  rintro e w4 ⟨A, c, rfl, hs⟩
  have S4 := Lib.hid hs
  clear hs HI S3
  go_upto_region 7 with (go_at_call 24; (with_reducible refine (HFo.out _).mono ?_); refine halt_ ?_)
  rintro e w5 ⟨rr, hrr, rfl, rfl⟩
  obtain ⟨k, hk, hk1, hk2⟩ : ∃ k : Nat, rr = (k : Int) ∧ 0 ≤ k ∧ k < 4 := ⟨rr.toNat, by have := hrr.1; omega, by omega, by have := hrr.1; have := hrr.2.1 (by omega); omega⟩
  subst hk
  clear hrr HFo
  go_upto_region 7 with fail
  obtain ⟨N, hN, hN1, hN2⟩ : ∃ N : Nat, (8191 : Int) + (k : Int) = (N : Int) ∧ 8191 ≤ N ∧ N ≤ 8194 := ⟨8191 + k, by omega, by omega, by omega⟩
  rw [hN]
  clear hN hk1 hk2
  have hmk := mk_bytes w4 N N (Nat.le_refl _) (by omega)
  have I5 : IsB (w4.alloc (Obj.cells (Array.replicate N (encU 0)) 5)) w4.heap.size 5 (Array.replicate N (encU 0)) := IsB.new w4 5 _
  have hce : (w4.alloc (Obj.cells (Array.replicate N (encU 0)) 5)).cell? ⟨w4.heap.size, N - 1, none⟩ = some (encU 0) := by rw [I5.cell, Array.getElem?_replicate, if_pos (by omega)]
  have hfr := I5.frozen (N - 1)
  have HI5 := Lib.hid I5
  clear I5
  go_upto_region 9 with fail
  rw [HZ.out, arr_eq N (by omega) xb]
  obtain ⟨bs, HB⟩ : ∃ bs, Hid (List.replicate (N - 1) (0 : UInt8) ++ [xb] = bs) := ⟨_, rfl⟩
  rw [HB.out]
  have hbl : bs.length = N := by rw [← HB.out]; simp; omega
  have hrb := rb_new w4 bs
  rw [hbl] at hrb
  have S5 : Hid (SW w.heap.size w (x0.obs [bufOb ⟨some ⟨w4.heap.size, 0, none⟩, N, N⟩ bs]) (w4.alloc (Obj.cells (bs.map encU).toArray 5))) := (S4.out.newBytes ((Below.refl _ _).alloc (Nat.le_refl _) _) hrb (fun g hg => by injection hg with hg; exact Nat.le_of_eq hg)).behind
  have HRB := Lib.hid (hrb.rs)
  have HBL := Lib.hid hbl
  clear hrb hbl hmk hce hfr HI5 S4 HB
  generalize hW : w4.alloc (Obj.cells (bs.map encU).toArray 5) = W at *
  clear hW
  by_cases hbig : 8192 < N
  · have HP1 := Lib.hid (Put_size S5.out.1 C2.out.toWF (some ⟨w4.heap.size, 0, none⟩) N N (.inr hbig) (by omega))
    go_wp2_with (go_at_call 23; (with_reducible refine HP1.out.mono ?_); refine halt_ ?_)
    rintro e w5 ⟨rfl, hb⟩
    have S6 := Lib.hid ((S5.out.on hb).alloc (Obj.cells #[.int .u64 0, .int .i64 0] 31))
    have HP2 := Lib.hid (Put_size S6.out.1 C2.out.toWF none 0 0 (.inl (by omega)) (by omega))
    clear hb HP1
    go_wp2_with (go_at_call 23; (with_reducible refine HP2.out.mono ?_); refine halt_ ?_)
    rintro e w6 ⟨rfl, hb⟩
    have S7 := Lib.hid ((S6.out.on hb).alloc (Obj.cells #[.int .u64 0, .int .i64 0] 31))
    have HPe := Lib.hid (Pending_L S7.out 0 HW.out)
    clear hb HP2
    go_wp2_with (go_at_call 29; (with_reducible refine HPe.out.mono ?_); rintro e w7 ⟨rfl, rfl⟩)
    go_ret
    exact ⟨rfl, S7.out.2⟩
  · have HP1 := Lib.hid (PutN_L S5.out C2.out (some ⟨w4.heap.size, 0, none⟩) N bs HRB.out (by rw [HBL.out]; omega) (by rw [HBL.out]; omega) (by rw [HC.out]; rfl) (by rw [HC.out]; decide))
    rw [HBL.out] at HP1
    go_wp2_with (go_at_call 23; (with_reducible refine HP1.out.mono ?_); refine halt_ ?_)
    rintro e w5 ⟨rfl, d, hs, hc⟩
    obtain ⟨i, HI⟩ : ∃ i, Hid (fpOf bs = i) := ⟨_, rfl⟩
    have hgv : valC (putS x0 (fpOf bs) d bs) (fpOf bs) = some bs := (put_val x0 bs d (fpOf bs)).trans (if_pos rfl)
    have hio : okID (fpOf bs) := okID_fp bs (by rw [HBL.out]; omega)
    rw [HI.out] at hs hc hgv hio ⊢
    obtain ⟨x1, HX⟩ : ∃ x1, Hid (putS x0 i d bs = x1) := ⟨_, rfl⟩
    have hps : x0.ps = x1.ps := by rw [← HX.out]; rfl
    rw [HX.out] at hs hc hgv
    rw [hps]
    have S6 := Lib.hid (hs.newCell 31 #[.int .u64 i.1, .int .i64 i.2]).behind
    have C6 := Lib.hid hc
    have HGV := Lib.hid hgv
    have HP2 := Lib.hid (Put_size S6.out.1 hc.toWF none 0 0 (.inl (by omega)) (by omega))
    clear hs hc hgv hps HX HP1 C2 S5
    go_wp2_with (go_at_call 23; (with_reducible refine HP2.out.mono ?_); refine halt_ ?_)
    rintro e w6 ⟨rfl, hb⟩
    have S7 := Lib.hid ((S6.out.on hb).alloc (Obj.cells #[.int .u64 0, .int .i64 0] 31))
    have k0 : (w6.alloc (Obj.cells #[.int .u64 0, .int .i64 0] 31)).cell? ⟨w5.heap.size, 0, none⟩ = some (.int .u64 i.1) := (S7.out.cell 4 rfl).cell 0
    have k1 : (w6.alloc (Obj.cells #[.int .u64 0, .int .i64 0] 31)).cell? ⟨w5.heap.size, 1, none⟩ = some (.int .i64 i.2) := (S7.out.cell 4 rfl).cell 1
    have HG := Lib.hid (Get_L S7.out C6.out i hio bs HGV.out)
    clear hb HP2 S6
    go_wp2_with (go_at_call 30; (with_reducible refine HG.out.mono ?_); refine halt_ ?_)
    rintro e w8 ⟨d1, rfl, hs⟩
    have S8 := Lib.hid hs
    have k0 : w8.cell? ⟨w5.heap.size, 0, none⟩ = some (.int .u64 i.1) := (S8.out.cell 5 rfl).cell 0
    have k1 : w8.cell? ⟨w5.heap.size, 1, none⟩ = some (.int .i64 i.2) := (S8.out.cell 5 rfl).cell 1
    have hlt : w5.heap.size < w8.heap.size := (S8.out.cell 5 rfl).lt
    have R1 : RB w8 d1 bs := S8.out.get 4 (o := bufOb d1 bs) rfl
    have R2 : RB w8 ⟨some ⟨w4.heap.size, 0, none⟩, N, N⟩ bs := S8.out.get 6 (o := bufOb ⟨some ⟨w4.heap.size, 0, none⟩, N, N⟩ bs) rfl
    have v1 := fun g : Ext w8 => conv_rb (R1.on (wext_below g))
    have v2 := fun g : Ext w8 => conv_rb (R2.on (wext_below g))
    simp only at v2
    have heq := fun W => eql31 i i W
    have HOF := Lib.hid (fun g : Ext w8 => Of_any (some ⟨w4.heap.size, 0, none⟩) N bs (wext w8 g) (R2.rs.on (wext_below g)) (by rw [HBL.out]; omega))
    rw [HBL.out, HI.out] at HOF
    clear hs HG S7 R1 R2
    go_upto_region 14 with fail
    refine wp_region_ext (by kernel_rfl) (by kernel_rfl) ?_
    repeat (go_big_quiet_step ((go_at_call 31; exact ext_call (HOF.out _))))
    refine wpQuiet_nil ?_
    intro w9 hb
    have B9 : Hid (Below w.heap.size w w9) := S8.out.2.trans (hb.mono S8.out.2.size)
    clear hb heq v1 v2 k0 k1 HOF
    go_wp2_with fail
    go_ret
    exact ⟨rfl, B9.out⟩
theorem law4 (name : ByteArray) (n z : Int) (h0 : 0 ≤ z) (h1 : z ≤ 255) (w : World) (hs : name.size ≤ maxLen) : Calls Tryz.prog 4 #[.string name, .int .i64 n, .int .u8 z] w (fun e w' => e = .returned (.bool true) ∧ Below w.heap.size w w') := by
  cases hv : nameV name with
  | false => exact law4_no name n z w hs hv
  | true => exact law4_yes name n z (UInt8.ofNat z.toNat) (by rw [UInt8.toNat_ofNat']; omega) w hs hv
end Go.Proofs.YteabgcollokgjaaGreatDoor
namespace Go.Proofs.YteabgcollokgjaaGreatDoor.lawChunkstoreNames
open Go.ChangeShapes Go.WideShapes Go.ChangeAt Go.RowKit
open Go.ChangeMaps (open_string shut_string)
theorem own : ownKnob Tryz.prog.godebug = none := by kernel_rfl
theorem laidOut : laidOutB Tryz.prog = true := by kernel_rfl
set_option maxRecDepth 100000 in
theorem lifted (os : Os) (started : os.Started) (H : Type) (enc : TypeId × Value → H) :
    ReturnsInHanded {} Tryz.checked os 4 .any (fun w args => (Rows.chunkstoreNamesSpec.pre enc Tryz.prog Tryz.f4 [] false w args ∧ laidMetH Tryz.prog Rows.chunkstoreNamesRow.laid w) ∧ sizedMet enc Tryz.prog Tryz.f4 (OpenSpec.ofChange Rows.chunkstoreNamesSpec) false w args)
      (Rows.chunkstoreNamesSpec.post enc Tryz.prog Tryz.f4 false true false false) := by
  refine returnsInHanded_of_change_and (C := Tryz.checked) (X := fun w _ => laidMetH Tryz.prog Rows.chunkstoreNamesRow.laid w) (fun _ _ _ hh h => h.of_heap hh) own started (by kernel_rfl) Tryz.func4
    (ChangeSpec.witness_shaped (enc := enc) (C := Tryz.checked) (os := os) (X := fun w _ => laidMetH Tryz.prog Rows.chunkstoreNamesRow.laid w) false (World.laidAll Tryz.prog os Rows.chunkstoreNamesRow.laid) #[.string .empty, .int .i64 0, .int .u8 0] 8 (World.laidAll_os _ _ _)
      (World.shaped_of_ZipB (by kernel_rfl) (by kernel_rfl)) (by kernel_rfl) (by kernel_rfl) (by kernel_rfl)
      (by rw [MakeChecks.laidMetH_plain _ _ _ (by kernel_rfl)]; exact laidMet_laidAll _ (by kernel_rfl) (by kernel_rfl))) ?_
  intro W base args ds gs before hval0 hW _ _ _ _
  have hval : ∀ (j : Nat) t v, Tryz.f4.params[j]? = some t → args[j]? = some v → Value.okWide Tryz.prog W .any base t v := hval0
  have hW' := hW
  obtain ⟨p, q, hA0, hV, rfl, hfz, hnd⟩ := hW
  have hA : DataW.TrodAll enc Tryz.prog W 0 (fun _ => true) true Tryz.f4.params.toList args.toList ds p := hA0
  rw [Tryz.params4] at hA hval
  obtain ⟨v0, vs0, d0, ds0, p0, q0, hargs, rfl, rfl, h0, r0⟩ := trodAll_cons hA
  obtain ⟨v1, vs1, d1, ds1, p1, q1, rfl, rfl, rfl, h1, r1⟩ := trodAll_cons r0
  obtain ⟨v2, vs2, d2, ds2, p2, q2, rfl, rfl, rfl, h2, r2⟩ := trodAll_cons r1
  obtain ⟨rfl, rfl, rfl⟩ := trodAll_nil r2
  obtain rfl : args = #[v0, v1, v2] := by cases args; simp_all
  obtain ⟨rfl, rfl⟩ := trodVars_none hV
  obtain ⟨a0, rfl, rfl, rfl, w0⟩ := open_string Tryz.underlying9 (hval 0 9 v0 rfl rfl) h0
  obtain ⟨a1, rfl, rfl, rfl, w1⟩ := open_int Tryz.underlying3 (hval 1 3 v1 rfl rfl) h1
  obtain ⟨a2, rfl, rfl, rfl, w2⟩ := open_int Tryz.underlying5 (hval 2 5 v2 rfl rfl) h2
  have hx2 : 0 ≤ a2 ∧ a2 ≤ 255 := by simpa [Lit.wf, IntKind.min, IntKind.max, IntKind.signed, IntKind.bits] using w2
  clear hA0 hval0
  simp only [List.append_nil] at hW'
  refine (law4 a0 a1 a2 hx2.1 hx2.2 W w0).mono fun e W' ⟨he, bel⟩ => ?_
  subst he
  exact ⟨_, rfl, _, _, _, [], _, [], hW', trodAll_mk1 (shut_bool Tryz.underlying4 _), (trodAll_cons_mk (shut_string Tryz.underlying9 w0) (trodAll_cons_mk (shut_int Tryz.underlying3 w1) (trodAll_cons_mk (shut_int Tryz.underlying5 w2) trodAll_mk0))), rfl, bel.frame _, fun h => by cases h⟩
theorem over : Rows.ChunkstoreNamesSaid :=
  OpenClaim.holds_of_wide 4 Tryz.f4 rfl rfl rfl rfl rfl rfl rfl ⟨rfl, rfl, rfl, rfl, rfl⟩ rfl rfl rfl rfl rfl (by kernel_rfl) Tryz.func4 facts
    inst (by unfold Func.isWrapper; rw [if_neg (by decide +kernel)]; exact ⟨rfl, rfl⟩)
    (fun os started H enc _ => lifted os started H enc)
end Go.Proofs.YteabgcollokgjaaGreatDoor.lawChunkstoreNames
namespace Go.Proofs.YteabgcollokgjaaGreatDoor
open Go
theorem chunkstoreNames_card_holds : Rows.ChunkstoreNamesCardSaid :=
  Claim7.holds_tied_plain_at .later [] [.data, .data, .data, .sentinel, .sentinel] true (true, "4a38bbb49ce63abfc4bef169534f954a347f1319075e6aeec9c8b86bb9d66d28") true lawChunkstoreNames.over (fun _ h => by cases h) lawChunkstoreNames.cardWf (fun _ h => by cases h) chunkstoreNames_row_tie rfl ⟨rfl, rfl⟩ mainIs_ok rfl
    (fun f fn hf hfn => by
      obtain rfl : f = 4 := Option.some.inj (lawChunkstoreNames.named.symm.trans hf) |>.symm
      obtain rfl : fn = Tryz.f4 := (Option.some.inj (Tryz.func4.symm.trans hfn)).symm
      exact ⟨cardLooks, fun j t ht => by
        rw [Tryz.params4] at ht
        have hm : t ∈ [9, 3, 5] := by simpa using Array.mem_of_getElem? ht
        exact (show Tryz.prog.wantsStandIn t = false by simpa using List.all_eq_true.1 lawChunkstoreNames.noStand t hm)⟩)
    lawChunkstoreNames.cardGoes
#print axioms chunkstoreNames_card_holds
end Go.Proofs.YteabgcollokgjaaGreatDoor
