/- Contracts of the walk, part 32. -/
import Derived.Test.YtmiknfneeipkeaaGreatQ31
import Derived.Test.YtmiknfneeipkeaaGreatQ28
namespace Go.Proofs.YtmiknfneeipkeaaGreat
open Go.RowKit Go.MapKept Go.ChangeMaps Go.Shelf Go.Sort
attribute [local go_sem] wext_cell
theorem few_con {ms ys : List Man} (h : FewS ms) (hc : ConM ms ys) : FewS ys := by
  have h1 := conM_len hc
  have h2 := h.1
  exact ⟨by omega, fun m hm => h.2 m ((hc.2 m).1 hm)⟩
theorem man_same {ms : List Man} (ho : OneM ms) {a c : Man} (ha : a ∈ ms) (hc : c ∈ ms) (hea : manE a = 0) (hec : manE c = 0) (hk : keyM a = keyM c) : a = c := by
  have h1 := ho a ha c hc hk
  have h2 := (manE_zero hea).2.1
  have h3 := (manE_zero hec).2.1
  obtain ⟨z, i⟩ := a
  obtain ⟨z', i'⟩ := c
  simp only at h1 h2 h3
  subst h1
  rw [h2, h3]
theorem rdMans_vol {ys ms : List Man} {S : List CH} {k : Nat} (hy : ∀ m ∈ ys, ManOk m) (hn : ys.length < 18446744073709551616) (h : rdMans (volB ys S) = some (ms, k)) : ms = ys := by
  rw [volB, rdMans_put ys _ hy hn] at h
  injection h with h
  injection h with h _
  exact h.symm
section
variable {b : Nat} {w0 w w' : World} {l : List Ob}
theorem SW.bufRs {d : BD} {bs : List UInt8} (h : SW b w0 (bufOb d bs :: l) w) : SW b w0 (rsOb d.A bs :: l) w := by
  have hr : RB w d bs := h.get 0 (o := bufOb d bs) rfl
  refine h.asRead (o' := rsOb d.A bs) hr.rs (fun _ h => h) (fun i hi => ?_)
  obtain ⟨_, o, ho⟩ := hi
  show blk d = some i
  simp [blk, ho]
theorem vw_of {d : BD} {bs : List UInt8} (h : RB w d bs) (hl : bs.length ≤ 9223372036854775807) : (d.A = none → d.cap = 0) ∧ bs.length ≤ d.cap ∧ bs.length ≤ 9223372036854775807 := ⟨h.2.2.1, by rw [h.1]; exact h.2.1, hl⟩
end
set_option maxRecDepth 100000 in
set_option maxHeartbeats 16000000 in
theorem law7_any {w : World} {l : List Ob} (h : SW w.heap.size w l w) {A : Option Addr} {L : List Int} (hin : inOb A L ∈ l) (cap : Nat) :
    Calls Tryz.prog 7 #[.slice A L.length cap] w (fun e w' => e = .returned (.bool true) ∧ Below w.heap.size w w') := by
  have HIN := Lib.hid hin
  have S1 := Lib.hid (h.newTape HIN.out cap (H := w.heap.size) rfl)
  clear h hin
  have HC := Lib.hid (contents_any S1.out (by omega))
  go_enter Tryz.func7, Tryz.ntmps7
  go_wp2_with (go_at_call 8; (with_reducible refine HC.out.mono ?_); refine halt_ ?_)
  rintro e w1 ⟨Ps, p1, PA, CA, pc, cc, n1, rfl, hG, _, hn1, s1⟩
  have HG := Lib.hid hG
  have HF := Lib.hid (few_mans hG)
  have HCF := Lib.hid (chs_few hG)
  have HERR : Hid (errM (mansT Ps) = 0) := good_err hG
  have HFS : Hid (FewS (mansT Ps)) := ⟨by rw [mansT_len]; have := hG.1; omega, fun m hm => ⟨(HF.out m hm).2.1, (HF.out m hm).2.2.2⟩⟩
  have S2 := SW.bufsBs (S := chsT Ps) (SW.front (pre := [_, _, _, _]) s1 [3, 0, 1, 2] (n := 4) rfl (by decide)) (fun e he => (HCF.out.2 e he).2.2)
  rw [← mansT_len Ps] at S2 ⊢
  have hps : (mansT Ps).length ≤ 3 := by rw [mansT_len]; exact hG.1
  have S3 : Hid (SW w.heap.size w (rowOb 33 2 (.slice PA (mansT Ps).length pc) (mansT Ps).length (p1.flatMap encMR) :: msOb p1 (mansT Ps) :: rowOb 42 3 (.slice CA (chsT Ps).length cc) (chsT Ps).length ((chsT Ps).flatMap encCH) :: bsOb (chsT Ps) :: tpOb w.heap.size A cap L n1 :: l) w1) := SW.front (pre := [_, _, _, _]) S2 [1, 3, 2, 0] (n := 4) rfl (by decide)
  obtain ⟨ms, HMS⟩ : ∃ x, Hid (mansT Ps = x) := ⟨_, rfl⟩
  rw [HMS.out] at S3 HFS HF HERR hps ⊢
  have HMO : Hid (∀ m ∈ ms, ManOk m) := fun m hm => ⟨(HF.out m hm).1, fun i hi => ((HF.out m hm).2.2.2 i hi).1⟩
  have HST := Lib.hid (Store_b (im_row (S3.out.get 0 (o := rowOb 33 2 (.slice PA ms.length pc) ms.length (p1.flatMap encMR)) rfl) (S3.out.get 1 (o := msOb p1 ms) rfl)) (cx_row (S3.out.get 2 (o := rowOb 42 3 (.slice CA (chsT Ps).length cc) (chsT Ps).length ((chsT Ps).flatMap encCH)) rfl) rfl (S3.out.get 3 (o := bsOb (chsT Ps)) rfl)) (by omega) (fun m hm => by have := (HF.out m hm).2.1; omega) (fun m hm => (HMO.out m hm).2) (fun e he => (HCF.out.2 e he).1) (by have := HCF.out.1; omega) (few_pack HFS.out (chsT Ps)) pc cc)
  clear S1 HC s1 hG S2 HMS
  go_wp2_with (go_at_call 11; (with_reducible refine HST.out.mono ?_); refine halt_ ?_)
  rintro e w2 (⟨h1, _, _⟩ | ⟨_, _, rfl, hb2⟩ | ⟨_, h2, h3, ys, ⟨dA, dl, dk⟩, h4, rfl, hbuf⟩)
  · exact absurd HERR.out h1
  · have S4 := Lib.hid (S3.out.on hb2)
    have HKN := Lib.hid (known_any w2)
    clear hb2 S3 HST
    go_wp2_with (go_at_call 13; (with_reducible refine HKN.out.mono ?_); refine halt_ ?_)
    rintro e w3 ⟨rfl, hb3⟩
    have S5 := Lib.hid (S4.out.on hb3)
    clear hb3 S4 HKN
    go_wp2_with fail
    go_ret
    exact ⟨rfl, S5.out.2⟩
  · obtain ⟨bs, HBS⟩ : ∃ x, Hid (volB ys (selR (setR (idsOf ms)) (chsT Ps)) = x) := ⟨_, rfl⟩
    have hyl := conM_len h4
    have hyo : ∀ m ∈ ys, ManOk m := fun m hm => HMO.out m ((h4.2 m).1 hm)
    have hpk := few_pack HFS.out (chsT Ps) h3
    obtain ⟨hop, hvo⟩ := vol_put HMO.out h2 h4 h3 hpk (by omega)
    have hbl := volB_len (S := selR (setR (idsOf ms)) (chsT Ps)) hyo (by omega) hpk
    have HRM : Hid (∀ ms' k, rdMans bs = some (ms', k) → ms'.length < 20) := fun ms' k hr => by
      rw [← HBS.out] at hr
      rw [rdMans_vol hyo (by omega) hr]
      omega
    have HFY := Lib.hid (few_con HFS.out h4)
    have HVB : Hid (∀ (ms' ys' : List Man) (S' : List CH), opnV bs = some (ms', pcs S') → ConM ms' ys' → ys' = ys ∧ ms' = ys) := fun ms' ys' S' ho' hc' => by
      rw [← HBS.out] at ho'
      exact vol_back hop h4 ho' hc'
    have HPK : Hid (∀ ms' S', opnV bs = some (ms', pcs S') → AllR (setR (idsOf ms')) S' → (packP (selR (setR (idsOf ms')) S')).length ≤ 1048576) := fun ms' S' ho' ha' => by
      have e1 : ms' = ys := by
        rw [← HBS.out, hop] at ho'
        injection ho' with ho'
        injection ho' with ho' _
        exact ho'.symm
      rw [e1] at ha' ⊢
      exact few_pack HFY.out S' ha'
    rw [HBS.out] at hvo hbl hbuf
    have HVO := Lib.hid hvo
    have HCON := Lib.hid h4
    have HONE := Lib.hid h2
    obtain rfl : bs.length = dl := hbuf.rb.1
    have hvv := vw_of hbuf.rb (by omega)
    simp only at hvv
    have HVV := Lib.hid hvv
    have S4 : Hid (SW w.heap.size w (rsOb dA bs :: rowOb 33 2 (.slice PA ms.length pc) ms.length (p1.flatMap encMR) :: msOb p1 ms :: rowOb 42 3 (.slice CA (chsT Ps).length cc) (chsT Ps).length ((chsT Ps).flatMap encCH) :: bsOb (chsT Ps) :: tpOb w.heap.size A cap L n1 :: l) w2) := (SW.newBuT S3.out hbuf.bl hbuf.rb hbuf.nw).bufRs
    have HCN := Lib.hid (Contents_any S4.out (.head _) HVV.out (by omega) HRM.out HPK.out)
    simp only [vB]
    clear hvo hbuf h2 h3 h4 hyo hop hpk hvv S3 HST HBS
    go_wp2_with (go_at_call 20; (with_reducible refine HCN.out.mono ?_); refine halt_ ?_)
    rintro e w3 (⟨ms', ys', S', D, dD, hvo', hop', hcon', rfl, t3⟩ | ⟨hno, _, _⟩)
    · obtain ⟨e1, e2⟩ := HVB.out _ _ _ hop' hcon'
      subst e1
      clear e2
      have S5 := Lib.hid t3
      have HKN := Lib.hid (known_any w3)
      clear t3 hop' hcon' hvo' HCN S4
      go_wp2_with (go_at_call 13; (with_reducible refine HKN.out.mono ?_); refine halt_ ?_)
      rintro e w4 ⟨rfl, hb4⟩
      have S6 := Lib.hid (S5.out.on hb4)
      clear hb4 S5 HKN
      go_wp2_with fail
      go_loopw [10] (fun s10 wr => ∃ i : Nat, i ≤ ms.length ∧ s10 = .int .i64 (i : Int) ∧ SW w.heap.size w (rowOb 36 2 (.slice D ys'.length dD) ys'.length ((ys'.map keyM).flatMap encID) :: rsOb dA bs :: rowOb 33 2 (.slice PA ms.length pc) ms.length (p1.flatMap encMR) :: msOb p1 ms :: rowOb 42 3 (.slice CA (chsT Ps).length cc) (chsT Ps).length ((chsT Ps).flatMap encCH) :: bsOb (chsT Ps) :: tpOb w.heap.size A cap L n1 :: l) wr) (fun s10 _ => ms.length - (intOf s10).toNat)
      case atStart => exact ⟨0, Nat.zero_le _, rfl, S6.out⟩
      case round =>
        obtain ⟨i, hi, rfl, hs⟩ := hrel
        have S7 := Lib.hid hs
        clear hs S6
        by_cases hlt : i < ms.length
        · obtain ⟨⟨z, rA, rn, rc2⟩, HR⟩ : ∃ r, Hid (p1.getD i mr0 = r) := ⟨_, rfl⟩
          obtain ⟨m, HMK⟩ : ∃ m, Hid (ms.getD i man0 = m) := ⟨_, rfl⟩
          have hmem : m ∈ ms := by rw [← HMK.out]; exact getD_mem _ _ _ hlt
          have hM := S7.out.get 3 (o := msOb p1 ms) rfl
          have hlk := hM.2 i hlt
          rw [HR.out, HMK.out] at hlk
          obtain ⟨l1, l2, l3, l4⟩ := hlk
          simp only at l1 l2 l3 l4
          subst l1 l2
          have HPL : Hid (p1.length = ms.length) := hM.1
          have hrow := S7.out.get 2 (o := rowOb 33 2 (.slice PA ms.length pc) ms.length (p1.flatMap encMR)) rfl
          obtain ⟨gM, cM, e7⟩ := own_some hrow (by omega)
          injection e7 with e7 e8 e9
          clear e8 e9
          subst e7
          have HCB : Hid (∀ (W : World), SW w.heap.size w (rowOb 36 2 (.slice D ys'.length dD) ys'.length ((ys'.map keyM).flatMap encID) :: rsOb dA bs :: rowOb 33 2 (.slice (some ⟨gM, 0, none⟩) ms.length pc) ms.length (p1.flatMap encMR) :: msOb p1 ms :: rowOb 42 3 (.slice CA (chsT Ps).length cc) (chsT Ps).length ((chsT Ps).flatMap encCH) :: bsOb (chsT Ps) :: tpOb w.heap.size A cap L n1 :: l) W → gM < W.heap.size ∧ W.cell? ⟨gM, i * 2, none⟩ = some (.int .i64 m.size) ∧ W.cell? ⟨gM, i * 2 + 1, none⟩ = some (.slice rA m.ids.length rc2) ∧ RdID W W.heap.size rA m.ids ∧ RdID W W.heap.size D (ys'.map keyM)) := fun W hS => by
            have hrow := hS.get 2 (o := rowOb 33 2 (.slice (some ⟨gM, 0, none⟩) ms.length pc) ms.length (p1.flatMap encMR)) rfl
            have cellB : ∀ a v, a < 2 → (encMR (⟨m.size, rA, m.ids.length, rc2⟩ : MR))[a]? = some v → W.cell? ⟨gM, i * 2 + a, none⟩ = some v := fun a v ha hv => by
              rw [hrow.cellAt (i * 2 + a) (by omega), flat_at encMR_len mr0 _ i a (by rw [HPL.out]; omega) ha, HR.out]
              exact hv
            have hL := (hS.get 3 (o := msOb p1 ms) rfl).2 i hlt
            rw [HR.out, HMK.out] at hL
            exact ⟨(hrow.lt gM rfl).2, cellB 0 _ (by omega) rfl, cellB 1 _ (by omega) rfl, hL.2.2.2, row_rdI (hS.get 0 (o := rowOb 36 2 (.slice D ys'.length dD) ys'.length ((ys'.map keyM).flatMap encID)) rfl) (by rw [List.length_map])⟩
          have hmo := HMO.out m hmem
          have hml : m.ids.length ≤ 9223372036854775807 := by have := manE_len hmo.1; omega
          obtain ⟨_, p0, p2, _, _⟩ := HCB.out _ S7.out
          have HWH := Lib.hid (Whole_ok _ m rA rc2 wr l4 hml hmo.2 hmo.1)
          obtain ⟨k1, k2, HKM⟩ : ∃ a c, Hid (keyM m = (a, c)) := ⟨_, _, rfl⟩
          rw [HKM.out] at HWH
          have HMEM := Lib.hid hmem
          have HM1 := Lib.hid hmo
          clear hM l3 l4 hmem hrow hmo
          go_wp2_with (go_at_call 31; (with_reducible refine HWH.out.mono ?_); refine halt_ ?_)
          rintro e w5 ⟨rfl, hb5⟩
          have S8 := Lib.hid ((S7.out.on hb5).newCell 36 #[.int .u64 k1, .int .i64 k2])
          clear hb5 HWH S7 p0 p2
          go_upto_region 13 with fail
          obtain ⟨w6, HW6⟩ : ∃ W, Hid (w5.alloc (.cells #[.int .u64 k1, .int .i64 k2] 36) = W) := ⟨_, rfl⟩
          obtain ⟨gI, HGI⟩ : ∃ x, Hid (w5.heap.size = x) := ⟨_, rfl⟩
          rw [HW6.out, HGI.out] at S8 ⊢
          clear HW6 HGI
          have b0 := (S8.out.cell 0 rfl).cell 0
          have b1 := (S8.out.cell 0 rfl).cell 1
          have HRS := Lib.hid (Restore_any S8.out (.tail _ (.tail _ (.head _))) HVV.out (by omega) HRM.out HPK.out k1 k2)
          go_wp2_with (go_at_call 22; (with_reducible refine HRS.out.mono ?_); refine halt_ ?_)
          rintro e w7 (⟨ms2, ys2, S2, m2, rA2, rc3, T, C, tc, hvo2, hop2, hcon2, hm2, hk2, hT1, hT2, rfl, t7⟩ | ⟨ms2, ys2, S2, hvo2, hop2, hcon2, hall, _, _⟩ | ⟨hno, _, _⟩)
          · obtain ⟨e1, e2⟩ := HVB.out _ _ _ hop2 hcon2
            subst e1
            clear e2
            have hm2' := (HCON.out.2 m2).1 hm2
            obtain rfl : m2 = m := man_same HONE.out hm2' HMEM.out (HMO.out m2 hm2').1 HM1.out.1 (by rw [hk2, HKM.out])
            obtain ⟨HGET, HWA⟩ := rst_get hT1 hT2
            have HGE := Lib.hid HGET
            have HWE : Hid (fpOf (asmL T m2.ids) = (k1, k2)) := by rw [Hid, ← HWA, ← HKM.out]; rfl
            have HTO := Lib.hid (asm_okid hT1 HM1.out.2)
            have HTL : Hid (T.length ≤ 1024) := by
              have h1 := firsts_len m2.ids
              have h2 := manE_len HM1.out.1
              have h3 := congrArg List.length hT1
              rw [List.length_map] at h3
              rw [Hid]
              omega
            have hsz := man_size HM1.out
            obtain ⟨n, HN⟩ : ∃ n : Nat, Hid (m2.size = (n : Int)) := ⟨m2.size.toNat, by rw [Hid]; omega⟩
            have HE0 : Hid (manE ⟨(n : Int), m2.ids⟩ = 0) := by
              have h1 := HM1.out.1
              rw [Hid, ← HN.out]
              exact h1
            have S9 := Lib.hid (t7.newCell 33 #[.int .i64 m2.size, .slice rA2 m2.ids.length rc3])
            clear t7 HGET HWA hT1 hT2 hop2 hcon2 hvo2 hm2 hk2 hm2' HRS S8 b0 b1
            go_upto_region 14 with fail
            obtain ⟨w8, HW8⟩ : ∃ W, Hid (w7.alloc (.cells #[.int .i64 m2.size, .slice rA2 m2.ids.length rc3] 33) = W) := ⟨_, rfl⟩
            obtain ⟨gN, HGN⟩ : ∃ x, Hid (w7.heap.size = x) := ⟨_, rfl⟩
            rw [HW8.out, HGN.out] at S9 ⊢
            clear HW8 HGN
            have SA : Hid (SW w.heap.size w (rgOb rA2 m2.ids :: cxOb C T :: cellOb gN 33 #[.int .i64 m2.size, .slice rA2 m2.ids.length rc3] :: msOb [⟨m2.size, rA2, m2.ids.length, rc3⟩] [m2] :: cellOb gI 36 #[.int .u64 k1, .int .i64 k2] :: rowOb 36 2 (.slice D ys2.length dD) ys2.length ((ys2.map keyM).flatMap encID) :: rsOb dA bs :: rowOb 33 2 (.slice (some ⟨gM, 0, none⟩) ms.length pc) ms.length (p1.flatMap encMR) :: msOb p1 ms :: rowOb 42 3 (.slice CA (chsT Ps).length cc) (chsT Ps).length ((chsT Ps).flatMap encCH) :: bsOb (chsT Ps) :: tpOb w.heap.size A cap L n1 :: l) w8) :=
              SW.asRg (r := ⟨m2.size, rA2, m2.ids.length, rc3⟩) (SW.fuseCx (SW.front (pre := [_, _, _, _]) S9.out [1, 2, 0, 3] (n := 4) rfl (by decide))) (.tail _ (.tail _ (.head _)))
            have c0 := (SA.out.cell 2 rfl).cell 0
            have c1 := (SA.out.cell 2 rfl).cell 1
            rw [HN.out] at c0
            have HAS := Lib.hid (Assemble_any SA.out n m2.ids rA2 rc3 (.head _) HE0.out (C := C) (T := T) tc (.tail _ (.head _)) HTO.out (by have := HTL.out; omega) HGE.out)
            clear S9
            go_wp2_with (go_at_call 32; (with_reducible refine HAS.out.mono ?_); refine halt_ ?_)
            rintro e w9 ⟨⟨qA, ql, qc⟩, rfl, t9⟩
            obtain ⟨qs, HQS⟩ : ∃ x, Hid (asmL T m2.ids = x) := ⟨_, rfl⟩
            rw [HQS.out] at t9 HWE
            have SB := Lib.hid t9
            have hrb : RB w9 ⟨qA, ql, qc⟩ qs := t9.get 0 (o := bufOb ⟨qA, ql, qc⟩ qs) rfl
            obtain rfl : qs.length = ql := hrb.1
            have HRS9 := Lib.hid hrb.rs
            have hql : qs.length ≤ 1048576 := by
              have h1 : ((qs.length : Nat) : Int) = k2 := congrArg Prod.snd HWE.out
              have h2 := manE_zero HM1.out.1
              obtain ⟨_, h4, _⟩ := wholeP_ok _ m2.ids rfl h2.1 (by rw [← h2.2.1]; exact h2.2.2)
              have h5 : wholeP m2.ids = (k1, k2) := HKM.out
              rw [h5, ← h2.2.1] at h4
              simp only at h4
              omega
            clear t9 hrb HAS SA c0 c1
            have b0 := (SB.out.cell 5 rfl).cell 0
            have b1 := (SB.out.cell 5 rfl).cell 1
            have c0 := (SB.out.cell 3 rfl).cell 0
            have c1 := (SB.out.cell 3 rfl).cell 1
            have hlI := (SB.out.cell 5 rfl).lt
            have hlN := (SB.out.cell 3 rfl).lt
            have SL : Hid (SW w.heap.size w (rowOb 36 2 (.slice D ys2.length dD) ys2.length ((ys2.map keyM).flatMap encID) :: rsOb dA bs :: rowOb 33 2 (.slice (some ⟨gM, 0, none⟩) ms.length pc) ms.length (p1.flatMap encMR) :: msOb p1 ms :: rowOb 42 3 (.slice CA (chsT Ps).length cc) (chsT Ps).length ((chsT Ps).flatMap encCH) :: bsOb (chsT Ps) :: tpOb w.heap.size A cap L n1 :: l) w9) := SB.out.tail.tail.tail.tail.tail.tail
            obtain ⟨hlM, p0, p2, r1, r2⟩ := HCB.out _ SL.out
            have HRG := Lib.hid (SB.out.get 1 (o := rgOb rA2 m2.ids) rfl : RdID w9 w9.heap.size rA2 m2.ids)
            have HR1 := Lib.hid r1
            have HR2 := Lib.hid r2
            have HOF := Lib.hid (fun (W : World) (hb : Below w9.heap.size w9 W) => Of_any qA qc qs W (HRS9.out.on hb) (by omega))
            rw [HWE.out] at HOF
            have HSA := Lib.hid (fun (W : World) (hb : Below w9.heap.size w9 W) => rSame_any w9.heap.size w9.heap.size m2 m2 rA2 rA rc3 rc2 W (HRG.out.on hb) (HR1.out.on hb) hml hml)
            have HHA := Lib.hid (fun (W : World) (hb : Below w9.heap.size w9 W) => rHas_any w9.heap.size (ys2.map keyM) D dD k1 k2 W (HR2.out.on hb) (by rw [List.length_map]; omega))
            rw [show decide (m2.size = m2.size ∧ m2.ids = m2.ids) = true from decide_eq_true ⟨rfl, rfl⟩] at HSA
            rw [show decide (((k1, k2) : ID) ∈ ys2.map keyM) = true from decide_eq_true (List.mem_map.2 ⟨m2, (HCON.out.2 m2).2 HMEM.out, HKM.out⟩), List.length_map] at HHA
            clear r1 r2
            go_upto_region 15 with fail
            refine wp_region_ext (by kernel_rfl) (by kernel_rfl) ?_
            repeat (go_big_quiet_step (first | (go_at_call 33; exact ext_call (HOF.out _ (wext_below _))) | (go_at_call 24; exact ext_call (HSA.out _ (wext_below _))) | (go_at_call 34; exact ext_call (HHA.out _ (wext_below _)))))
            refine wpQuiet_nil ?_
            intro w10 hb10
            have SZ := Lib.hid (SL.out.on hb10)
            clear hb10 SL SB HOF HSA HHA b0 b1 c0 c1 hlI hlN hlM p0 p2
            go_wp2_with fail
            go_roundw
            case rel => exact ⟨i + 1, by omega, by go_num, SZ.out⟩
            case measure => simp [intOf]; omega
          · obtain ⟨e1, e2⟩ := HVB.out _ _ _ hop2 hcon2
            subst e1
            exact absurd HKM.out (hall m ((HCON.out.2 m).2 HMEM.out))
          · exact absurd HVO.out hno
        · obtain rfl : i = ms.length := by omega
          have hle : decide ((ys'.length : Int) ≤ (ms.length : Int)) = true := decide_eq_true (by omega)
          go_wp2_with fail
          go_ret
          exact ⟨rfl, S7.out.2⟩
    · exact absurd HVO.out hno
end Go.Proofs.YtmiknfneeipkeaaGreat
namespace Go.Proofs.YtmiknfneeipkeaaGreat
open Go.RowKit Go.MapKept Go.ChangeMaps Go.Shelf Go.Sort
theorem law7 {A : Option Addr} {L : List Int} {n : Nat} (e : L.length = n) (cap : Nat) (w : World) (hr : RdT w w.heap.size A L) (hl : n ≤ 9223372036854775807) :
    Calls Tryz.prog 7 #[.slice A n cap] w (fun e w' => e = .returned (.bool true) ∧ Below w.heap.size w w') := by
  subst e
  exact law7_any (SW.startIn hr hl) (.head _) cap
end Go.Proofs.YtmiknfneeipkeaaGreat
