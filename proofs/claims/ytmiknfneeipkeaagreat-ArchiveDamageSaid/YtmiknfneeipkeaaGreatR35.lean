/- Contracts of the walk, part 35. -/
import Derived.Test.YtmiknfneeipkeaaGreatR34
namespace Go.Proofs.YtmiknfneeipkeaaGreat
open Go.RowKit Go.MapKept Go.ChangeMaps Go.Shelf Go.Sort
attribute [local go_sem] wext_cell
theorem RB.setByte {w : World} {d : BD} {bs : List UInt8} (h : RB w d bs) {g p : Nat} (hA : d.A = some ⟨g, 0, none⟩) (x : UInt8) : RB (w.setCell ⟨g, p, none⟩ (.int .u8 ((x.toNat : Nat) : Int))) d (bs.set p x) := by
  obtain ⟨h1, h2, h3, h4⟩ := h
  refine ⟨by rw [List.length_set]; exact h1, h2, h3, fun ad e => ?_⟩
  obtain ⟨g', cur, e', hg, hs, hc⟩ := h4 ad e
  rw [hA] at e
  injection e with e
  rw [← e] at e'
  injection e' with e1
  subst e1
  refine ⟨g, cur.setIfInBounds p (.int .u8 ((x.toNat : Nat) : Int)), e.symm, IsB.set_ hg p _, by simpa using hs, fun j u hu => ?_⟩
  rw [List.map_set] at hu
  rw [← Array.getElem?_toList, Array.toList_setIfInBounds]
  by_cases hj : j = p
  · subst hj
    have hl : j < bs.length := by
      have := (List.getElem?_eq_some_iff.1 hu).1
      simpa using this
    rw [List.getElem?_set_self (by simpa using hl)] at hu
    rw [List.getElem?_set_self (by rw [Array.length_toList]; omega)]
    exact hu
  · rw [List.getElem?_set_ne (fun e => hj e.symm)] at hu ⊢
    rw [Array.getElem?_toList]
    exact hc j u hu
section
variable {b : Nat} {w0 w w' : World} {l : List Ob}
theorem SW.setByte (h : SW b w0 l w) (k : Nat) {d : BD} {bs : List UInt8} (hk : l[k]? = some (bufOb d bs)) {g p : Nat} (hA : d.A = some ⟨g, 0, none⟩) (x : UInt8) : SW b w0 (l.set k (bufOb d (bs.set p x))) (w.setCell ⟨g, p, none⟩ (.int .u8 ((x.toNat : Nat) : Int))) := by
  have hr : RB w d bs := h.get k hk
  have hm := hr.setByte (p := p) hA x
  have hb : blk d = some g := by simp [blk, hA]
  have := h.1.stepAt k hk (w' := w.setCell ⟨g, p, none⟩ (.int .u8 ((x.toNat : Nat) : Int))) (o' := bufOb d (bs.set p x)) (Fr.grown (g_set (p := ⟨g, p, none⟩) (g_refl w (some g)) (.inl rfl) _) hb (fun i hi => .inl hi)) (fun i hi => hi.elim) hm (fun i hi => by
    rcases hi with hi | hi
    · exact hm.lt hi
    · exact hi.elim)
  exact ⟨this.1, h.2.trans this.2⟩
theorem rb_cells {d : BD} {bs : List UInt8} (h : RB w d bs) (hp : 0 < bs.length) : ∃ g, d.A = some ⟨g, 0, none⟩ ∧ g < w.heap.size ∧ (∀ p, p < bs.length → w.cell? ⟨g, p, none⟩ = some (.int .u8 (((bs.getD p 0).toNat : Nat) : Int))) ∧ ∀ p, w.frozen? ⟨g, p, none⟩ = false := by
  obtain ⟨h1, h2, h3, h4⟩ := h
  cases hA : d.A with
  | none =>
    have := h3 hA
    omega
  | some ad =>
    obtain ⟨g, cur, rfl, hg, hs, hc⟩ := h4 ad hA
    refine ⟨g, rfl, hg.lt, fun p hpl => ?_, fun p => hg.frozen p⟩
    rw [hg.cell]
    refine hc p _ ?_
    rw [List.getElem?_map, List.getElem?_eq_getElem hpl, List.getD_eq_getElem?_getD, List.getElem?_eq_getElem hpl]
    rfl
end
theorem bits_xor_u8_nat (a b : Nat) (ha : a < 256) (hb : b < 256) : bits .xor .u8 (a : Int) (b : Int) = ((a ^^^ b : Nat) : Int) := by
  have hx : a ^^^ b < 2 ^ 8 := Nat.xor_lt_two_pow (by omega) (by omega)
  have h1 : (BitVec.ofInt 8 (a : Int)).toNat = a := by
    rw [BitVec.ofInt_natCast, BitVec.toNat_ofNat]; exact Nat.mod_eq_of_lt (by omega)
  have h2 : (BitVec.ofInt 8 (b : Int)).toNat = b := by
    rw [BitVec.ofInt_natCast, BitVec.toNat_ofNat]; exact Nat.mod_eq_of_lt (by omega)
  show IntKind.u8.wrap ((BitVec.ofInt 8 (a : Int) ^^^ BitVec.ofInt 8 (b : Int)).toNat : Int) = _
  rw [BitVec.toNat_xor, h1, h2]
  have : IntKind.u8.wrap ((a ^^^ b : Nat) : Int) = ((a ^^^ b : Nat) : Int) % 256 := by simp [IntKind.wrap, IntKind.bits, IntKind.signed]
  rw [this]
  omega
theorem fold_nat (v : Int) {n : Nat} (hn : 0 < n) : ∃ k : Nat, k < n ∧ Hid (foldI v (n : Int) = (k : Int)) := by
  have h1 := foldI_in v (n : Int)
  by_cases h : n = 1
  · subst h
    exact ⟨0, by omega, by rw [Hid, foldI, if_pos (by omega)]; rfl⟩
  · have h2 := h1.2 (by omega)
    exact ⟨(foldI v (n : Int)).toNat, by omega, by rw [Hid]; omega⟩
theorem xor_byte (a c : UInt8) : ∃ x : UInt8, bits .xor .u8 ((a.toNat : Nat) : Int) ((c.toNat : Nat) : Int) = ((x.toNat : Nat) : Int) ∧ (c ≠ 0 → a ≠ x) := by
  refine ⟨a ^^^ c, ?_, fun hc e => ?_⟩
  · rw [bits_xor_u8_nat a.toNat c.toNat a.toNat_lt c.toNat_lt, UInt8.toNat_xor]
  · apply hc
    have : a ^^^ a = a ^^^ (a ^^^ c) := by rw [← e]
    rw [UInt8.xor_self, ← UInt8.xor_assoc, UInt8.xor_self, UInt8.zero_xor] at this
    exact this.symm
set_option maxRecDepth 100000 in
set_option maxHeartbeats 16000000 in
theorem law6_any {w : World} {l : List Ob} (h : SW w.heap.size w l w) {A : Option Addr} {L : List Int} (hin : inOb A L ∈ l) (cap : Nat) (at_ : Int) (by_ : UInt8) :
    Calls Tryz.prog 6 #[.slice A L.length cap, .int .i64 at_, .int .u8 ((by_.toNat : Nat) : Int)] w (fun e w' => e = .returned (.bool true) ∧ Below w.heap.size w w') := by
  have HIN := Lib.hid hin
  have S1 := Lib.hid (h.newTape HIN.out cap (H := w.heap.size) rfl)
  clear h hin
  have HC := Lib.hid (contents_any S1.out (by omega))
  go_enter Tryz.func6, Tryz.ntmps6
  go_wp2_with (go_at_call 8; (with_reducible refine HC.out.mono ?_); refine halt_ ?_)
  rintro e w1 ⟨Ps, p1, PA, CA, pc, cc, n1, rfl, hG, _, hn1, s1⟩
  have HG := Lib.hid hG
  have HF := Lib.hid (few_mans hG)
  have HCF := Lib.hid (chs_few hG)
  have HERR : Hid (errM (mansT Ps) = 0) := good_err hG
  have HPB : Hid (∀ e ∈ chsT Ps, 1 ≤ e.2.bs.length ∧ e.2.bs.length ≤ 4 ∧ okCH e = true) := fun e he => by
    obtain ⟨T, hT, he⟩ := List.mem_flatMap.1 he
    obtain ⟨x, hx, rfl⟩ := List.mem_map.1 he
    have h1 := (hG.2 T hT).2 x hx
    have h2 : 1 ≤ x.bs.length ∧ x.bs.length ≤ 3 := ⟨h1.1, h1.2⟩
    refine ⟨h2.1, (show x.bs.length ≤ 4 by omega), ?_⟩
    rw [okCH, decide_eq_true_eq]
    have e1 : (fpOf x.bs).2 = ((x.bs.length : Nat) : Int) := rfl
    exact ⟨by simp only [e1]; omega, by simp only [e1]; omega, rfl⟩
  have HFS : Hid (FewS (mansT Ps)) := ⟨by rw [mansT_len]; have := hG.1; omega, fun m hm => ⟨(HF.out m hm).2.1, (HF.out m hm).2.2.2⟩⟩
  have HM0 : Hid ((chsT Ps).length ≠ 0 → 0 < (mansT Ps).length) := fun h => by
    cases Ps with
    | nil => exact absurd rfl h
    | cons a b => simp [mansT]
  have S2 := SW.bufsBs (S := chsT Ps) (SW.front (pre := [_, _, _, _]) s1 [3, 0, 1, 2] (n := 4) rfl (by decide)) (fun e he => (HCF.out.2 e he).2.2)
  rw [← mansT_len Ps] at S2 ⊢
  have hps : (mansT Ps).length ≤ 3 := by rw [mansT_len]; exact hG.1
  have S3 : Hid (SW w.heap.size w (rowOb 33 2 (.slice PA (mansT Ps).length pc) (mansT Ps).length (p1.flatMap encMR) :: msOb p1 (mansT Ps) :: rowOb 42 3 (.slice CA (chsT Ps).length cc) (chsT Ps).length ((chsT Ps).flatMap encCH) :: bsOb (chsT Ps) :: tpOb w.heap.size A cap L n1 :: l) w1) := SW.front (pre := [_, _, _, _]) S2 [1, 3, 2, 0] (n := 4) rfl (by decide)
  have HSEL : Hid (∀ Y : List CH, SrtR (chsT Ps) Y → AllR (setR (idsOf (mansT Ps))) (chsT Ps) → packP Y = packP (selR (setR (idsOf (mansT Ps))) (chsT Ps))) := fun Y hY ha => pack_pc (srt_sel hY ha (fun e he => (HPB.out e he).2.1))
  obtain ⟨ms, HMS⟩ : ∃ x, Hid (mansT Ps = x) := ⟨_, rfl⟩
  rw [HMS.out] at S3 HFS HF HERR hps HM0 HSEL ⊢
  obtain ⟨T, HTT⟩ : ∃ x, Hid (chsT Ps = x) := ⟨_, rfl⟩
  rw [HTT.out] at S3 HPB HM0 HSEL HCF ⊢
  have HMO : Hid (∀ m ∈ ms, ManOk m) := fun m hm => ⟨(HF.out m hm).1, fun i hi => ((HF.out m hm).2.2.2 i hi).1⟩
  have HST := Lib.hid (Store_b (im_row (S3.out.get 0 (o := rowOb 33 2 (.slice PA ms.length pc) ms.length (p1.flatMap encMR)) rfl) (S3.out.get 1 (o := msOb p1 ms) rfl)) (cx_row (S3.out.get 2 (o := rowOb 42 3 (.slice CA T.length cc) T.length (T.flatMap encCH)) rfl) rfl (S3.out.get 3 (o := bsOb T) rfl)) (by omega) (fun m hm => by have := (HF.out m hm).2.1; omega) (fun m hm => (HMO.out m hm).2) (fun e he => (HCF.out.2 e he).1) (by have := HCF.out.1; omega) (few_pack HFS.out T) pc cc)
  clear S1 HC s1 hG S2 HMS HTT
  go_wp2_with (go_at_call 11; (with_reducible refine HST.out.mono ?_); refine halt_ ?_)
  rintro e w2 (⟨h1, _, _⟩ | ⟨_, _, rfl, hb2⟩ | ⟨_, h2, h3, ys, ⟨dA, dl, dk⟩, h4, rfl, hbuf⟩)
  · exact absurd HERR.out h1
  · have S4 := Lib.hid (S3.out.on hb2)
    have HKN := Lib.hid (known_any w2)
    clear hb2 S3 HST
    go_wp2_with (go_at_call 13; (with_reducible refine HKN.out.mono ?_); refine halt_ ?_)
    rintro e w3 ⟨rfl, hb3⟩
    have S5 := Lib.hid (S4.out.on hb3)
    clear hb3 S4 HKN
    go_wp2_with fail
    go_ret
    exact ⟨rfl, S5.out.2⟩
  · have HB2 := Lib.hid hbuf
    have SV := SW.newBuT S3.out hbuf.bl hbuf.rb hbuf.nw
    have HONE := Lib.hid h2
    have HALL := Lib.hid h3
    have HCON := Lib.hid h4
    simp only [vB]
    clear hbuf h2 h3 h4 HST S3
    have S4 := Lib.hid SV
    clear SV
    by_cases hby : by_ = 0
    · have hbz : ((by_.toNat : Nat) : Int) = 0 := by rw [hby]; rfl
      rw [hbz]
      have HKN := Lib.hid (fun W => known_any W)
      go_wp2_with (go_at_call 13; (with_reducible refine (HKN.out _).mono ?_); refine halt_ ?_)
      rintro e w3 ⟨rfl, hb3⟩
      have S5 := Lib.hid (S4.out.on hb3)
      clear hb3 S4 HKN
      go_wp2_with fail
      go_ret
      exact ⟨rfl, S5.out.2⟩
    · have hbn : (((by_.toNat : Nat) : Int) == 0) = false := by
        rw [beq_eq_false_iff_ne]
        intro h
        exact hby (UInt8.toNat_inj.1 (by have : by_.toNat = 0 := by omega
                                         rw [this]; rfl))
      have HBY := Lib.hid hby
      by_cases hT0 : T.length = 0
      · have htz : ((T.length : Int) == 0) = true := by rw [beq_iff_eq]; omega
        have HKN := Lib.hid (fun W => known_any W)
        go_wp2_with (go_at_call 13; (with_reducible refine (HKN.out _).mono ?_); refine halt_ ?_)
        rintro e w3 ⟨rfl, hb3⟩
        have S5 := Lib.hid (S4.out.on hb3)
        clear hb3 S4 HKN
        go_wp2_with fail
        go_ret
        exact ⟨rfl, S5.out.2⟩
      · have htz : ((T.length : Int) == 0) = false := by rw [beq_eq_false_iff_ne]; omega
        have hml := HM0.out hT0
        have hTl := HCF.out.1
        have S5 : Hid (SW w.heap.size w (cxOb CA T :: bufOb ⟨dA, dl, dk⟩ (volB ys (selR (setR (idsOf ms)) T)) :: rowOb 33 2 (.slice PA ms.length pc) ms.length (p1.flatMap encMR) :: msOb p1 ms :: tpOb w.heap.size A cap L n1 :: l) w2) := SW.fuseCx (SW.front (pre := [_, _, _, _, _]) S4.out [3, 4, 0, 1, 2] (n := 5) rfl (by decide))
        have HBL := Lib.hid (bytesL_any S5.out (.head _) (by omega) cc)
        clear S4
        go_wp2_with (go_at_call 27; (with_reducible refine HBL.out.mono ?_); refine halt_ ?_)
        rintro e w3 ⟨D, dD, rfl, t3⟩
        have HSO := Lib.hid (rSortC_any t3 (.tail _ (.head _)) (.head _) (by omega) (fun e he => by have := (HPB.out e he).2.1; omega))
        clear HBL S5
        go_wp2_with (go_at_call 26; (with_reducible refine HSO.out.mono ?_); refine halt_ ?_)
        rintro e w4 ⟨Y, YA, yc, hY, hYl, rfl, t4⟩
        have HYO : Hid (∀ e ∈ Y, okCH e = true) := fun e he => by
          obtain ⟨e1, x, hx, e2⟩ := hY.2.1 e he
          obtain ⟨h1, h2, _⟩ := HPB.out x hx
          have e3 : (fpOf e.2.bs).2 = ((e.2.bs.length : Nat) : Int) := rfl
          rw [okCH, decide_eq_true_eq, ← e1]
          rw [e2] at h1 h2
          exact ⟨by simp only [e3]; omega, by simp only [e3]; omega, rfl⟩
        have HYS : Hid (∀ e ∈ Y, e.2.bs.length ≤ 4) := fun e he => by
          obtain ⟨e1, x, hx, e2⟩ := hY.2.1 e he
          rw [← e2]
          exact (HPB.out x hx).2.1
        have HPK := Lib.hid (HSEL.out Y hY HALL.out)
        have HYA := Lib.hid hY.1
        have hyp : 0 < Y.length := by
          have h1 : 0 < T.length := by omega
          have h2 := hY.2.2 (T[0]) (List.getElem_mem h1)
          rcases Nat.eq_zero_or_pos Y.length with h0 | h0
          · rw [List.eq_nil_of_length_eq_zero h0] at h2
            cases h2
          · exact h0
        have hpl := few_pack HFS.out T HALL.out
        have HVE : Hid (volB ys (selR (setR (idsOf ms)) T) = volB ys Y) := by rw [Hid, volB, volB, HPK.out]
        rw [← HPK.out] at hpl
        rw [HVE.out] at t4 HB2
        have S6 : Hid (SW w.heap.size w (cxOb YA Y :: bufOb ⟨dA, dl, dk⟩ (volB ys Y) :: rowOb 33 2 (.slice PA ms.length pc) ms.length (p1.flatMap encMR) :: msOb p1 ms :: l) w4) := SW.few (pre := [_, _, _, _, _, _, _]) (SW.fuseCx t4) [0, 3, 4, 5] (n := 7) rfl (by decide) (by decide)
        have HEN := Lib.hid (rPack_any S6.out (.head _) HYO.out (List.pairwise_map.1 HYA.out) hpl (by omega) yc)
        have HPL := Lib.hid hpl
        clear HSO t3 t4 hY hpl
        go_wp2_with (go_at_call 28; (with_reducible refine HEN.out.mono ?_); refine halt_ ?_)
        rintro e w5 ⟨⟨eA, el, ek⟩, rfl, t5⟩
        have hel : (packP Y).length = el := (t5.get 0 (o := bufOb ⟨eA, el, ek⟩ (packP Y)) rfl : RB w5 ⟨eA, el, ek⟩ (packP Y)).1
        have hdl : (volB ys Y).length = dl := (t5.get 2 (o := bufOb ⟨dA, dl, dk⟩ (volB ys Y)) rfl : RB w5 ⟨dA, dl, dk⟩ (volB ys Y)).1
        have HVL : Hid (dl = (volH ys.length ys).length + el) := by rw [Hid, ← hdl, ← hel, volB, List.length_append]
        have hyl := conM_len HCON.out
        have hyo : ∀ m ∈ ys, ManOk m := fun m hm => HMO.out m ((HCON.out.2 m).1 hm)
        have hbl := volB_len (S := Y) hyo (by omega) HPL.out
        have S7 := Lib.hid t5.tail
        have HYOk := Lib.hid hyo
        simp only [vB]
        clear t5 HEN S6 hyo
        have hgt : decide ((el : Int) > (dl : Int)) = false := decide_eq_false (by have := HVL.out; omega)
        have hgt2 : decide ((dl : Int) < (el : Int)) = false := decide_eq_false (by have := HVL.out; omega)
        have hgt3 : decide (dl < el) = false := decide_eq_false (by have := HVL.out; omega)
        have hle9 : el ≤ dl := by have := HVL.out; omega
        go_wp2_with (go_at_call 29; (with_reducible refine (Fold_x at_ (Y.length : Int) _ (by omega)).mono ?_); refine halt_ ?_)
        rintro e w6 ⟨rfl, rfl⟩
        obtain ⟨k, hk, HK⟩ : ∃ k : Nat, k < Y.length ∧ Hid (foldI at_ (Y.length : Int) = (k : Int)) := fold_nat at_ hyp
        rw [HK.out]
        obtain ⟨vh, HVH⟩ : ∃ x, Hid ((volH ys.length ys).length = x) := ⟨_, rfl⟩
        have hvl := HVL.out
        rw [HVH.out] at hvl
        have hw1 : IntKind.i64.wrap ((dl : Int) - (el : Int)) = (vh : Int) := by
          rw [show (dl : Int) - (el : Int) = (vh : Int) by omega]
          exact IntWalk.i64_in _ (by omega)
        have hw2 : IntKind.i64.wrap ((vh : Int) + 4) = ((vh + 4 : Nat) : Int) := by
          rw [show (vh : Int) + 4 = ((vh + 4 : Nat) : Int) by omega]
          exact IntWalk.i64_in _ (by omega)
        have hpb : ∀ q, q ≤ Y.length → placeP ys Y q ≤ dl := fun q hq => by
          have h1 : ((Y.take q).flatMap frameP).length ≤ (Y.flatMap frameP).length := by
            have e : Y.flatMap frameP = (Y.take q).flatMap frameP ++ (Y.drop q).flatMap frameP := by rw [← List.flatMap_append, List.take_append_drop]
            rw [e, List.length_append]
            omega
          have h2 : 4 + (Y.flatMap frameP).length ≤ (packP Y).length := by
            rw [packP, packB, packF]
            simp only [List.length_append, List.length_cons, List.length_nil]
            omega
          rw [placeP, HVH.out]
          omega
        have HPB2 := Lib.hid hpb
        have HP0 : Hid (vh + 4 = placeP ys Y 0) := by rw [Hid, placeP, HVH.out]; simp
        rw [HP0.out] at hw2
        clear hpb hvl
        go_wp2_with fail
        go_loopw [16, 17] (fun s16 s17 wr => ∃ q : Nat, q ≤ k + 1 ∧ s17 = .int .i64 (q : Int) ∧ s16 = .int .i64 ((placeP ys Y q : Nat) : Int) ∧ SW w.heap.size w (cxOb YA Y :: bufOb ⟨dA, dl, dk⟩ (volB ys Y) :: rowOb 33 2 (.slice PA ms.length pc) ms.length (p1.flatMap encMR) :: msOb p1 ms :: l) wr) (fun _ s17 _ => k + 1 - (intOf s17).toNat)
        case atStart => exact ⟨0, Nat.zero_le _, rfl, rfl, S7.out⟩
        case round =>
          obtain ⟨q, hq, rfl, rfl, hs⟩ := hrel
          have S8 := Lib.hid hs
          clear hs S7
          by_cases hlt : q ≤ k
          · obtain ⟨⟨⟨j1, j2⟩, ev⟩, HYQ⟩ : ∃ x, Hid (Y.getD q ch0 = x) := ⟨_, rfl⟩
            have hql : q < Y.length := by omega
            have hmem : ((j1, j2), ev) ∈ Y := by rw [← HYQ.out]; exact getD_mem _ _ _ hql
            obtain ⟨rfl, rfl, hl1, hl2⟩ := okCH_eq (HYO.out _ hmem)
            obtain ⟨gT, o, rfl, hgT, c0, c1, c2, hbs⟩ := cx_at (S8.out.get 0 (o := cxOb YA Y) rfl) hql HYQ.out
            simp only at c0 c1 c2
            have HFR := Lib.hid (fun (W : World) (hb : Below wr.heap.size wr W) => rFrame_any ev W ⟨hbs.1.on hb, hbs.2⟩ (by omega))
            have HPS := Lib.hid (place_succ (ys := ys) hql)
            rw [HYQ.out] at HPS
            have hpn := HPB2.out (q + 1) (by omega)
            rw [HPS.out] at hpn
            have hwp : IntKind.i64.wrap (((placeP ys Y q : Nat) : Int) + (((frameP (((fpSum ev.bs : Nat), (ev.bs.length : Nat)), ev)).length : Nat) : Int)) = ((placeP ys Y (q + 1) : Nat) : Int) := by
              rw [HPS.out, Int.natCast_add]
              exact IntWalk.i64_in _ (by omega)
            go_wp2_with (go_at_call 30; (with_reducible refine (HFR.out _ (Below.refl _ _)).mono ?_); refine halt_ ?_)
            rintro e w7 ⟨⟨fA, fl, fk⟩, rfl, hrb, hfr, hb7⟩
            have hfl : (frameP (((fpSum ev.bs : Nat), (ev.bs.length : Nat)), ev)).length = fl := hrb.1
            rw [hfl] at hwp
            have S9 := Lib.hid (S8.out.on hb7)
            clear hrb hfr hb7 hbs S8 HFR c0 c1 c2
            simp only [vB]
            go_wp2_with fail
            go_roundw
            case rel => exact ⟨q + 1, by omega, by go_num, rfl, S9.out⟩
            case measure => simp [intOf]; omega
          · obtain rfl : q = k + 1 := by omega
            have hp1 : 1 ≤ placeP ys Y (k + 1) := by
              rw [place_succ hk, placeP]
              omega
            have hp2 := HPB2.out (k + 1) (by omega)
            have hwm : IntKind.i64.wrap (((placeP ys Y (k + 1) : Nat) : Int) - 1) = ((placeP ys Y (k + 1) - 1 : Nat) : Int) := by
              rw [show ((placeP ys Y (k + 1) : Nat) : Int) - 1 = ((placeP ys Y (k + 1) - 1 : Nat) : Int) by omega]
              exact IntWalk.i64_in _ (by omega)
            obtain ⟨p, HPP⟩ : ∃ x, Hid (placeP ys Y (k + 1) - 1 = x) := ⟨_, rfl⟩
            rw [HPP.out] at hwm
            have hpd : p < dl := by have := HPP.out; omega
            obtain ⟨y0, HYB⟩ : ∃ y, Hid ((volB ys Y).getD p 0 = y) := ⟨_, rfl⟩
            obtain ⟨x, hx, hxn⟩ := xor_byte y0 by_
            have HXN := Lib.hid (hxn HBY.out)
            have HSP := Lib.hid (spoilt HYOk.out (by omega) HYO.out HYA.out HYS.out hk (x := x) (by rw [HPP.out, HYB.out]; exact HXN.out))
            rw [HPP.out] at HSP
            have hRB : RB wr ⟨dA, dl, dk⟩ (volB ys Y) := S8.out.get 1 (o := bufOb ⟨dA, dl, dk⟩ (volB ys Y)) rfl
            obtain ⟨gV, hgA, hgV, hcell, hfro⟩ := rb_cells hRB (by omega)
            simp only at hgA
            subst hgA
            have v0 := hcell p (by omega)
            rw [HYB.out] at v0
            have z0 := hfro p
            have S9 := Lib.hid (S8.out.setByte 1 rfl (g := gV) (p := p) rfl x)
            clear hRB hcell hfro hxn
            go_upto_region 19 with fail
            obtain ⟨bs, HBS⟩ : ∃ z, Hid ((volB ys Y).set p x = z) := ⟨_, rfl⟩
            have S9' := S9.out
            have HSP' := HSP.out
            rw [HBS.out] at S9' HSP'
            obtain ⟨_, hso, hsm⟩ := HSP'
            have hbn2 : bs.length = dl := by rw [← HBS.out, List.length_set]; exact hdl
            have HNV : Hid (¬ VolOk bs) := fun ⟨ms', ys', S', h1, _⟩ => by rw [hso] at h1; cases h1
            have hrb2 : RB _ ⟨some ⟨gV, 0, none⟩, dl, dk⟩ bs := S9'.get 1 (o := bufOb ⟨some ⟨gV, 0, none⟩, dl, dk⟩ bs) rfl
            have hvv := vw_of hrb2 (by omega)
            simp only at hvv
            have HVV := Lib.hid hvv
            have SA : Hid (SW w.heap.size w (rsOb (some ⟨gV, 0, none⟩) bs :: rowOb 33 2 (.slice PA ms.length pc) ms.length (p1.flatMap encMR) :: msOb p1 ms :: l) (wr.setCell ⟨gV, p, none⟩ (.int .u8 ((x.toNat : Nat) : Int)))) := (SW.tail S9').bufRs
            have HRM : Hid (∀ ms' k', rdMans bs = some (ms', k') → ms'.length < 20) := fun ms' k' hr => by
              rw [hsm ms' k' hr]
              omega
            have HPK2 : Hid (∀ ms' S', opnV bs = some (ms', pcs S') → AllR (setR (idsOf ms')) S' → (packP (selR (setR (idsOf ms')) S')).length ≤ 1048576) := fun ms' S' h1 _ => by rw [hso] at h1; cases h1
            have HCN := Lib.hid (Contents_any SA.out (.head _) HVV.out (by omega) HRM.out HPK2.out)
            rw [hbn2] at HCN
            clear S9 S9' hso hsm hrb2 hvv HSP S8 v0 z0
            go_wp2_with (go_at_call 20; (with_reducible refine HCN.out.mono ?_); refine halt_ ?_)
            rintro e w8 (⟨ms', ys', S', D', dD', hvo', _, _, _, _⟩ | ⟨_, rfl, t8⟩)
            · exact absurd hvo' HNV.out
            · have SB := Lib.hid t8
              obtain ⟨⟨z, rA, rn, rc2⟩, HR⟩ : ∃ r, Hid (p1.getD 0 mr0 = r) := ⟨_, rfl⟩
              obtain ⟨m, HMK⟩ : ∃ m, Hid (ms.getD 0 man0 = m) := ⟨_, rfl⟩
              have hmem : m ∈ ms := by rw [← HMK.out]; exact getD_mem _ _ _ hml
              have hM := SB.out.get 2 (o := msOb p1 ms) rfl
              have hlk := hM.2 0 hml
              rw [HR.out, HMK.out] at hlk
              obtain ⟨l1, l2, l3, l4⟩ := hlk
              simp only at l1 l2 l3 l4
              subst l1 l2
              have HPL2 : Hid (p1.length = ms.length) := hM.1
              have hrow := SB.out.get 1 (o := rowOb 33 2 (.slice PA ms.length pc) ms.length (p1.flatMap encMR)) rfl
              obtain ⟨gM, cM, e7⟩ := own_some hrow (by omega)
              injection e7 with e7 e8 e9
              clear e8 e9
              subst e7
              have cellB : ∀ a v, a < 2 → (encMR (⟨m.size, rA, m.ids.length, rc2⟩ : MR))[a]? = some v → w8.cell? ⟨gM, a, none⟩ = some v := fun a v ha hv => by
                have h1 := hrow.cellAt (0 * 2 + a) (by omega)
                rw [flat_at encMR_len mr0 _ 0 a (by rw [HPL2.out]; omega) ha, HR.out, Nat.zero_mul, Nat.zero_add] at h1
                rw [h1]
                exact hv
              have p0 : w8.cell? ⟨gM, 0, none⟩ = some (.int .i64 m.size) := cellB 0 _ (by omega) rfl
              have p2 : w8.cell? ⟨gM, 1, none⟩ = some (.slice rA m.ids.length rc2) := cellB 1 _ (by omega) rfl
              have hmo := HMO.out m hmem
              have HWH := Lib.hid (rWhole_ok _ m rA rc2 w8 l4 (by have := manE_len hmo.1; omega) hmo.2 hmo.1)
              obtain ⟨k1, k2, HKM⟩ : ∃ a c, Hid (keyM m = (a, c)) := ⟨_, _, rfl⟩
              rw [HKM.out] at HWH
              have hmlI : (0 : Int) < (ms.length : Int) := by omega
              clear hM l3 l4 hmem hrow hmo cellB t8 HCN SA
              go_wp2_with (go_at_call 10; (with_reducible refine HWH.out.mono ?_); refine halt_ ?_)
              rintro e w9 ⟨rfl, hb9⟩
              have SC := Lib.hid ((SB.out.on hb9).newCell 36 #[.int .u64 k1, .int .i64 k2])
              clear hb9 HWH SB p0 p2
              go_upto_region 21 with fail
              obtain ⟨wA, HWA⟩ : ∃ W, Hid (w9.alloc (.cells #[.int .u64 k1, .int .i64 k2] 36) = W) := ⟨_, rfl⟩
              obtain ⟨gI, HGI⟩ : ∃ z, Hid (w9.heap.size = z) := ⟨_, rfl⟩
              rw [HWA.out, HGI.out] at SC ⊢
              clear HWA HGI
              have b0 := (SC.out.cell 0 rfl).cell 0
              have b1 := (SC.out.cell 0 rfl).cell 1
              have HRS := Lib.hid (Restore_any SC.out (.tail _ (.head _)) HVV.out (by omega) HRM.out HPK2.out k1 k2)
              rw [hbn2] at HRS
              go_wp2_with (go_at_call 22; (with_reducible refine HRS.out.mono ?_); refine halt_ ?_)
              rintro e wB (⟨ms2, ys2, S2, m2, rA2, rc3, T2, C2, tc, hvo2, _⟩ | ⟨ms2, ys2, S2, hvo2, _⟩ | ⟨_, rfl, tB⟩)
              · exact absurd hvo2 HNV.out
              · exact absurd hvo2 HNV.out
              · have SD := Lib.hid (tB.newCell 33 #[.int .i64 0, .slice none 0 0])
                clear tB HRS SC b0 b1
                go_wp2_with fail
                go_ret
                exact ⟨rfl, SD.out.2⟩
end Go.Proofs.YtmiknfneeipkeaaGreat
namespace Go.Proofs.YtmiknfneeipkeaaGreat
open Go.RowKit Go.MapKept Go.ChangeMaps Go.Shelf Go.Sort
theorem law6 {A : Option Addr} {L : List Int} {n : Nat} (e : L.length = n) (cap : Nat) (at_ z : Int) (hz : (Lit.int .u8 z).wf = true) (w : World) (hr : RdT w w.heap.size A L) (hl : n ≤ 9223372036854775807) :
    Calls Tryz.prog 6 #[.slice A n cap, .int .i64 at_, .int .u8 z] w (fun e w' => e = .returned (.bool true) ∧ Below w.heap.size w w') := by
  subst e
  have h1 : 0 ≤ z ∧ z ≤ 255 := by
    rw [Lit.wf, Bool.and_eq_true, decide_eq_true_eq, decide_eq_true_eq] at hz
    simpa [IntKind.min, IntKind.max, IntKind.signed, IntKind.bits] using hz
  have h2 := law6_any (SW.startIn hr hl) (.head _) cap at_ (UInt8.ofNat z.toNat)
  have h3 : (((UInt8.ofNat z.toNat).toNat : Nat) : Int) = z := by
    rw [UInt8.toNat_ofNat']
    omega
  rw [h3] at h2
  exact h2
end Go.Proofs.YtmiknfneeipkeaaGreat
