/- UM UL OP OQ in one text. -/
import Derived.Test.YteabgcollokgjaaGreatDoorQ28
import Derived.Test.YteabgcollokgjaaGreatDoorQ27
import Derived.Test.YteabgcollokgjaaGreatDoorQ11
import Derived.Test.YteabgcollokgjaaGreatDoorQ02
import Derived.ChangeSlices
import Derived.ProofKit
import Derived.Test.YteabgcollokgjaaGreatDoorQ06
import Derived.Deep.SlicePairs
set_option linter.unusedSimpArgs false
set_option linter.unusedVariables false
namespace Go.Proofs.YteabgcollokgjaaGreatDoor
open Go.RowKit Go.MapKept Go.ChangeMaps Go.Shelf Go.Sort

theorem validB_fp {bs : List UInt8} (h1 : 1 ≤ bs.length) (h2 : bs.length ≤ 8192) : chunkB (fpOf bs) = true := by
 have h := fpSum_lt bs
 unfold pP at h
 have e : fpOf bs = (((fpSum bs : Nat) : Int), ((bs.length : Nat) : Int)) := rfl
 rw [e]
 simp only [chunkB, validB, Bool.and_eq_true, Bool.or_eq_true, decide_eq_true_eq, beq_iff_eq]
 omega
theorem sumZ_idS (T : List BS) : sumZ (idS T) = ((lenS T : Nat) : Int) := by
 induction T with
 | nil => rfl
 | cons e T ih =>
  have h1 : sumZ (idS (e :: T)) = (e.bs.length : Int) + sumZ (idS T) := rfl
  have h2 : lenS (e :: T) = e.bs.length + lenS T := by simp [lenS]
  rw [h1, h2, ih, Int.natCast_add]
/-- A manifest of few short chunks is valid. -/
theorem manE_idS {T : List BS} (hn : T.length ≤ 100) (hb : ∀ e ∈ T, 1 ≤ e.bs.length ∧ e.bs.length ≤ 8192) : manE ⟨((lenS T : Nat) : Int), idS T⟩ = 0 := by
 have hl := lenS_le (fun e he => (hb e he).2)
 have h2 : 8192 * T.length ≤ 819200 := by omega
 rw [manE_end (by simp [idS]; omega) (by
  rw [List.all_eq_true]
  intro i hi
  obtain ⟨e, he, rfl⟩ := List.mem_map.1 hi
  exact validB_fp (hb e he).1 (hb e he).2)]
 rw [if_pos ⟨(sumZ_idS T).symm, by simp only; omega⟩]
theorem errM_all {ms : List Man} (h : ∀ m ∈ ms, manE m = 0) : errM ms = 0 := by
 have : ∀ k, k ≤ ms.length → errM (ms.take k) = 0 := fun k => by
  induction k with
  | zero => intro _; rfl
  | succ k ih =>
   intro hk
   rw [take_snoc _ man0 _ (by omega), errM_snoc _ _ (ih (by omega))]
   exact h _ (getD_mem _ _ _ (by omega))
 have h2 := this ms.length (Nat.le_refl _)
 rwa [List.take_length] at h2
/-- Manifests whose IDs are read. -/
def msOb (rs : List MR) (ms : List Man) : Ob where
 own := fun _ => False
 rd := fun i => ∃ j, j < ms.length ∧ 0 < (ms.getD j man0).ids.length ∧ ∃ o, (rs.getD j mr0).A = some ⟨i, o, none⟩
 holds := fun w => rs.length = ms.length ∧ ∀ j, j < ms.length → Link w w.heap.size (rs.getD j mr0) (ms.getD j man0)
 stable := fun w w' h hs hk => by
  obtain ⟨h2, h3⟩ := h
  refine ⟨h2, fun j hj => ?_⟩
  obtain ⟨l1, l2, l3, l4⟩ := h3 j hj
  refine ⟨l1, l2, l3, fun hp => ?_⟩
  obtain ⟨b, o, e, hb, _, hc⟩ := l4 hp
  have hB := hk b (.inr ⟨j, hj, hp, o, e⟩)
  refine ⟨b, o, e, Nat.lt_of_lt_of_le hb hs.2.2.2, by have := hs.2.2.2; omega, fun j hj i v hv => ?_⟩
  rw [← hc j hj i v hv]
  simp [World.cell?, hB]
section
variable {b : Nat} {w0 w w' : World} {l : List Ob}
theorem SW.noMans (h : SW b w0 l w) : SW b w0 (msOb [] [] :: l) w := SW.fuse (pre := []) h ⟨rfl, fun j hj => by cases hj⟩ (fun _ h => h) (fun i hi => by
 obtain ⟨j, hj, _⟩ := hi
 cases hj)
theorem SW.fuseM {B : Option Addr} {ids : List ID} {rs : List MR} {ms : List Man} (h : SW b w0 (riOb B ids :: msOb rs ms :: l) w) (z : Int) (c : Nat) (hc : ids.length ≤ c) : SW b w0 (msOb (rs ++ [⟨z, B, ids.length, c⟩]) (ms ++ [⟨z, ids⟩]) :: l) w := by
 have hm : (msOb rs ms).holds w := h.get 1 (o := msOb rs ms) rfl
 refine SW.fuse (pre := [riOb B ids, msOb rs ms]) h ⟨by rw [List.length_append, List.length_append, hm.1]; rfl, fun j hj => ?_⟩ (fun _ h => h) (fun i hi => ?_)
 · rw [List.length_append] at hj
   by_cases hlt : j < ms.length
   · rw [getD_snoc_lt _ _ _ _ hlt, getD_snoc_lt _ _ _ _ (by rw [hm.1]; exact hlt)]
     exact hm.2 j hlt
   · have e : j = ms.length := by simp at hj; omega
     rw [getD_snoc_eq _ _ _ _ e, getD_snoc_eq _ _ _ _ (by rw [hm.1]; exact e)]
     exact ⟨rfl, rfl, hc, rdID_of (h.get 0 (o := riOb B ids) rfl)⟩
 · obtain ⟨j, hj, hp, o, e⟩ := hi
   rw [List.length_append] at hj
   by_cases hlt : j < ms.length
   · rw [getD_snoc_lt _ _ _ _ hlt] at hp
     rw [getD_snoc_lt _ _ _ _ (by rw [hm.1]; exact hlt)] at e
     exact ⟨msOb rs ms, by simp, .inr ⟨j, hlt, hp, o, e⟩⟩
   · have ej : j = ms.length := by simp at hj; omega
     rw [getD_snoc_eq _ _ _ _ (by rw [hm.1]; exact ej)] at e
     rw [getD_snoc_eq _ _ _ _ ej] at hp
     have hri : (riOb B ids).holds w := h.get 0 (o := riOb B ids) rfl
     refine ⟨riOb B ids, by simp, .inr ?_⟩
     obtain ⟨g, e2, _⟩ := hri.2 _ e
     injection e2 with e2 e3
     show B = some ⟨i, 0, none⟩
     have e : B = some ⟨i, o, none⟩ := e
     rw [e, e3]
theorem SW.fuseIm {A : Option Addr} {c : Nat} {rs : List MR} {ms : List Man} (h : SW b w0 (rowOb 89 2 (.slice A ms.length c) ms.length (rs.flatMap encMR) :: msOb rs ms :: l) w) : SW b w0 (imOb A rs ms :: l) w := by
 have hm : (msOb rs ms).holds w := h.get 1 (o := msOb rs ms) rfl
 have hr : w.ownsRow 0 89 2 (.slice A ms.length c) ms.length (rs.flatMap encMR) := h.get 0 rfl
 have hrd : Rd encMR 2 mr0 w w.heap.size A rs := by
  intro hp
  have hx : ∀ g, A = some ⟨g, 0, none⟩ → g < w.heap.size := fun g e => (hr.lt g (by rw [e]; rfl)).2
  rcases hr.2 with ⟨hv, h0⟩ | ⟨g, cap, cur, hv, _⟩
  · have := hm.1
    omega
  · injection hv with e1 e2 e3
    subst e1
    subst e3
    refine ⟨g, 0, rfl, hx g rfl, by have := hx g rfl; omega, fun j hj i v hi => ?_⟩
    have hi2 : i < 2 := by
     have := (List.getElem?_eq_some_iff.1 hi).1
     rwa [encMR_len] at this
    rw [Nat.zero_add, hr.cellAt (j * 2 + i) (by rw [← hm.1]; omega), flat_at encMR_len mr0 rs j i hj hi2]
    exact hi
 refine SW.fuse (pre := [rowOb 89 2 (.slice A ms.length c) ms.length (rs.flatMap encMR), msOb rs ms]) h ⟨hrd, hm.1, hm.2⟩ (fun _ h => h) (fun i hi => ?_)
 rcases hi with ⟨hp, o, e⟩ | hi
 · refine ⟨_, List.mem_cons_self .., .inl ?_⟩
   show (Value.slice A ms.length c).ownBlock = some i
   rw [e]
   rfl
 · exact ⟨msOb rs ms, by simp, .inr hi⟩
end
end Go.Proofs.YteabgcollokgjaaGreatDoor
namespace Go.Proofs.YteabgcollokgjaaGreatDoor
open Go.RowKit Go.MapKept Go.ChangeMaps Go.Shelf Go.Sort

/-- What Live returns: a list and an error. -/
def liveX (pin : List ID) (ms : List Man) : List ID := if errM ms = 0 then setR (pin ++ idsOf ms) else []
theorem liveX_len {pin : List ID} {ms : List Man} : (liveX pin ms).length ≤ pin.length + 1024 * ms.length := by
 unfold liveX
 split
 · rename_i h
   have h1 := setR_len (pin ++ idsOf ms)
   have h2 := idsOf_len h
   rw [List.length_append] at h1
   omega
 · simp
theorem refs_few {ls : List Man} (h : errM ls = 0) (hl : ls.length ≤ 3) (hi : ∀ m ∈ ls, m.ids.length ≤ 3) : ofP ls = (tabR (refs ls), 0) := by
 have hc : (idsOf ls).length ≤ 3 * ls.length := by
  clear h hl
  induction ls with
  | nil => simp [idsOf]
  | cons m t ih =>
   have h1 := hi m (by simp)
   have h2 := ih (fun m hm => hi m (by simp [hm]))
   have : idsOf (m :: t) = m.ids ++ idsOf t := by simp [idsOf]
   rw [this, List.length_append, List.length_cons]
   omega
 have hr : (refs ls).length ≤ 9 := by
  rw [refs_eq]
  have := addIDs_len (idsOf ls) []
  simp only [List.length_nil] at this
  omega
 unfold ofP limP
 rw [if_pos h, if_pos]
 rw [limB_iff]
 refine ⟨by omega, fun c hcm => ?_⟩
 have h1 := refs_bd h c.1
 have h2 := (asc_some_iff (refs_spec ls).1 c).1 hcm
 unfold nAt at h1
 rw [h2] at h1
 simp only [Option.getD_some] at h1
 omega
theorem tab_keys {ls : List Man} : (tabR (refs ls)).map (·.1) = setR (idsOf ls) := by
 have h := tabR_spec (refs_spec ls).1
 refine sorted_uniq (List.pairwise_map.2 h.1) (setR_strict _) (fun i => ?_)
 have h2 := @asc_none_iff (tabR (refs ls)) i
 rw [h.2, (refs_spec ls).2] at h2
 rw [setR_mem]
 by_cases hm : i ∈ idsOf ls
 · rw [if_pos hm] at h2
   refine ⟨fun _ => hm, fun _ => ?_⟩
   by_cases hk : i ∈ (tabR (refs ls)).map (·.1)
   · exact hk
   · have := h2.2 hk
     cases this
 · rw [if_neg hm] at h2
   exact ⟨fun hk => absurd hk (h2.1 rfl), fun hk => absurd hk hm⟩
section
variable {b : Nat} {w0 w w' : World} {l : List Ob}
theorem LiveP.one {pin : List ID} {ms : List Man} {e : Ending} (h : LiveP pin ms b w0 l e w') : ∃ A c, e = .returned (.tuple #[.slice A (liveX pin ms).length c, .int .i64 (errM ms)]) ∧ SW b w0 (riOb A (liveX pin ms) :: l) w' := by
 rcases h with ⟨h1, A, c, rfl, s⟩ | ⟨h1, rfl, s⟩
 · refine ⟨A, c, ?_, ?_⟩
   · rw [liveX, if_pos h1, h1]
   · rw [liveX, if_pos h1]
     exact s
 · refine ⟨none, 0, ?_, ?_⟩
   · rw [liveX, if_neg h1]
     rfl
   · rw [liveX, if_neg h1]
     exact SW.fuse (pre := []) s ⟨fun _ => rfl, fun ad e => by cases e⟩ (fun _ h => h) (fun i hi => by cases hi)
theorem imOb_rdM {A : Option Addr} {rs : List MR} {ms : List Man} (h : SW b w0 l w) (hm : imOb A rs ms ∈ l) {g : Nat} (hg : ∃ o ∈ l, o.own g) : RdM w g A ms := by
 obtain ⟨h1, h2, h3⟩ := h.1.holds _ hm
 obtain ⟨o, hol, hog⟩ := hg
 refine ⟨rs, fun hp => ?_, h2, fun j hj => ?_⟩
 · obtain ⟨q, oo, e, hb, _, hc⟩ := h1 hp
   exact ⟨q, oo, e, hb, fun e2 => h.noOwn hm (fun _ h => h) (i := q) (.inl ⟨hp, oo, e⟩) o hol (by rw [e2]; exact hog), hc⟩
 · obtain ⟨l1, l2, l3, l4⟩ := h3 j hj
   refine ⟨l1, l2, l3, fun hp => ?_⟩
   obtain ⟨q, oo, e, hb, _, hc⟩ := l4 hp
   exact ⟨q, oo, e, hb, fun e2 => h.noOwn hm (fun _ h => h) (i := q) (.inr ⟨j, hj, hp, oo, e⟩) o hol (by rw [e2]; exact hog), hc⟩
set_option maxRecDepth 100000 in
set_option maxHeartbeats 16000000 in
theorem law17_any (h : SW w.heap.size w l w) {A : Option Addr} {L : List Int} (hin : inOb A L ∈ l) (cap : Nat) {R : Option Addr} {rs : List MR} {ms : List Man} (hraw : imOb R rs ms ∈ l) (rc : Nat) {P : Option Addr} {pin : List ID} (hpin : ipOb P pin ∈ l) (pc : Nat) (hml : ms.length ≤ 9223372036854775807) (hmi : ∀ m ∈ ms, m.ids.length ≤ 9223372036854775807) (hpl : pin.length ≤ 9223372036854775807) :
 Calls Tryz.prog 17 #[.slice R ms.length rc, .slice P pin.length pc, .slice A L.length cap] w (fun e w' => e = .returned (.bool true) ∧ Below w.heap.size w w') := by
 have S0 := Lib.hid h
 have HIN := Lib.hid hin
 have HRAW := Lib.hid hraw
 have HPIN := Lib.hid hpin
 have HMI := Lib.hid hmi
 clear h hin hraw hpin hmi
 go_enter Tryz.func17, Tryz.ntmps17
 by_cases h8 : 8 < ms.length
 · have hd : decide ((ms.length : Int) > 8) = true := decide_eq_true (by omega)
   go_wp2_with fail
   go_ret
   exact ⟨rfl, S0.out.2⟩
 · have hd : decide ((ms.length : Int) > 8) = false := decide_eq_false (by omega)
   by_cases h60 : 60 < pin.length
   · have hd2 : decide ((pin.length : Int) > 60) = true := decide_eq_true (by omega)
     go_wp2_with fail
     go_ret
     exact ⟨rfl, S0.out.2⟩
   · have hd2 : decide ((pin.length : Int) > 60) = false := decide_eq_false (by omega)
     have S1 := Lib.hid (S0.out.newTape HIN.out cap (H := w.heap.size) rfl)
     obtain ⟨W1, HW1⟩ : ∃ W1, Hid (w.alloc (.cells #[.slice A L.length cap, .int .i64 0] 50) = W1) := ⟨_, rfl⟩
     obtain ⟨tg, HTG⟩ : ∃ tg, Hid (w.heap.size = tg) := ⟨_, rfl⟩
     rw [HW1.out] at S1
     have S1 : Hid (SW w.heap.size w (tpOb tg A cap L 0 :: l) W1) := by
      have := S1.out
      rw [Hid, ← HTG.out]
      exact this
     obtain ⟨i1, gi, gz0, gz1, gz2⟩ := info_parts info34
     obtain ⟨j1, gj, gy0, gy1, gy2⟩ := info_parts info89
     clear S0
     go_upto_region 4 with fail
     rw [HW1.out]
     have HTG2 : Hid (w.heap.size = tg) := HTG.out
     clear HW1 HTG
     go_upto_region 5 with fail
     have HN := Lib.hid (Next_x S1.out 0 rfl 4 (by omega) (by omega))
     rw [HTG2.out]
     go_wp2_with (go_at_call 33; (with_reducible refine HN.out.mono ?_); refine halt_ ?_)
     rintro e w2 ⟨rfl, s2⟩
     obtain ⟨K, HK, hK⟩ : ∃ K : Nat, Hid (tnext L 0 4 = (K : Int)) ∧ K ≤ 3 := by
      obtain ⟨h0, h1⟩ := tnext_in L 0 4
      have h1 := h1 (by omega)
      exact ⟨(tnext L 0 4).toNat, by rw [Hid]; omega, by omega⟩
     rw [HK.out]
     have S2 : Hid (SW w.heap.size w (rowOb 89 2 (.slice none 0 0) 0 [] :: msOb [] [] :: tpOb tg A cap L 1 :: l) w2) := (SW.noMans s2).newRow 89 2
     clear s2 HN S1 HK
     go_wp2_with fail
     go_loopw [8, 9] (fun s8 s9 wr => ∃ (m n : Nat) (ls : List Man) (lr : List MR) (D : Option Addr) (dc : Nat), s9 = .int .i64 (m : Int) ∧ s8 = .slice D ls.length dc ∧ m + ls.length ≤ 3 ∧ n + 40 * m ≤ 200 ∧ Hid (∀ q ∈ ls, manE q = 0 ∧ q.ids.length ≤ 3 ∧ ∀ i ∈ q.ids, okID i) ∧ SW w.heap.size w (rowOb 89 2 (.slice D ls.length dc) ls.length (lr.flatMap encMR) :: msOb lr ls :: tpOb tg A cap L n :: l) wr) (fun _ s9 _ => (intOf s9).toNat)
     case atStart => exact ⟨K, 1, [], [], none, 0, rfl, rfl, by simpa using hK, by omega, (fun q hq => by cases hq), S2.out⟩
     case round =>
      obtain ⟨m, n, ls, lr, D, dc, rfl, rfl, hml3, hn, HLS, hs⟩ := hrel
      have S3 := Lib.hid hs
      clear hs S2
      cases m with
      | succ m =>
       have HN := Lib.hid (Next_x S3.out 2 rfl 4 (by omega) (by omega))
       have S3' := Lib.hid S3.out
       clear S3'
       go_wp2_with (go_at_call 33; (with_reducible refine HN.out.mono ?_); refine halt_ ?_)
       rintro e w3 ⟨rfl, s3⟩
       obtain ⟨K2, HK2, hK2⟩ : ∃ K : Nat, Hid (tnext L n 4 = (K : Int)) ∧ K ≤ 3 := by
        obtain ⟨h0, h1⟩ := tnext_in L n 4
        have h1 := h1 (by omega)
        exact ⟨(tnext L n 4).toNat, by rw [Hid]; omega, by omega⟩
       rw [HK2.out]
       have S4 : Hid (SW w.heap.size w (rowOb 34 1 (.slice none 0 0) 0 [] :: bufsOb [] :: rowOb 89 2 (.slice D ls.length dc) ls.length (lr.flatMap encMR) :: msOb lr ls :: tpOb tg A cap L (n + 1) :: l) w3) := (SW.noBufs s3).newRow 34 1
       clear s3 HN S3 HK2
       go_wp2_with fail
       rename World => wa
       go_loopw [10, 11] (fun s10 s11 wr => ∃ (q n' : Nat) (T : List BS) (E : Option Addr) (ec : Nat), s11 = .int .i64 (q : Int) ∧ s10 = .slice E T.length ec ∧ q + T.length ≤ 3 ∧ n' + 10 * q ≤ n + 1 + 10 * K2 ∧ Hid (∀ e ∈ T, IsText e.bs) ∧ SW w.heap.size w (rowOb 34 1 (.slice E T.length ec) T.length (T.flatMap encB) :: bufsOb T :: rowOb 89 2 (.slice D ls.length dc) ls.length (lr.flatMap encMR) :: msOb lr ls :: tpOb tg A cap L n' :: l) wr) (fun _ s11 _ => (intOf s11).toNat)
       case atStart => exact ⟨K2, n + 1, [], none, 0, rfl, rfl, by simpa using hK2, by omega, (fun q hq => by cases hq), S4.out⟩
       case round =>
        rename World => wz
        obtain ⟨q, n', T, E, ec, rfl, rfl, hq3, hn', HTX, hs⟩ := hrel
        have S5 := Lib.hid hs
        clear hs S4
        cases q with
        | succ q =>
         have HT := Lib.hid (text74_x S5.out 4 rfl (by omega))
         go_wp2_with (go_at_call 74; (with_reducible refine HT.out.mono ?_); refine halt_ ?_)
         rintro e w4 ⟨d, rfl, s6⟩
         have HX := Lib.hid (textB_is L n')
         have htn := (textN_in L n').2
         obtain ⟨bs, HBS⟩ : ∃ bs, Hid (textB L n' = bs) := ⟨_, rfl⟩
         rw [HBS.out] at s6 HX
         have S6 : Hid (SW w.heap.size w (bufOb d bs :: rowOb 34 1 (.slice E T.length ec) T.length (T.flatMap encB) :: bufsOb T :: rowOb 89 2 (.slice D ls.length dc) ls.length (lr.flatMap encMR) :: msOb lr ls :: tpOb tg A cap L (n' + 1 + textN L n') :: l) w4) := s6
         clear s6 HT S5
         go_wp2_with (at_builtin; (refine wpList_rowS (t := 86) (e := 34) (size := 1) (bytes := 24) (i := i1) (S6.out.alloc _) 1 rfl (by rfl) (.tmp 46) (.tmp 49) (by rfl) Tryz.underlying86 gi gz0 gz1 gz2 rfl (by omega) (by rfl) ⟨w4.heap.size, 0, none⟩ 1 [.slice d.A d.len d.cap] (by rfl) rfl (fun j u hu => by rw [lit_add, Nat.zero_add, new_cell w4 34 #[.slice d.A d.len d.cap] _ rfl j]; simpa using hu) (by intro u hu; rw [List.mem_singleton.1 hu]; rfl) (by unfold maxLen; omega) (by omega) ?_); refine halt_ ?_)
         intro v4 w5 s7
         obtain ⟨g4, c4, rfl⟩ := own_some (s7.get 1 rfl) (by omega)
         have s8 : SW w.heap.size w (bufOb d bs :: rowOb 34 1 (.slice (some ⟨g4, 0, none⟩) (T ++ [(⟨d, bs⟩ : BS)]).length c4) (T ++ [(⟨d, bs⟩ : BS)]).length ((T ++ [(⟨d, bs⟩ : BS)]).flatMap encB) :: bufsOb T :: rowOb 89 2 (.slice D ls.length dc) ls.length (lr.flatMap encMR) :: msOb lr ls :: tpOb tg A cap L (n' + 1 + textN L n') :: l) w5 := by
          rw [List.flatMap_append, List.length_append]
          exact s7
         have S8 := Lib.hid (SW.front (pre := [_, _]) ((SW.front (pre := [_, _, _]) s8 [0, 2, 1] (n := 3) rfl (by decide)).fuseB) [1, 0] (n := 2) rfl (by decide))
         have HX8 : Hid (∀ e ∈ T ++ [(⟨d, bs⟩ : BS)], IsText e.bs) := fun e he => by
          rcases List.mem_append.1 he with he | he
          · exact HTX.out e he
          · rw [List.mem_singleton.1 he]
            exact HX.out
         have hTl : (T ++ [(⟨d, bs⟩ : BS)]).length = T.length + 1 := by rw [List.length_append]; rfl
         rw [← hTl]
         generalize T ++ [(⟨d, bs⟩ : BS)] = T2 at S8 HX8 hTl
         clear s7 s8 S6
         go_wp2_with fail
         go_roundw
         case rel => exact ⟨q, n' + 1 + textN L n', T2, some ⟨g4, 0, none⟩, c4, by go_num, rfl, by omega, by omega, HX8.out, S8.out⟩
         case measure => simp [intOf]
        | zero =>
         have S6 := Lib.hid S5.out.fuseL
         have HO := Lib.hid (rOfM_any S6.out (A := E) (T := T) (by simp) ec (by omega) (fun e he => by have := (HTX.out e he).hi; omega))
         have HM := Lib.hid (manE_idS (T := T) (by omega) (fun e he => ⟨(HTX.out e he).lo, by have := (HTX.out e he).hi; omega⟩))
         have HOK : Hid (∀ i ∈ idS T, okID i) := fun i hi => by
          obtain ⟨e, he, rfl⟩ := List.mem_map.1 hi
          exact (HTX.out e he).ok
         clear S5
         go_wp2_with (go_at_call 77; (with_reducible refine HO.out.mono ?_); refine halt_ ?_)
         rintro e w4 ⟨v, rfl, s7⟩
         obtain ⟨B, bc, rfl⟩ := own_slL (s7.get 0 rfl)
         obtain ⟨ids, HIDS⟩ : ∃ ids, Hid (idS T = ids) := ⟨_, rfl⟩
         obtain ⟨z, HZ⟩ : ∃ z : Int, Hid (((lenS T : Nat) : Int) = z) := ⟨_, rfl⟩
         have HIL : Hid (ids.length = T.length) := by rw [Hid, ← HIDS.out, idS, List.length_map]
         rw [HIDS.out] at s7 HM HOK
         rw [HZ.out] at HM ⊢
         rw [← HIL.out] at s7 ⊢
         have hcap : ids.length ≤ bc := by
          have := s7.get 0 rfl
          exact own_cap this
         have S8 : Hid (SW w.heap.size w (rowOb 89 2 (.slice D ls.length dc) ls.length (lr.flatMap encMR) :: riOb B ids :: msOb lr ls :: tpOb tg A cap L n' :: l) w4) := SW.few (pre := [_, _, _, _]) s7.rowRi [2, 0, 3] (n := 4) rfl (by decide) (by decide)
         have hids3 : ids.length ≤ 3 := by rw [HIL.out]; omega
         clear s7 HO S6
         go_wp2_with (at_builtin; (refine wpList_rowS (t := 119) (e := 89) (size := 2) (bytes := 32) (i := j1) (S8.out.alloc _) 0 rfl (by rfl) (.tmp 51) (.tmp 54) (by rfl) Tryz.underlying119 gj gy0 gy1 gy2 rfl (by omega) (by rfl) ⟨w4.heap.size, 0, none⟩ 1 [.int .i64 z, .slice B ids.length bc] (by rfl) rfl (two_new w4 _ _ 89 _ rfl) (encMR_one ⟨z, B, ids.length, bc⟩) (by unfold maxLen; omega) (by omega) ?_); refine halt_ ?_)
         intro v4 w5 s9
         obtain ⟨g4, c4, rfl⟩ := own_some (s9.get 0 rfl) (by omega)
         have s10 : SW w.heap.size w (rowOb 89 2 (.slice (some ⟨g4, 0, none⟩) (ls ++ [(⟨z, ids⟩ : Man)]).length c4) (ls ++ [(⟨z, ids⟩ : Man)]).length ((lr ++ [(⟨z, B, ids.length, bc⟩ : MR)]).flatMap encMR) :: riOb B ids :: msOb lr ls :: tpOb tg A cap L n' :: l) w5 := by
          rw [List.flatMap_append, List.length_append]
          exact s9
         have S10 := Lib.hid (SW.front (pre := [_, _]) ((SW.front (pre := [_, _, _]) s10 [1, 2, 0] (n := 3) rfl (by decide)).fuseM z bc hcap) [1, 0] (n := 2) rfl (by decide))
         have HLS2 : Hid (∀ q ∈ ls ++ [(⟨z, ids⟩ : Man)], manE q = 0 ∧ q.ids.length ≤ 3 ∧ ∀ i ∈ q.ids, okID i) := fun q hq => by
          rcases List.mem_append.1 hq with hq | hq
          · exact HLS.out q hq
          · rw [List.mem_singleton.1 hq]
            exact ⟨HM.out, hids3, HOK.out⟩
         have hll : (ls ++ [(⟨z, ids⟩ : Man)]).length = ls.length + 1 := by rw [List.length_append]; rfl
         rw [← hll]
         generalize ls ++ [(⟨z, ids⟩ : Man)] = ls2 at S10 HLS2 hll
         generalize lr ++ [(⟨z, B, ids.length, bc⟩ : MR)] = lr2 at S10
         clear s9 s10 S8
         go_wp2_with fail
         go_roundw
         case rel => exact ⟨m, n', ls2, lr2, some ⟨g4, 0, none⟩, c4, by go_num, rfl, by omega, by omega, HLS2.out, S10.out⟩
         case measure => simp [intOf]
      | zero =>
       have S4 := Lib.hid S3.out.fuseIm
       have HE := Lib.hid (errM_all (fun q hq => (HLS.out q hq).1))
       clear S3
       have HL1 : Hid (Calls Tryz.prog 78 #[.slice R ms.length rc, .slice P pin.length pc] wr (LiveP pin ms w.heap.size w (imOb D lr ls :: tpOb tg A cap L n :: l))) := Live_any S4.out (A := R) (rs := rs) (ms := ms) (by simp [HRAW.out]) (by omega) HMI.out P pc pin (S4.out.1.holds (ipOb P pin) (by simp [HPIN.out])) (by omega) rc
       go_wp2_with (go_at_call 78; (with_reducible refine HL1.out.mono ?_); refine halt_ ?_)
       rintro e w5 hp
       obtain ⟨A1, c1, rfl, s5⟩ := hp.one
       have S5 := Lib.hid s5
       clear hp s5 HL1 S4
       have HL2 : Hid (Calls Tryz.prog 79 #[.slice R ms.length rc, .slice P pin.length pc] w5 (LiveP pin ms w.heap.size w _)) := Lib.hid (rLive_any S5.out (A := R) (rs := rs) (ms := ms) (by simp [HRAW.out]) (by omega) HMI.out P pc pin (S5.out.1.holds (ipOb P pin) (by simp [HPIN.out])) (by omega) rc)
       go_wp2_with (go_at_call 79; (with_reducible refine HL2.out.mono ?_); refine halt_ ?_)
       rintro e w6 hp
       obtain ⟨A2, c2, rfl, s6⟩ := hp.one
       have S6 := Lib.hid s6
       clear hp s6 HL2 S5
       have HL3 : Hid (Calls Tryz.prog 78 #[.slice D ls.length dc, .slice P pin.length pc] w6 (LiveP pin ls w.heap.size w _)) := Lib.hid (Live_any S6.out (A := D) (rs := lr) (ms := ls) (by simp) (by omega) (fun q hq => by have := (HLS.out q hq).2.1; omega) P pc pin (S6.out.1.holds (ipOb P pin) (by simp [HPIN.out])) (by omega) dc)
       go_wp2_with (go_at_call 78; (with_reducible refine HL3.out.mono ?_); refine halt_ ?_)
       rintro e w7 hp
       obtain ⟨A3, c3, rfl, s7⟩ := hp.one
       have S7 := Lib.hid s7
       clear hp s7 HL3 S6
       have HL4 : Hid (Calls Tryz.prog 78 #[.slice D ls.length dc, .slice none 0 0] w7 (LiveP [] ls w.heap.size w _)) := Lib.hid (Live_any S7.out (A := D) (rs := lr) (ms := ls) (by simp) (by omega) (fun q hq => by have := (HLS.out q hq).2.1; omega) none 0 [] Rd.nil (by simp) dc)
       go_wp2_with (go_at_call 78; (with_reducible refine HL4.out.mono ?_); refine halt_ ?_)
       rintro e w8 hp
       obtain ⟨A4, c4, rfl, s8⟩ := hp.one
       have S8 := Lib.hid s8
       clear hp s8 HL4 S7
       rw [HE.out]
       have HOF := Lib.hid (mOf_any tg ls D dc w8 (imOb_rdM S8.out (rs := lr) (by simp) ⟨tpOb tg A cap L n, by simp, rfl⟩) (S8.out.1.own (tpOb tg A cap L n) (by simp) tg rfl).2 (by omega) (fun q hq => by have := (HLS.out q hq).2.1; omega) (fun q hq => (HLS.out q hq).2.2))
       rw [refs_few HE.out (by omega) (fun q hq => (HLS.out q hq).2.1)] at HOF
       go_wp2_with (go_at_call 80; (with_reducible refine HOF.out.mono ?_); refine halt_ ?_)
       rintro e w9 ⟨A5, c5, rfl, hr9, _, hb9⟩
       have S9 := Lib.hid (S8.out.on hb9)
       obtain ⟨d, HD⟩ : ∃ d, Hid (liveX [] ls = d) := ⟨_, rfl⟩
       obtain ⟨cc, HCC⟩ : ∃ cc, Hid (liveX pin ls = cc) := ⟨_, rfl⟩
       obtain ⟨tb, HTB⟩ : ∃ tb, Hid (tabR (refs ls) = tb) := ⟨_, rfl⟩
       obtain ⟨X, HX⟩ : ∃ X, Hid (liveX pin ms = X) := ⟨_, rfl⟩
       have HTD : Hid (tb.map (·.1) = d) := by
        rw [Hid, ← HTB.out, ← HD.out, tab_keys, liveX, if_pos HE.out, List.nil_append]
       have HSUB : Hid (∀ i ∈ d, i ∈ cc) := fun i hi => by
        rw [← HD.out, liveX, if_pos HE.out, setR_mem] at hi
        rw [← HCC.out, liveX, if_pos HE.out, setR_mem]
        exact List.mem_append_right _ (by simpa using hi)
       have hdl : d.length = tb.length := by rw [← HTD.out, List.length_map]
       have hccl : cc.length ≤ 4000 := by
        have := liveX_len (pin := pin) (ms := ls)
        rw [HCC.out] at this
        omega
       have hxl : X.length ≤ 9000 := by
        have := liveX_len (pin := pin) (ms := ms)
        rw [HX.out] at this
        omega
       have hdl4 : d.length ≤ 4000 := by
        have := liveX_len (pin := []) (ms := ls)
        rw [HD.out] at this
        simp only [List.length_nil] at this
        omega
       have HR9 : Hid (RdC w9 tg A5 tb) := by
        rw [← HTB.out]
        exact hr9
       rw [HTB.out, HD.out, HCC.out, HX.out]
       rw [HD.out, HCC.out, HX.out] at S9
       clear hr9 hb9 HOF S8
       have HKN := Lib.hid (known61_any w9)
       go_wp2_with (go_at_call 61; (with_reducible refine HKN.out.mono ?_); refine halt_ ?_)
       rintro e w10 ⟨rfl, hb10⟩
       have S10 := Lib.hid (S9.out.on hb10)
       have HR10 := Lib.hid (HR9.out.on hb10)
       clear hb10 HKN S9 HR9
       have HSM := Lib.hid (SameIDs_any w10.heap.size w10.heap.size X X A1 A2 c1 c2 w10 (rdID_of (S10.out.1.holds (riOb A1 X) (by simp))) (rdID_of (S10.out.1.holds (riOb A2 X) (by simp))) (by omega) (by omega))
       rw [show decide (X = X) = true from decide_eq_true rfl] at HSM
       have hdl2 : ((tb.length : Nat) : Int) = ((d.length : Nat) : Int) := by omega
       go_wp2_with (go_at_call 64; (with_reducible refine HSM.out.mono ?_); refine halt_ ?_)
       rintro e w11 ⟨rfl, hb11⟩
       have S11 := Lib.hid (S10.out.on hb11)
       have HR11 := Lib.hid (HR10.out.on hb11)
       clear hb11 HSM S10 HR10
       rw [← hdl] 
       go_wp2_with fail
       go_loopw [22] (fun s22 wr => ∃ k : Nat, k ≤ d.length ∧ s22 = .int .i64 (k : Int) ∧ RdC wr tg A5 tb ∧ SW w.heap.size w (riOb A4 d :: riOb A3 cc :: riOb A2 X :: riOb A1 X :: imOb D lr ls :: tpOb tg A cap L n :: l) wr) (fun s22 _ => d.length - (intOf s22).toNat)
       case atStart => exact ⟨0, Nat.zero_le _, rfl, HR11.out, S11.out⟩
       case round =>
        rename World => wz
        obtain ⟨k, hk, rfl, hr, hs⟩ := hrel
        have S12 := Lib.hid hs
        have HR12 := Lib.hid hr
        clear hr hs S11 HR11
        by_cases hlt : k < d.length
        · obtain ⟨i, hik⟩ : ∃ i, d.getD k id0 = i := ⟨_, rfl⟩
          have hid : i ∈ d := by rw [← hik]; exact getD_mem _ _ _ hlt
          obtain ⟨g4, e4, a0, a1⟩ := S12.out.rowCell (A := A4) (ids := d) (by simp) hlt hik
          obtain ⟨g5, o5, e5, hg5, _, hc5⟩ := HR12.out (by omega)
          have hct : (tb.getD k ct0).1 = i := by
           have h1 : (tb.map (·.1)).getD k id0 = (tb.getD k ct0).1 := by simp [List.getD_eq_getElem?_getD, List.getElem?_eq_getElem (show k < tb.length by omega)]
           rw [← h1, HTD.out, hik]
          have b0 : wz.cell? ⟨g5, o5 + k * 3, none⟩ = some (.int .u64 i.1) := hc5 k (by omega) 0 _ (by rw [← hct]; rfl)
          have b1 : wz.cell? ⟨g5, o5 + k * 3 + 1, none⟩ = some (.int .i64 i.2) := hc5 k (by omega) 1 _ (by rw [← hct]; rfl)
          have HCT := Lib.hid hct
          have HIK := Lib.hid hik
          subst e4
          subst e5
          have hkt : (k : Int) < (tb.length : Int) := by omega
          have hkd : (k : Int) < (d.length : Int) := by omega
          have HH := Lib.hid (rHas_any wz.drew.heap.size cc A3 c3 i.1 i.2 wz.drew (rdID_of (S12.out.drew.1.holds (riOb A3 cc) (by simp))) (by omega))
          rw [show decide ((i.1, i.2) ∈ cc) = true from decide_eq_true (HSUB.out i hid)] at HH
          have HC := Lib.hid (fun (w' : World) (h1 : RdC w' tg (some ⟨g5, o5, none⟩) tb) (h2 : SW w.heap.size w (riOb (some ⟨g4, 0, none⟩) d :: riOb A3 cc :: riOb A2 X :: riOb A1 X :: imOb D lr ls :: tpOb tg A cap L n :: l) w') => (show w'.cell? ⟨g5, o5 + k * 3, none⟩ = some (.int .u64 i.1) ∧ w'.cell? ⟨g5, o5 + k * 3 + 1, none⟩ = some (.int .i64 i.2) ∧ w'.cell? ⟨g4, k * 2, none⟩ = some (.int .u64 i.1) ∧ w'.cell? ⟨g4, k * 2 + 1, none⟩ = some (.int .i64 i.2) from by
           obtain ⟨g6, o6, e6, _, _, hc6⟩ := h1 (by omega)
           injection e6 with e6
           injection e6 with e6 e7
           subst e6
           subst e7
           obtain ⟨g7, e7, a0, a1⟩ := h2.rowCell (A := some ⟨g4, 0, none⟩) (ids := d) (by simp) hlt HIK.out
           injection e7 with e7
           injection e7 with e7
           subst e7
           exact ⟨hc6 k (by omega) 0 _ (by rw [← HCT.out]; rfl), hc6 k (by omega) 1 _ (by rw [← HCT.out]; rfl), a0, a1⟩))
          clear a0 a1 b0 b1 hc5 hik hct hid
          go_upto_region 24 with fail
          refine wp_region_held_tail [(0, true), (1, true), (2, true), (3, true), (4, true), (5, true), (6, true), (7, true), (8, true), (9, true), (10, true), (11, true), (12, true), (13, true), (14, true), (15, true), (16, false), (17, true)] (fun w' => w'.cell? ⟨g5, o5 + k * 3, none⟩ = some (.int .u64 i.1) ∧ w'.cell? ⟨g5, o5 + k * 3 + 1, none⟩ = some (.int .i64 i.2) ∧ w'.cell? ⟨g4, k * 2, none⟩ = some (.int .u64 i.1) ∧ w'.cell? ⟨g4, k * 2 + 1, none⟩ = some (.int .i64 i.2)) (by kernel_rfl) (fun _ _ d _ _ h => by cases d <;> exact h) (by kernel_rfl) (HC.out _ (HR12.out.drewN 1) S12.out.drew) ?_
          simp only [picked, List.map_cons, List.map_nil, List.getD_cons_succ, List.getD_cons_zero]
          iterate 16
           (refine wpHeld_take (v := ?_) (Or.inl ⟨by rfl, ?_⟩) ?_
            rotate_left
            · (intro w' hSw; have h1 := hSw.1; have h2 := hSw.2.1; have h3 := hSw.2.2.1; have h4 := hSw.2.2.2; go_simp; try with_reducible rfl)
            try simp only [Act.put, List.setIfInBounds_toArray, List.set])
          refine wpHeld_run (fun K hK => ?_)
          go_simp
          go_at_call 49
          refine HH.out.mono ?_
          rintro e w13 ⟨rfl, hb13⟩
          have S13 := Lib.hid (S12.out.drew.on hb13)
          have HR13 := Lib.hid ((HR12.out.drewN 1).on hb13)
          clear hb13 HH S12 HR12
          go_wp2_with fail
          refine hK.out _ _ (HC.out _ HR13.out S13.out) ?_
          clear hK K HC
          try simp only [Act.put, List.setIfInBounds_toArray, List.set]
          (refine wpHeld_take (v := ?_) (Or.inl ⟨by rfl, ?_⟩) ?_
           rotate_left
           · (intro w' hSw; have h1 := hSw.1; have h2 := hSw.2.1; have h3 := hSw.2.2.1; have h4 := hSw.2.2.2; go_simp; try with_reducible rfl)
           try simp only [Act.put, List.setIfInBounds_toArray, List.set])
          refine wpHeld_nil ?_
          simp only [List.length_cons, List.length_nil, List.drop_succ_cons, List.drop_zero]
          go_wp2_with fail
          go_roundw
          case rel => exact ⟨k + 1, by omega, by go_num, HR13.out, S13.out⟩
          case measure => simp [intOf]; omega
        · obtain rfl : k = d.length := by omega
          go_wp2_with fail
          go_ret
          exact ⟨rfl, S12.out.2⟩
theorem law17 {A : Option Addr} {L : List Int} {n : Nat} (e : L.length = n) (cap : Nat) {R : Option Addr} {ms : List Man} {q : Nat} (e2 : ms.length = q) (rc : Nat) {P : Option Addr} {pin : List ID} {pn : Nat} (e3 : pin.length = pn) (pc : Nat) (w : World) (hr : RdT w w.heap.size A L) (hm : RdM w w.heap.size R ms) (hp : RdID w w.heap.size P pin) (hl : n ≤ 9223372036854775807) (hq : q ≤ 9223372036854775807) (hmi : ∀ m ∈ ms, m.ids.length ≤ 9223372036854775807) (hpn : pn ≤ 9223372036854775807) : Calls Tryz.prog 17 #[.slice R q rc, .slice P pn pc, .slice A n cap] w (fun e w' => e = .returned (.bool true) ∧ Below w.heap.size w w') := by
 subst e
 subst e2
 subst e3
 obtain ⟨rs, h1, h2, h3⟩ := hm
 have S0 := SW.startIn hr hl
 have S1 : SW w.heap.size w [ipOb P pin, inOb A L] w := S0.also hp (fun _ h => h) (fun i hi => by
  obtain ⟨hq, o, e⟩ := hi
  obtain ⟨g, o2, e2, hb, _⟩ := hp hq
  rw [e] at e2
  injection e2 with e2
  injection e2 with e2
  omega) (fun i _ y hy => by
  rw [List.mem_singleton.1 hy]
  exact fun h => h)
 have S2 : SW w.heap.size w [imOb R rs ms, ipOb P pin, inOb A L] w := S1.also ⟨h1, h2, h3⟩ (fun _ h => h) (fun i hi => by
  rcases hi with ⟨hq, o, e⟩ | ⟨j, hj, hq, o, e⟩
  · obtain ⟨g, o2, e2, hb, _⟩ := h1 hq
    rw [e] at e2
    injection e2 with e2
    injection e2 with e2
    omega
  · obtain ⟨g, o2, e2, hb, _⟩ := (h3 j hj).2.2.2 hq
    rw [e] at e2
    injection e2 with e2
    injection e2 with e2
    omega) (fun i _ y hy => by
  rcases List.mem_cons.1 hy with rfl | hy
  · exact fun h => h
  · rw [List.mem_singleton.1 hy]
    exact fun h => h)
 exact law17_any S2 (by simp) cap (rs := rs) (by simp) rc (by simp) pc hq hmi hpn
end
end Go.Proofs.YteabgcollokgjaaGreatDoor
namespace Go.Proofs.YteabgcollokgjaaGreatDoor
open Go.RowKit Go.ChangeShapes

theorem cell_lt {W : World} {b o : Nat} {v : Value} (h : W.cell? ⟨b, o, none⟩ = some v) : b < W.heap.size := by
 rcases Nat.lt_or_ge b W.heap.size with h1 | h1
 · exact h1
 · exfalso
   simp [World.cell?, Array.getElem?_eq_none h1] at h
theorem open_nums {H : Type} {enc : TypeId × Value → H} {W : World} {base : Nat} {spare : Nat → Bool} {held : Bool} {A : Option Addr} {len cap : Nat} {d : DataW H} {p : List MemPlace}
 (h : DataW.Trod enc Tryz.prog W base spare held 47 (.slice A len cap) d p) : ∃ xs : List Int, xs.length = len ∧ RdT W W.heap.size A xs ∧ len ≤ 9223372036854775807 := by
 obtain ⟨fuel, hf⟩ := h
 rcases Go.ChangeShapes.open_ints Tryz.underlying47 Tryz.underlying3 (by kernel_rfl) hf with ⟨hcs, _⟩ | ⟨a, l, c, zs, hcs, _, hl, hm, hz, _, hx, _⟩
 · simp [Value.cells] at hcs
   obtain ⟨rfl, rfl, rfl⟩ := hcs
   exact ⟨[], rfl, fun hp => absurd hp (by simp), by omega⟩
 · simp [Value.cells] at hcs
   obtain ⟨rfl, rfl, rfl⟩ := hcs
   have hlz : len ≤ zs.length := by rw [hz]; split <;> omega
   unfold maxLen at hm
   refine ⟨zs.take len, by rw [List.length_take]; omega, fun hp => ?_, by omega⟩
   have hp' : 0 < len := by rw [List.length_take] at hp; omega
   obtain ⟨b, off, spot⟩ := a
   have h0 := hx 0 (by omega)
   have hspot : spot = none := by simpa [Addr.add] using World.cell?_spot h0
   subst hspot
   have hadd : ∀ j, (⟨b, off, none⟩ : Addr).add j = ⟨b, off + j, none⟩ := fun j => by unfold Addr.add; split <;> simp_all
   rw [hadd] at h0
   refine ⟨b, off, rfl, cell_lt h0, fun j hj => ?_⟩
   rw [List.length_take] at hj
   have := hx j (by omega)
   rw [hadd] at this
   rw [this, List.getD_eq_getElem?_getD, List.getD_eq_getElem?_getD, List.getElem?_take_of_lt (by omega)]
end Go.Proofs.YteabgcollokgjaaGreatDoor
namespace Go.Proofs.YteabgcollokgjaaGreatDoor
open Go.RowKit Go.ChangeShapes Go.Deep

theorem two_of {α : Type} {l : List α} (h : l.length = 2) : ∃ a b, l = [a, b] := by
 match l, h with
 | [a, b], _ => exact ⟨a, b, rfl⟩
theorem open_list {α H : Type} {enc' : TypeId × Value → H} {W : World} {base : Nat} {spare : Nat → Bool} {held : Bool} {t e : TypeId} {A : Option Addr} {len cap : Nat} {d : DataW H} {p : List MemPlace} (enc : α → List Value) (k : Nat) (dd : α) (ht : Tryz.prog.underlying t = some (.slice e)) (ce : Tryz.prog.cellsOf e = k) (hk0 : 0 < k) (hk : ∀ y, (enc y).length = k) (ok : α → Prop)
 (elem : ∀ n cs x, DataW.trod enc' Tryz.prog W base spare held n e cs = some x → ∃ y, ok y ∧ cs = enc y)
 (h : DataW.Trod enc' Tryz.prog W base spare held t (.slice A len cap) d p) : ∃ xs : List α, xs.length = len ∧ Rd enc k dd W W.heap.size A xs ∧ (∀ y ∈ xs, ok y) ∧ len ≤ cap ∧ len ≤ 9223372036854775807 := by
 obtain ⟨fuel, hf⟩ := h
 rcases open_slice ht hf with ⟨hcs, _⟩ | ⟨a, l, c, m, n, D, Pl, hcs, hb, hl, hm, hmm, _, hx⟩
 · simp [Value.cells] at hcs
   obtain ⟨rfl, rfl, rfl⟩ := hcs
   exact ⟨[], rfl, Rd.nil, by simp, Nat.le_refl _, by omega⟩
 · simp [Value.cells] at hcs
   obtain ⟨rfl, rfl, rfl⟩ := hcs
   have hlm : len ≤ m := by rw [hmm]; split <;> omega
   unfold maxLen at hm
   have each : ∀ i, i < len → ∃ y, ok y ∧ ∀ j v, (enc y)[j]? = some v → W.cell? (a.add (i * k + j)) = some v := by
    intro i hi
    obtain ⟨cs', h1, h2⟩ := hx i (by omega)
    obtain ⟨y, hy, rfl⟩ := elem _ _ _ h2
    rw [ce] at h1
    obtain ⟨_, _, hcell⟩ := World.cells?_some h1
    refine ⟨y, hy, fun j v hv => ?_⟩
    have hj : j < k := by
     have := (List.getElem?_eq_some_iff.1 hv).1
     rwa [hk] at this
    have := hcell j hj
    rw [add_add] at this
    rw [this, hv]
   haveI : Inhabited α := ⟨dd⟩
   obtain ⟨q, hq⟩ := choose_lt each
   refine ⟨(List.range len).map q, by simp, fun hp => ?_, ?_, hl, by omega⟩
   · have hp' : 0 < len := by simpa using hp
     obtain ⟨b, off, spot⟩ := a
     have hne : 0 < (enc (q 0)).length := by rw [hk]; exact hk0
     have h0 := (hq 0 hp').2 0 _ (List.getElem?_eq_getElem hne)
     have hspot : spot = none := by simpa [Addr.add] using World.cell?_spot h0
     subst hspot
     have hadd : ∀ j, (⟨b, off, none⟩ : Addr).add j = ⟨b, off + j, none⟩ := fun j => by unfold Addr.add; split <;> simp_all
     rw [hadd] at h0
     have hbl := cell_lt h0
     refine ⟨b, off, rfl, hbl, by omega, fun j hj i v hi => ?_⟩
     have hj' : j < len := by simpa using hj
     have e9 : ((List.range len).map q).getD j dd = q j := by
      rw [List.getD_eq_getElem?_getD, List.getElem?_map, List.getElem?_range hj']; rfl
     rw [e9] at hi
     have := (hq j hj').2 i v hi
     rw [hadd] at this
     rw [Nat.add_assoc]
     exact this
   · intro y hy
     obtain ⟨i, hi, rfl⟩ := List.mem_map.1 hy
     exact (hq i (List.mem_range.1 hi)).1
theorem elem31 {H : Type} {enc' : TypeId × Value → H} {W : World} {base : Nat} {spare : Nat → Bool} {held : Bool} (n : Nat) (cs : List Value) (x : DataW H × List MemPlace) (h : DataW.trod enc' Tryz.prog W base spare held n 31 cs = some x) : ∃ y : ID, okID y ∧ cs = encID y := by
 obtain ⟨y0, y1, n', _, hl, h0, h1⟩ := trod_struct2 Tryz.underlying31 h
 rw [cellsOf31] at hl
 obtain ⟨v0, v1, rfl⟩ := two_of hl
 simp [cellsOf29, cellsOf3] at h0 h1
 obtain ⟨a, e0, w0⟩ := DataW.trod_int Tryz.underlying29 h0
 obtain ⟨b, e1, w1⟩ := DataW.trod_int Tryz.underlying3 h1
 simp at e0 e1
 subst e0 e1
 exact ⟨(a, b), ⟨w0.2, w1.2⟩, rfl⟩
theorem cellsOf89 : Tryz.prog.cellsOf 89 = 2 := by kernel_rfl
theorem cellsOf38 : Tryz.prog.cellsOf 38 = 1 := by kernel_rfl
/-- A manifest as it lies, and what it is. -/
def MRis (W : World) (x : Nat) (r : MR) : Prop := ∃ m : Man, Link W x r m ∧ (∀ i ∈ m.ids, okID i) ∧ m.ids.length ≤ 9223372036854775807
theorem elem89 {H : Type} {enc' : TypeId × Value → H} {W : World} {base : Nat} {spare : Nat → Bool} {held : Bool} (n : Nat) (cs : List Value) (x : DataW H × List MemPlace) (h : DataW.trod enc' Tryz.prog W base spare held n 89 cs = some x) : ∃ y : MR, MRis W W.heap.size y ∧ cs = encMR y := by
 obtain ⟨y0, y1, n', _, hl, h0, h1⟩ := trod_struct2 Tryz.underlying89 h
 rw [cellsOf89] at hl
 obtain ⟨v0, v1, rfl⟩ := two_of hl
 simp [cellsOf38, cellsOf3] at h0 h1
 obtain ⟨a, e0, w0⟩ := DataW.trod_int Tryz.underlying3 h0
 simp at e0
 subst e0
 obtain ⟨A, len, cap, rfl⟩ : ∃ A len cap, v1 = .slice A len cap := by
  rcases open_slice Tryz.underlying38 h1 with ⟨hcs, _⟩ | ⟨a, l, c, m, n, D, Pl, hcs, _⟩
  · simp at hcs; exact ⟨none, 0, 0, hcs⟩
  · simp at hcs; exact ⟨some a, l, c, hcs⟩
 obtain ⟨xs, hx1, hx2, hx3, hx4, hx5⟩ := open_list (d := y1.1) (p := y1.2) encID 2 (0, 0) Tryz.underlying38 cellsOf31 (by omega) encID_len okID elem31 ⟨n', by simpa [Value.cells] using h1⟩
 exact ⟨⟨a, A, len, cap⟩, ⟨⟨a, xs⟩, ⟨rfl, hx1.symm, hx4, hx2⟩, hx3, by simp only [hx1]; exact hx5⟩, rfl⟩
theorem open_mans {H : Type} {enc' : TypeId × Value → H} {W : World} {base : Nat} {spare : Nat → Bool} {held : Bool} {A : Option Addr} {len cap : Nat} {d : DataW H} {p : List MemPlace}
 (h : DataW.Trod enc' Tryz.prog W base spare held 119 (.slice A len cap) d p) : ∃ ms : List Man, ms.length = len ∧ RdM W W.heap.size A ms ∧ (∀ m ∈ ms, m.ids.length ≤ 9223372036854775807) ∧ (∀ m ∈ ms, ∀ i ∈ m.ids, okID i) ∧ len ≤ cap ∧ len ≤ 9223372036854775807 := by
 obtain ⟨rs, h1, h2, h3, h4, h5⟩ := open_list encMR 2 mr0 Tryz.underlying119 cellsOf89 (by omega) encMR_len (MRis W W.heap.size) elem89 h
 have each : ∀ i, i < rs.length → ∃ m : Man, Link W W.heap.size (rs.getD i mr0) m ∧ (∀ i ∈ m.ids, okID i) ∧ m.ids.length ≤ 9223372036854775807 := fun i hi => h3 _ (getD_mem rs mr0 i hi)
 haveI : Inhabited Man := ⟨man0⟩
 obtain ⟨q, hq⟩ := choose_lt each
 have e9 : ∀ j, j < rs.length → ((List.range rs.length).map q).getD j man0 = q j := fun j hj => by
  rw [List.getD_eq_getElem?_getD, List.getElem?_map, List.getElem?_range hj]; rfl
 refine ⟨(List.range rs.length).map q, by simpa using h1, ⟨rs, h2, by simp, fun j hj => ?_⟩, ?_, ?_, h4, h5⟩
 · have hj' : j < rs.length := by simpa using hj
   rw [e9 j hj']
   exact (hq j hj').1
 · intro m hm
   obtain ⟨i, hi, rfl⟩ := List.mem_map.1 hm
   exact (hq i (List.mem_range.1 hi)).2.2
 · intro m hm
   obtain ⟨i, hi, rfl⟩ := List.mem_map.1 hm
   exact (hq i (List.mem_range.1 hi)).2.1
theorem open_ids {H : Type} {enc' : TypeId × Value → H} {W : World} {base : Nat} {spare : Nat → Bool} {held : Bool} {A : Option Addr} {len cap : Nat} {d : DataW H} {p : List MemPlace}
 (h : DataW.Trod enc' Tryz.prog W base spare held 38 (.slice A len cap) d p) : ∃ xs : List ID, xs.length = len ∧ RdID W W.heap.size A xs ∧ (∀ c ∈ xs, okID c) ∧ len ≤ cap ∧ len ≤ 9223372036854775807 :=
 open_list encID 2 (0, 0) Tryz.underlying38 cellsOf31 (by omega) encID_len okID elem31 h
end Go.Proofs.YteabgcollokgjaaGreatDoor
