/- UU in one text. -/
import Derived.Test.YteabgcollokgjaaGreatDoorQ33
import Derived.Test.YteabgcollokgjaaGreatDoorQ34
import Derived.Deep.CutRange
import Derived.Deep.CutBlock
set_option linter.unusedSimpArgs false
set_option linter.unusedVariables false
namespace Go.Proofs.YteabgcollokgjaaGreatDoor
open Go.RowKit Go.MapKept Go.ChangeMaps Go.Shelf Go.Sort

theorem idS_at {T : List BS} {k : Nat} (hk : k < T.length) {e : BS} (he : T.getD k bs0 = e) : (idS T).getD k id0 = fpOf e.bs := by
 rw [← he]
 simp [idS, List.getD_eq_getElem?_getD, List.getElem?_eq_getElem hk]
theorem idS_len (T : List BS) : (idS T).length = T.length := by simp [idS]
/-- The chunks that are read back: with each ID the text. -/
theorem asm_join {T : List BS} {K : List CH} (hT : ∀ e ∈ T, IsText e.bs) (hK : ∀ c ∈ K, fpOf c.2.bs = c.1 ∧ IsText c.2.bs) (hi : ∀ i ∈ idS T, (asc (fstL K) i).isSome = true) : asmL K (idS T) = joinT T := by
 induction T with
 | nil => rfl
 | cons e T ih =>
  have h1 : asmL K (idS (e :: T)) = byL K (fpOf e.bs) ++ asmL K (idS T) := by simp [asmL, idS]
  have h2 : joinT (e :: T) = e.bs ++ joinT T := by simp [joinT]
  rw [h1, h2, ih (fun e he => hT e (by simp [he])) (fun i h => hi i (by
   simp only [idS, List.map_cons, List.mem_cons] at h ⊢
   exact .inr h))]
  congr 1
  have h3 := hi (fpOf e.bs) (by simp [idS])
  cases hx : asc (fstL K) (fpOf e.bs) with
  | none => rw [hx] at h3; cases h3
  | some f =>
   obtain ⟨k1, k2⟩ := hK _ (fstL_mem hx)
   have : f.bs = e.bs := text_inj k2 (hT e (by simp)) k1
   rw [byL, hx, ← this]
   rfl
theorem fst_has {K : List CH} : ∀ i, i ∈ K.map (·.1) → (asc (fstL K) i).isSome = true := by
 have key : ∀ k, k ≤ K.length → ∀ i, i ∈ (K.take k).map (·.1) → (asc (fstL (K.take k)) i).isSome = true := fun k => by
  induction k with
  | zero => intro _ i hi; simp at hi
  | succ k ih =>
   intro hk i hi
   rw [take_snoc _ ch0 _ (by omega), fstL_snoc]
   rw [take_snoc _ ch0 _ (by omega), List.map_append, List.mem_append] at hi
   split
   · rename_i h
     rcases hi with hi | hi
     · exact ih (by omega) i hi
     · have : i = (K.getD k ch0).1 := by simpa using hi
       rw [this]
       exact h
   · rw [asc_setL]
     split
     · rfl
     · rename_i hne
       rcases hi with hi | hi
       · exact ih (by omega) i hi
       · have : i = (K.getD k ch0).1 := by simpa using hi
         exact absurd this.symm hne
 intro i hi
 have := key K.length (Nat.le_refl _) i
 rw [List.take_length] at this
 exact this hi
section
variable {b : Nat} {w0 w w' : World} {l : List Ob}
theorem SW.fuseCk {A : Option Addr} {c : Nat} {K : List CH} (h : SW b w0 (rowOb 65 3 (.slice A K.length c) K.length (K.flatMap encCH) :: bufsOb (K.map (·.2)) :: l) w) : SW b w0 (ckOb A K :: l) w := by
 have hb : ∀ e ∈ K.map (fun x : CH => x.2), RB w e.d e.bs := h.get 1 (o := bufsOb (K.map (fun x : CH => x.2))) rfl
 have hr : w.ownsRow 0 65 3 (.slice A K.length c) K.length (K.flatMap encCH) := h.get 0 rfl
 have hv : RowV w 65 3 A K.length (K.flatMap encCH) := by
  refine ⟨hr.1, ?_⟩
  rcases hr.2 with ⟨_, h0⟩ | ⟨g, cap, cur, hv, _, hh, _, _, _, htk⟩
  · exact .inl h0
  · injection hv with e1
    exact .inr ⟨g, cur, e1, hh, htk⟩
 refine SW.fuse (pre := [rowOb 65 3 (.slice A K.length c) K.length (K.flatMap encCH), bufsOb (K.map (fun x : CH => x.2))]) h ⟨hv, fun e he => hb _ (List.mem_map.2 ⟨e, he, rfl⟩)⟩ (fun _ h => h) (fun i hi => ?_)
 rcases hi with ⟨hp, e⟩ | ⟨e, he, hbk⟩
 · refine ⟨_, List.mem_cons_self .., .inl ?_⟩
   show (Value.slice A K.length c).ownBlock = some i
   rw [e]
   rfl
 · exact ⟨bufsOb (K.map (fun x : CH => x.2)), by simp, .inr ⟨e.2, List.mem_map.2 ⟨e, he, rfl⟩, hbk⟩⟩
set_option maxRecDepth 100000 in
set_option maxHeartbeats 16000000 in
theorem law19_any (h : SW w.heap.size w l w) {A : Option Addr} {L : List Int} (hin : inOb A L ∈ l) (cap : Nat) : Calls Tryz.prog 19 #[.slice A L.length cap] w (fun e w' => e = .returned (.bool true) ∧ Below w.heap.size w w') := by
 have S0 := Lib.hid h
 have HSH := Lib.hid (Short_any w)
 have HIN := Lib.hid hin
 clear h hin
 obtain ⟨i1, gi, gz0, gz1, gz2⟩ := info_parts info34
 obtain ⟨j1, gj, gy0, gy1, gy2⟩ := info_parts info65'
 go_enter Tryz.func19, Tryz.ntmps19
 go_wp2_with (go_at_call 32; (with_reducible refine HSH.out.mono ?_); refine halt_ ?_)
 rintro e w1 ⟨v, rfl, hb1⟩
 have S1 := Lib.hid (S0.out.on hb1)
 clear hb1 HSH S0
 cases v with
 | false =>
  go_wp2_with fail
  go_ret
  exact ⟨rfl, S1.out.2⟩
 | true =>
  have HBG := Lib.hid (begin_any S1.out HIN.out cap)
  go_wp2_with (go_at_call 60; (with_reducible refine HBG.out.mono ?_); refine halt_ ?_)
  rintro e w2 ⟨⟨tg1, x1, c1, r1, CA1, cc1, cd1⟩, LA1, lc1, rfl, s2, ok1⟩
  have OK1 := Lib.hid ok1
  obtain ⟨cs1, HCS1⟩ : ∃ cs : Array Value, Hid (#[vPtr tg1, vPtr x1.p, vPtr x1.ps, vPtr c1.cp, .slice r1.A r1.E.length r1.c, .slice r1.B r1.E.length r1.k, .slice CA1 cd1.length cc1, .slice none 0 0] = cs) := ⟨_, rfl⟩
  have HT1 : Hid (cs1[0]? = some (vPtr tg1)) := by rw [Hid, ← HCS1.out]; rfl
  have HD1 : Hid (cs1[2]? = some (vPtr x1.ps)) := by rw [Hid, ← HCS1.out]; rfl
  have HC1 : Hid (cs1[3]? = some (vPtr c1.cp)) := by rw [Hid, ← HCS1.out]; rfl
  have S2 : Hid (SW w.heap.size w (cellOb w2.heap.size 102 cs1 :: coOb c1 :: x1.obs (tpOb tg1 A cap L (bgE L).n :: riOb LA1 (bgE L).live :: r3Ob r1 :: riOb CA1 cd1 :: l)) (w2.alloc (.cells cs1 102))) := s2.newCell 102 cs1
  obtain ⟨g3, HG3⟩ : ∃ g3, Hid (w2.heap.size = g3) := ⟨_, rfl⟩
  obtain ⟨W2, HW2⟩ : ∃ W2, Hid (w2.alloc (.cells cs1 102) = W2) := ⟨_, rfl⟩
  rw [HG3.out, HW2.out] at S2
  obtain ⟨R, HR1⟩ : ∃ R, Hid ((r3Ob r1 :: riOb CA1 cd1 :: l) = R) := ⟨_, rfl⟩
  rw [HR1.out] at S2
  have S3 : Hid (SW w.heap.size w (coOb c1 :: x1.obs (tpOb tg1 A cap L (bgE L).n :: riOb LA1 (bgE L).live :: cellOb g3 102 cs1 :: R)) W2) := SW.front (pre := [_, _, _, _, _, _, _, _]) (t := R) S2.out [1, 2, 3, 4, 5, 6, 7, 0] (n := 8) rfl (by decide)
  have HKN := Lib.hid (known61_any W2)
  clear ok1 s2 HBG S1 S2 HR1
  go_upto_region 4 with fail
  rw [HCS1.out, HW2.out, HG3.out]
  clear HW2 HG3 HCS1
  go_wp2_with (go_at_call 61; (with_reducible refine HKN.out.mono ?_); refine halt_ ?_)
  rintro e w3 ⟨rfl, hb3⟩
  obtain ⟨live, HLV⟩ : ∃ live, Hid ((bgE L).live = live) := ⟨_, rfl⟩
  obtain ⟨N0, HN0⟩ : ∃ N0, Hid ((bgE L).n = N0) := ⟨_, rfl⟩
  have hN0 : N0 ≤ 67 := by
   have h1 := bgS_n L (bgK L)
   have h2 := (bgK_le L).2
   have e : (bgE L).n = (bgS L (bgK L)).n := rfl
   rw [← HN0.out, e]
   omega
  have SI1 := Lib.hid (fun m => UpI.start OK1.out m)
  have S4 : Hid (SW w.heap.size w (coOb c1 :: x1.obs (tpOb tg1 A cap L N0 :: riOb LA1 live :: cellOb g3 102 cs1 :: R)) w3) := by
   have := S3.out.on hb3
   rw [HLV.out, HN0.out] at this
   exact this
  obtain ⟨cp, HCP⟩ : ∃ cp, Hid (c1.cp = cp) := ⟨_, rfl⟩
  obtain ⟨ps, HQS⟩ : ∃ ps, Hid (x1.ps = ps) := ⟨_, rfl⟩
  have HBN := Lib.hid (Begin_new S4.out 7 (by omega) 0 (freeU OK1.out.se).1 (freeU OK1.out.se).2)
  have SI1 : Hid (∀ m, UpI cp ps [] 0 (c1.begun 0 7 m) x1) := fun m => by
   have := SI1.out m
   rw [← HCP.out, ← HQS.out]
   exact this
  rw [HCP.out] at HC1 HBN
  rw [HQS.out] at HD1
  have k3 : w3.cell? ⟨g3, 3, none⟩ = some (vPtr cp) := ((S4.out.cell 7 rfl).cell 3).trans HC1.out
  clear hb3 HKN S3 OK1 HIN
  go_wp2_with (go_at_call 71; (with_reducible refine HBN.out.mono ?_); refine halt_ ?_)
  rintro e w4 ⟨rfl, mm, s4⟩
  have SI2 := Lib.hid (SI1.out mm)
  obtain ⟨c2, HC2⟩ : ∃ c2, Hid (c1.begun 0 7 mm = c2) := ⟨_, rfl⟩
  rw [HC2.out] at s4 SI2
  have S5 := Lib.hid s4
  clear s4 HBN S4 k3 SI1 HC2
  have k0 : w4.cell? ⟨g3, 0, none⟩ = some (vPtr tg1) := ((S5.out.cell 7 rfl).cell 0).trans HT1.out
  have HNX : Hid (Calls Tryz.prog 33 #[vPtr tg1, .int .i64 6] w4 (fun e w' => e = .returned (.int .i64 (tnext L N0 6)) ∧ SW w.heap.size w (coOb c2 :: x1.obs (tpOb tg1 A cap L (N0 + 1) :: riOb LA1 live :: cellOb g3 102 cs1 :: R)) w')) := Next_x S5.out 5 rfl 6 (by omega) (by omega)
  go_wp2_with (go_at_call 33; (with_reducible refine HNX.out.mono ?_); refine halt_ ?_)
  rintro e w5 ⟨rfl, s5⟩
  obtain ⟨K, HK, hK⟩ : ∃ K : Nat, Hid (tnext L N0 6 = (K : Int)) ∧ K ≤ 5 := by
   obtain ⟨h0, h1⟩ := tnext_in L N0 6
   have h1 := h1 (by omega)
   exact ⟨(tnext L N0 6).toNat, by rw [Hid]; omega, by omega⟩
  rw [HK.out]
  have S6 : Hid (SW w.heap.size w (rowOb 34 1 (.slice none 0 0) 0 [] :: bufsOb [] :: coOb c2 :: x1.obs (tpOb tg1 A cap L (N0 + 1) :: riOb LA1 live :: cellOb g3 102 cs1 :: R)) w5) := (SW.noBufs s5).newRow 34 1
  clear s5 HNX S5 k0 HK
  go_wp2_with fail
  go_loopw [7, 8] (fun s7 s8 wr => ∃ (q n' : Nat) (T : List BS) (E : Option Addr) (ec : Nat), s8 = .int .i64 (q : Int) ∧ s7 = .slice E T.length ec ∧ q + T.length ≤ 5 ∧ n' + 10 * q ≤ N0 + 1 + 10 * K ∧ Hid (∀ e ∈ T, IsText e.bs) ∧ SW w.heap.size w (rowOb 34 1 (.slice E T.length ec) T.length (T.flatMap encB) :: bufsOb T :: coOb c2 :: x1.obs (tpOb tg1 A cap L n' :: riOb LA1 live :: cellOb g3 102 cs1 :: R)) wr) (fun _ s8 _ => (intOf s8).toNat)
  case atStart => exact ⟨K, N0 + 1, [], none, 0, rfl, rfl, by simpa using hK, Nat.le_refl _, (fun q hq => by cases hq), S6.out⟩
  case round =>
   obtain ⟨q, n', T, E, ec, rfl, rfl, hq3, hn', HTX, hs⟩ := hrel
   have S7 := Lib.hid hs
   clear hs S6
   cases q with
   | succ q =>
    have HT := Lib.hid (text74_x S7.out 7 rfl (by omega))
    go_wp2_with (go_at_call 74; (with_reducible refine HT.out.mono ?_); refine halt_ ?_)
    rintro e w6 ⟨d, rfl, s6⟩
    have HX := Lib.hid (textB_is L n')
    have htn := (textN_in L n').2
    obtain ⟨bs, HBS⟩ : ∃ bs, Hid (textB L n' = bs) := ⟨_, rfl⟩
    rw [HBS.out] at s6 HX
    have S8 : Hid (SW w.heap.size w (bufOb d bs :: rowOb 34 1 (.slice E T.length ec) T.length (T.flatMap encB) :: bufsOb T :: coOb c2 :: x1.obs (tpOb tg1 A cap L (n' + 1 + textN L n') :: riOb LA1 live :: cellOb g3 102 cs1 :: R)) w6) := s6
    clear s6 HT S7
    go_wp2_with (at_builtin; (refine wpList_rowS (t := 86) (e := 34) (size := 1) (bytes := 24) (i := i1) (S8.out.alloc _) 1 rfl (by rfl) (.tmp 54) (.tmp 57) (by rfl) Tryz.underlying86 gi gz0 gz1 gz2 rfl (by omega) (by rfl) ⟨w6.heap.size, 0, none⟩ 1 [.slice d.A d.len d.cap] (by rfl) rfl (fun j u hu => by rw [lit_add, Nat.zero_add, new_cell w6 34 #[.slice d.A d.len d.cap] _ rfl j]; simpa using hu) (by intro u hu; rw [List.mem_singleton.1 hu]; rfl) (by unfold maxLen; omega) (by omega) ?_); refine halt_ ?_)
    intro v4 w7 s7
    obtain ⟨g4, c4, rfl⟩ := own_some (s7.get 1 rfl) (by omega)
    have s8 : SW w.heap.size w (bufOb d bs :: rowOb 34 1 (.slice (some ⟨g4, 0, none⟩) (T ++ [(⟨d, bs⟩ : BS)]).length c4) (T ++ [(⟨d, bs⟩ : BS)]).length ((T ++ [(⟨d, bs⟩ : BS)]).flatMap encB) :: bufsOb T :: coOb c2 :: x1.obs (tpOb tg1 A cap L (n' + 1 + textN L n') :: riOb LA1 live :: cellOb g3 102 cs1 :: R)) w7 := by
     rw [List.flatMap_append, List.length_append]
     exact s7
    have S9 := Lib.hid (SW.front (pre := [_, _]) ((SW.front (pre := [_, _, _]) s8 [0, 2, 1] (n := 3) rfl (by decide)).fuseB) [1, 0] (n := 2) rfl (by decide))
    have HX8 : Hid (∀ e ∈ T ++ [(⟨d, bs⟩ : BS)], IsText e.bs) := fun e he => by
     rcases List.mem_append.1 he with he | he
     · exact HTX.out e he
     · rw [List.mem_singleton.1 he]
       exact HX.out
    have hTl : (T ++ [(⟨d, bs⟩ : BS)]).length = T.length + 1 := by rw [List.length_append]; rfl
    rw [← hTl]
    generalize T ++ [(⟨d, bs⟩ : BS)] = T2 at S9 HX8 hTl
    clear s7 s8 S8
    go_wp2_with fail
    go_roundw
    case rel => exact ⟨q, n' + 1 + textN L n', T2, some ⟨g4, 0, none⟩, c4, by go_num, rfl, by omega, by omega, HX8.out, S9.out⟩
    case measure => simp [intOf]
   | zero =>
    have S8 := Lib.hid S7.out.fuseL
    have HO := Lib.hid (rOfM_any S8.out (A := E) (T := T) (by simp) ec (by omega) (fun e he => by have := (HTX.out e he).hi; omega))
    have HM := Lib.hid (manE_idS (T := T) (by omega) (fun e he => ⟨(HTX.out e he).lo, by have := (HTX.out e he).hi; omega⟩))
    clear S7
    go_wp2_with (go_at_call 77; (with_reducible refine HO.out.mono ?_); refine halt_ ?_)
    rintro e w6 ⟨v, rfl, s7⟩
    obtain ⟨B, bc, rfl⟩ := own_slL (s7.get 0 rfl)
    obtain ⟨ids, HIDS⟩ : ∃ ids, Hid (idS T = ids) := ⟨_, rfl⟩
    obtain ⟨z, HZ⟩ : ∃ z : Nat, Hid (lenS T = z) := ⟨_, rfl⟩
    have HIL : Hid (ids.length = T.length) := by rw [Hid, ← HIDS.out, idS_len]
    rw [HIDS.out] at s7 HM
    rw [HZ.out] at HM ⊢
    rw [← HIL.out] at s7 ⊢
    have S9 : Hid (SW w.heap.size w (cellOb w6.heap.size 89 #[.int .i64 (z : Int), .slice B ids.length bc] :: riOb B ids :: blOb E T :: coOb c2 :: x1.obs (tpOb tg1 A cap L n' :: riOb LA1 live :: cellOb g3 102 cs1 :: R)) (w6.alloc (.cells #[.int .i64 (z : Int), .slice B ids.length bc] 89))) := s7.rowRi.newCell 89 _
    obtain ⟨g9, HG9⟩ : ∃ g9, Hid (w6.heap.size = g9) := ⟨_, rfl⟩
    obtain ⟨W6, HW6⟩ : ∃ W6, Hid (w6.alloc (.cells #[.int .i64 (z : Int), .slice B ids.length bc] 89) = W6) := ⟨_, rfl⟩
    rw [HG9.out, HW6.out] at S9
    have S10 : Hid (SW w.heap.size w (coOb c2 :: x1.obs (cellOb g9 89 #[.int .i64 (z : Int), .slice B ids.length bc] :: riOb B ids :: blOb E T :: tpOb tg1 A cap L n' :: riOb LA1 live :: cellOb g3 102 cs1 :: R)) W6) := SW.front (pre := [_, _, _, _, _, _, _, _]) S9.out [3, 4, 5, 6, 7, 0, 1, 2] (n := 8) rfl (by decide)
    have hT5 : T.length ≤ 5 := by omega
    have hids5 : ids.length ≤ 5 := by rw [HIL.out]; omega
    have hn1 : n' ≤ 200 := by omega
    clear s7 HO S8 S9 hq3 hn'
    go_upto_region 13 with fail
    rw [HW6.out, HG9.out]
    clear HW6 HG9
    go_wp2_with fail
    rename World => wa
    go_loopw [10] (fun s10 wr => ∃ (k n : Nat) (c : CR) (x : SR), k ≤ ids.length ∧ s10 = .int .i64 (k : Int) ∧ n ≤ 200 + k ∧ UpI cp ps (ids.take k) k c x ∧ SW w.heap.size w (coOb c :: x.obs (cellOb g9 89 #[.int .i64 (z : Int), .slice B ids.length bc] :: riOb B ids :: blOb E T :: tpOb tg1 A cap L n :: riOb LA1 live :: cellOb g3 102 cs1 :: R)) wr) (fun s10 _ => ids.length - (intOf s10).toNat)
    case atStart => exact ⟨0, n', c2, x1, Nat.zero_le _, rfl, by omega, SI2.out, S10.out⟩
    case round =>
     rename World => wz
     obtain ⟨k, n, c, x, hk, rfl, hnk, hsi, hs⟩ := hrel
     have SI := Lib.hid hsi
     have S11 := Lib.hid hs
     clear hsi hs S10 SI2
     by_cases hlt : k < ids.length
     · obtain ⟨e, HE⟩ : ∃ e, Hid (T.getD k bs0 = e) := ⟨_, rfl⟩
       have hltT : k < T.length := by rw [← HIL.out]; exact hlt
       have HX : Hid (IsText e.bs) := HTX.out e (by rw [← HE.out]; exact getD_mem _ _ _ hltT)
       have hbl := HX.out.hi
       obtain ⟨i, HI⟩ : ∃ i, Hid (fpOf e.bs = i) := ⟨_, rfl⟩
       have HIK : Hid (ids.getD k id0 = i) := by rw [Hid, ← HIDS.out, idS_at hltT HE.out, HI.out]
       have HIO : Hid (okID i) := by rw [← HI.out]; exact HX.out.ok
       have HTK : Hid (ids.take (k + 1) = ids.take k ++ [i]) := by rw [Hid, take_snoc _ id0 _ hlt, HIK.out]
       obtain ⟨gB, hBe, _, _⟩ := S11.out.rowCell (A := B) (ids := ids) (by simp) hlt HIK.out
       subst hBe
       obtain ⟨gE, hEe, _, _, _⟩ := blOb_at (S11.out.1.holds (blOb E T) (by simp)) hltT HE.out
       subst hEe
       have HCI := Lib.hid (fun (w' : World) (c : CR) (x : SR) (n : Nat) (pre : List Ob) (hS : SW w.heap.size w (pre ++ (coOb c :: x.obs (cellOb g9 89 #[.int .i64 (z : Int), .slice (some ⟨gB, 0, none⟩) ids.length bc] :: riOb (some ⟨gB, 0, none⟩) ids :: blOb (some ⟨gE, 0, none⟩) T :: tpOb tg1 A cap L n :: riOb LA1 live :: cellOb g3 102 cs1 :: R))) w') => (show w'.cell? ⟨gB, k * 2, none⟩ = some (.int .u64 i.1) ∧ w'.cell? ⟨gB, k * 2 + 1, none⟩ = some (.int .i64 i.2) ∧ w'.cell? ⟨gE, k, none⟩ = some (.slice e.d.A e.bs.length e.d.cap) ∧ RB w' e.d e.bs from by
        obtain ⟨gq, hq, a0, a1⟩ := hS.rowCell (A := some ⟨gB, 0, none⟩) (ids := ids) (by simp) hlt HIK.out
        injection hq with hq
        injection hq with hq
        subst hq
        obtain ⟨gr, hr, _, a2, a3⟩ := blOb_at (hS.1.holds (blOb (some ⟨gE, 0, none⟩) T) (by simp)) hltT HE.out
        injection hr with hr
        injection hr with hr
        subst hr
        rw [← a3.1] at a2
        exact ⟨a0, a1, a2, a3⟩))
       have hki : (k : Int) < (ids.length : Int) := by omega
       have hkT : (k : Int) < (T.length : Int) := by omega
       have HTV := Lib.hid (Touch_V S11.out.drew SI.out i HIO.out)
       have hTl : T.length = ids.length := HIL.out.symm
       go_upto_region 16 with fail
       refine wp_region_held_tail [(0, true), (1, true), (2, true), (3, true), (4, true), (5, true), (6, true), (7, false), (8, true), (9, true), (10, true), (11, true)] (fun w' => w'.cell? ⟨g3, 3, none⟩ = some (vPtr cp) ∧ w'.cell? ⟨g9, 1, none⟩ = some (.slice (some ⟨gB, 0, none⟩) ids.length bc) ∧ w'.cell? ⟨gB, k * 2, none⟩ = some (.int .u64 i.1) ∧ w'.cell? ⟨gB, k * 2 + 1, none⟩ = some (.int .i64 i.2)) (by kernel_rfl) (fun _ _ d _ _ h => by cases d <;> exact h) (by kernel_rfl) (⟨((S11.out.drew.cell 10 rfl).cell 3).trans HC1.out, (S11.out.drew.cell 5 rfl).cell 1, (HCI.out _ _ _ _ [] S11.out.drew).1, (HCI.out _ _ _ _ [] S11.out.drew).2.1⟩) ?_
       simp only [picked, List.map_cons, List.map_nil, List.getD_cons_succ, List.getD_cons_zero]
       iterate 7
        (refine wpHeld_take (v := ?_) (Or.inl ⟨by rfl, ?_⟩) ?_
         rotate_left
         · (intro w' hSw; obtain ⟨h1, h2, h3, h4⟩ := hSw; go_simp; try with_reducible rfl)
         try simp only [Act.put, List.setIfInBounds_toArray, List.set])
       refine wpHeld_run (fun K hK => ?_)
       go_simp
       go_at_call 73
       refine HTV.out.mono ?_
       rintro e2 w8 ⟨c3, rfl, s8, hi3⟩
       have S12 : Hid (SW w.heap.size w (coOb c3 :: x.obs (cellOb g9 89 #[.int .i64 (z : Int), .slice (some ⟨gB, 0, none⟩) ids.length bc] :: riOb (some ⟨gB, 0, none⟩) ids :: blOb (some ⟨gE, 0, none⟩) T :: tpOb tg1 A cap L n :: riOb LA1 live :: cellOb g3 102 cs1 :: R)) w8) := s8
       have SI3 := Lib.hid hi3
       clear s8 hi3 HTV S11
       go_wp2_with fail
       refine hK.out _ _ ⟨((S12.out.cell 10 rfl).cell 3).trans HC1.out, (S12.out.cell 5 rfl).cell 1, (HCI.out _ _ _ _ [] S12.out).1, (HCI.out _ _ _ _ [] S12.out).2.1⟩ ?_
       clear hK K
       try simp only [Act.put, List.setIfInBounds_toArray, List.set]
       iterate 4
        (refine wpHeld_take (v := ?_) (Or.inl ⟨by rfl, ?_⟩) ?_
         rotate_left
         · (intro w' hSw; obtain ⟨h1, h2, h3, h4⟩ := hSw; go_simp; try with_reducible rfl)
         try simp only [Act.put, List.setIfInBounds_toArray, List.set])
       refine wpHeld_nil ?_
       simp only [List.length_cons, List.length_nil, List.drop_succ_cons, List.drop_zero]
       cases hv : (asc x.C i).isSome with
       | true =>
        rw [hv] at SI3
        have SI6 : Hid (UpI cp ps (ids.take (k + 1)) (k + 1) c3 x) := by
         have := SI3.out
         rw [if_pos rfl] at this
         rw [Hid, HTK.out]
         exact ⟨this.cp, this.ps, this.xp, this.se, this.ids, this.len, this.nd, this.cl, this.tx, this.sure, Nat.le_succ_of_le this.pn, this.fl⟩
        have S14 := Lib.hid S12.out
        clear S12 SI3 hv
        have HN3 : Hid (Calls Tryz.prog 33 #[vPtr tg1, .int .i64 3] w8.drew (fun e w' => e = .returned (.int .i64 (tnext L n 3)) ∧ SW w.heap.size w (coOb c3 :: x.obs (cellOb g9 89 #[.int .i64 (z : Int), .slice (some ⟨gB, 0, none⟩) ids.length bc] :: riOb (some ⟨gB, 0, none⟩) ids :: blOb (some ⟨gE, 0, none⟩) T :: tpOb tg1 A cap L (n + 1) :: riOb LA1 live :: cellOb g3 102 cs1 :: R)) w')) := Next_x S14.out.drew 8 rfl 3 (by omega) (by omega)
        go_upto_region 23 with fail
        refine wp_region_held_tail [(0, true), (1, true), (2, true), (3, false), (4, false), (5, true), (6, true), (7, true), (8, true)] (fun w' => w'.cell? ⟨g3, 3, none⟩ = some (vPtr cp)) (by kernel_rfl) (fun _ _ d _ _ h => by cases d <;> exact h) (by kernel_rfl) (((S14.out.drew.cell 10 rfl).cell 3).trans HC1.out) ?_
        simp only [picked, List.map_cons, List.map_nil, List.getD_cons_succ, List.getD_cons_zero]
        iterate 3
         (refine wpHeld_take (v := ?_) (Or.inl ⟨by rfl, ?_⟩) ?_
          rotate_left
          · (intro w' hSw; have h1 := hSw; go_simp; try with_reducible rfl)
          try simp only [Act.put, List.setIfInBounds_toArray, List.set])
        refine wpHeld_run (fun K hK => ?_)
        go_simp
        go_at_call 33
        refine HN3.out.mono ?_
        rintro e2 w14 ⟨rfl, s14⟩
        have S15 : Hid (SW w.heap.size w (coOb c3 :: x.obs (cellOb g9 89 #[.int .i64 (z : Int), .slice (some ⟨gB, 0, none⟩) ids.length bc] :: riOb (some ⟨gB, 0, none⟩) ids :: blOb (some ⟨gE, 0, none⟩) T :: tpOb tg1 A cap L (n + 1) :: riOb LA1 live :: cellOb g3 102 cs1 :: R)) w14) := s14
        generalize tnext L n 3 = q
        have HST := Lib.hid (Step_V S15.out SI6.out q)
        clear s14 HN3 S14
        go_wp2_with fail
        refine hK.out _ _ (((S15.out.cell 10 rfl).cell 3).trans HC1.out) ?_
        clear hK K
        try simp only [Act.put, List.setIfInBounds_toArray, List.set]
        refine wpHeld_run (fun K hK => ?_)
        go_simp
        go_at_call 62
        refine HST.out.mono ?_
        rintro e2 w15 ⟨A2, cap2, q2, c6, x6, rfl, s15, hi6⟩
        have S16 : Hid (SW w.heap.size w (coOb c6 :: x6.obs (cellOb g9 89 #[.int .i64 (z : Int), .slice (some ⟨gB, 0, none⟩) ids.length bc] :: riOb (some ⟨gB, 0, none⟩) ids :: blOb (some ⟨gE, 0, none⟩) T :: tpOb tg1 A cap L (n + 1) :: riOb LA1 live :: cellOb g3 102 cs1 :: R)) w15) := s15
        have SI7 := Lib.hid hi6
        clear s15 hi6 HST S15
        go_wp2_with fail
        refine hK.out _ _ (((S16.out.cell 10 rfl).cell 3).trans HC1.out) ?_
        clear hK K
        try simp only [Act.put, List.setIfInBounds_toArray, List.set]
        iterate 4
         (refine wpHeld_take (v := ?_) (Or.inl ⟨by rfl, ?_⟩) ?_
          rotate_left
          · (intro w' hSw; have h1 := hSw; go_simp; try with_reducible rfl)
          try simp only [Act.put, List.setIfInBounds_toArray, List.set])
        refine wpHeld_nil ?_
        simp only [List.length_cons, List.length_nil, List.drop_succ_cons, List.drop_zero]
        go_wp2_with fail
        go_roundw
        case rel => exact ⟨k + 1, n + 1, c6, x6, by omega, by go_num, by omega, SI7.out, S16.out⟩
        case measure => simp [intOf]; omega
       | false =>
        rw [hv] at SI3
        have SI4 : Hid (UpI cp ps (ids.take k) k c3 x) := by
         have := SI3.out
         rw [if_neg (by simp), List.append_nil] at this
         exact this
        have HNO : Hid (asc x.C (fpOf e.bs) = none) := by
         rw [Hid, HI.out]
         cases hx : asc x.C i with
         | none => rfl
         | some v => rw [hx] at hv; cases hv
        clear SI3 hv
        have S13 := Lib.hid S12.out.drew
        obtain ⟨wd, HWD⟩ : ∃ wd, Hid (w8.drew = wd) := ⟨_, rfl⟩
        clear S12
        go_upto_region 20 with fail
        go_cut [13, 14] from 61 to 112 (fun s13 s14 wx => ∃ (gC : Nat) (c4 : CR) (x4 : SR), s13 = .pointer (some ⟨gC, 0, none⟩) ∧ s14 = .int .i64 0 ∧ SW w.heap.size w (cellOb gC 31 #[.int .u64 i.1, .int .i64 i.2] :: coOb c4 :: x4.obs (cellOb g9 89 #[.int .i64 (z : Int), .slice (some ⟨gB, 0, none⟩) ids.length bc] :: riOb (some ⟨gB, 0, none⟩) ids :: blOb (some ⟨gE, 0, none⟩) T :: tpOb tg1 A cap L n :: riOb LA1 live :: cellOb g3 102 cs1 :: R)) wx ∧ UpI cp ps (ids.take k ++ [i]) (k + 1) c4 x4)
        case first =>
         refine wp_region_tree 12 (.take 0 (.take 1 (.take 2 (.take 3 (.take 4 (.take 5 (.two 6 (.take 7 (.take 8 (.take 9 (.one 10 (.one 11 .nil))))) 10 (.one 6 (.take 7 (.take 8 (.take 9 (.one 11 .nil)))))))))))) (fun w' => w'.cell? ⟨g3, 3, none⟩ = some (vPtr cp) ∧ w'.cell? ⟨gE, k, none⟩ = some (.slice e.d.A e.bs.length e.d.cap)) (by kernel_rfl) (fun _ _ d _ _ h => by cases d <;> exact h) (by kernel_rfl) ⟨((S13.out.cell 10 rfl).cell 3).trans HC1.out, (HCI.out _ _ _ _ [] S13.out).2.2.1⟩ ?_
         rw [HWD.out] at S13 ⊢
         clear HWD
         iterate 6
          refine wpTr_takeL rfl ?_ (Or.inl ⟨by rfl, ?_⟩) ?_
          rotate_left
          · (intro w' hSw; obtain ⟨h1, h2⟩ := hSw; go_simp; try with_reducible rfl)
          try simp only [Act.put, List.setIfInBounds_toArray, List.set]
         refine wpTr_two ?_ ?_
         · refine wpTr_runL rfl (fun K' hK' => ?_)
           go_simp
           go_at_call 72
           refine (CPut_V S13.out SI4.out e.d.A e.d.cap e.bs (blOb (some ⟨gE, 0, none⟩) T) (by simp) (fun w' hw' => (blOb_rb hw' hltT HE.out).rs) HX.out HNO.out).mono ?_
           rw [HI.out]
           rintro e2 w9 ⟨c4, x4, rfl, sU, hi4⟩
           have SU : SW w.heap.size w (coOb c4 :: x4.obs (cellOb g9 89 #[.int .i64 (z : Int), .slice (some ⟨gB, 0, none⟩) ids.length bc] :: riOb (some ⟨gB, 0, none⟩) ids :: blOb (some ⟨gE, 0, none⟩) T :: tpOb tg1 A cap L n :: riOb LA1 live :: cellOb g3 102 cs1 :: R)) w9 := sU
           have SI5 := Lib.hid hi4
           clear sU hi4
           go_wp2_with fail
           refine hK'.out _ _ ⟨((SU.cell 10 rfl).cell 3).trans HC1.out, (HCI.out _ _ _ _ [] SU).2.2.1⟩ ?_
           clear hK' K'
           try simp only [Act.put, List.setIfInBounds_toArray, List.set]
           iterate 3
            refine wpTr_takeL rfl ?_ (Or.inl ⟨by rfl, ?_⟩) ?_
            rotate_left
            · (intro w' hSw; obtain ⟨h1, h2⟩ := hSw; go_simp; try with_reducible rfl)
            try simp only [Act.put, List.setIfInBounds_toArray, List.set]
           refine wpTr_one ?_
           refine wpTr_runL rfl (fun K' hK' => ?_)
           have SV : SW w.heap.size w (cellOb _ 31 #[.int .u64 0, .int .i64 0] :: coOb c4 :: x4.obs (cellOb g9 89 #[.int .i64 (z : Int), .slice (some ⟨gB, 0, none⟩) ids.length bc] :: riOb (some ⟨gB, 0, none⟩) ids :: blOb (some ⟨gE, 0, none⟩) T :: tpOb tg1 A cap L n :: riOb LA1 live :: cellOb g3 102 cs1 :: R)) _ := SW.newCell SU 31 #[.int .u64 0, .int .i64 0]
           go_simp
           refine hK'.out _ _ ⟨((SV.cell 11 rfl).cell 3).trans HC1.out, (HCI.out _ _ _ _ [_] SV).2.2.1⟩ ?_
           clear hK' K'
           obtain ⟨gC, W9, eC, eW, SV⟩ : ∃ gC W9, Hid (_ = gC) ∧ Hid (_ = W9) ∧ SW w.heap.size w (cellOb gC 31 #[.int .u64 0, .int .i64 0] :: coOb c4 :: x4.obs (cellOb g9 89 #[.int .i64 (z : Int), .slice (some ⟨gB, 0, none⟩) ids.length bc] :: riOb (some ⟨gB, 0, none⟩) ids :: blOb (some ⟨gE, 0, none⟩) T :: tpOb tg1 A cap L n :: riOb LA1 live :: cellOb g3 102 cs1 :: R)) W9 := ⟨_, _, rfl, rfl, SV⟩
           rw [eC.out, eW.out]
           clear eC eW
           try simp only [Act.put, List.setIfInBounds_toArray, List.set]
           have SW0 := SV
           refine wpTr_one ?_
           refine wpTr_runL rfl (fun K' hK' => ?_)
           have z0 := (SW0.cell 0 rfl).cell 0
           have z1 := (SW0.cell 0 rfl).cell 1
           have f0 := (SW0.cell 0 rfl).frozen 0
           have f1 := (SW0.cell 0 rfl).frozen 1
           have SZ : SW w.heap.size w (cellOb gC 31 #[.int .u64 i.1, .int .i64 i.2] :: coOb c4 :: x4.obs (cellOb g9 89 #[.int .i64 (z : Int), .slice (some ⟨gB, 0, none⟩) ids.length bc] :: riOb (some ⟨gB, 0, none⟩) ids :: blOb (some ⟨gE, 0, none⟩) T :: tpOb tg1 A cap L n :: riOb LA1 live :: cellOb g3 102 cs1 :: R)) _ := (SW0.setAt 0 rfl 0 (.int .u64 i.1)).setAt 0 rfl 1 (.int .i64 i.2)
           go_simp
           refine hK'.out _ _ ⟨((SZ.cell 11 rfl).cell 3).trans HC1.out, (HCI.out _ _ _ _ [_] SZ).2.2.1⟩ ?_
           clear hK' K' z0 z1 f0 f1
           try simp only [Act.put, List.setIfInBounds_toArray, List.set]
           refine wpTr_nil ?_
           simp only [List.drop_succ_cons, List.drop_zero]
           go_wp2_with fail
           go_meet
           exact ⟨gC, c4, x4, rfl, rfl, SZ, SI5.out⟩
         · refine wpTr_runL rfl (fun K' hK' => ?_)
           have SV : SW w.heap.size w (cellOb _ 31 #[.int .u64 0, .int .i64 0] :: coOb c3 :: x.obs (cellOb g9 89 #[.int .i64 (z : Int), .slice (some ⟨gB, 0, none⟩) ids.length bc] :: riOb (some ⟨gB, 0, none⟩) ids :: blOb (some ⟨gE, 0, none⟩) T :: tpOb tg1 A cap L n :: riOb LA1 live :: cellOb g3 102 cs1 :: R)) _ := SW.newCell S13.out 31 #[.int .u64 0, .int .i64 0]
           go_simp
           refine hK'.out _ _ ⟨((SV.cell 11 rfl).cell 3).trans HC1.out, (HCI.out _ _ _ _ [_] SV).2.2.1⟩ ?_
           clear hK' K'
           obtain ⟨gC, W9, eC, eW, SV⟩ : ∃ gC W9, Hid (_ = gC) ∧ Hid (_ = W9) ∧ SW w.heap.size w (cellOb gC 31 #[.int .u64 0, .int .i64 0] :: coOb c3 :: x.obs (cellOb g9 89 #[.int .i64 (z : Int), .slice (some ⟨gB, 0, none⟩) ids.length bc] :: riOb (some ⟨gB, 0, none⟩) ids :: blOb (some ⟨gE, 0, none⟩) T :: tpOb tg1 A cap L n :: riOb LA1 live :: cellOb g3 102 cs1 :: R)) W9 := ⟨_, _, rfl, rfl, SV⟩
           rw [eC.out, eW.out]
           clear eC eW
           try simp only [Act.put, List.setIfInBounds_toArray, List.set]
           refine wpTr_one ?_
           refine wpTr_runL rfl (fun K' hK' => ?_)
           go_simp
           go_at_call 72
           refine (CPut_V (SW.front (pre := [_, _, _, _, _, _]) SV [1, 2, 3, 4, 5, 0] (n := 6) rfl (by decide) : SW w.heap.size w (coOb c3 :: x.obs (cellOb gC 31 #[.int .u64 0, .int .i64 0] :: cellOb g9 89 #[.int .i64 (z : Int), .slice (some ⟨gB, 0, none⟩) ids.length bc] :: riOb (some ⟨gB, 0, none⟩) ids :: blOb (some ⟨gE, 0, none⟩) T :: tpOb tg1 A cap L n :: riOb LA1 live :: cellOb g3 102 cs1 :: R)) _) SI4.out e.d.A e.d.cap e.bs (blOb (some ⟨gE, 0, none⟩) T) (by simp) (fun w' hw' => (blOb_rb hw' hltT HE.out).rs) HX.out HNO.out).mono ?_
           rw [HI.out]
           rintro e2 w9 ⟨c4, x4, rfl, sU, hi4⟩
           have SU : SW w.heap.size w (cellOb gC 31 #[.int .u64 0, .int .i64 0] :: coOb c4 :: x4.obs (cellOb g9 89 #[.int .i64 (z : Int), .slice (some ⟨gB, 0, none⟩) ids.length bc] :: riOb (some ⟨gB, 0, none⟩) ids :: blOb (some ⟨gE, 0, none⟩) T :: tpOb tg1 A cap L n :: riOb LA1 live :: cellOb g3 102 cs1 :: R)) w9 := SW.front (pre := [_, _, _, _, _, _]) sU [5, 0, 1, 2, 3, 4] (n := 6) rfl (by decide)
           have SI5 := Lib.hid hi4
           clear sU hi4
           go_wp2_with fail
           refine hK'.out _ _ ⟨((SU.cell 11 rfl).cell 3).trans HC1.out, (HCI.out _ _ _ _ [cellOb gC 31 #[.int .u64 0, .int .i64 0]] SU).2.2.1⟩ ?_
           clear hK' K'
           try simp only [Act.put, List.setIfInBounds_toArray, List.set]
           iterate 3
            refine wpTr_takeL rfl ?_ (Or.inl ⟨by rfl, ?_⟩) ?_
            rotate_left
            · (intro w' hSw; obtain ⟨h1, h2⟩ := hSw; go_simp; try with_reducible rfl)
            try simp only [Act.put, List.setIfInBounds_toArray, List.set]
           have SW0 := SU
           refine wpTr_one ?_
           refine wpTr_runL rfl (fun K' hK' => ?_)
           have z0 := (SW0.cell 0 rfl).cell 0
           have z1 := (SW0.cell 0 rfl).cell 1
           have f0 := (SW0.cell 0 rfl).frozen 0
           have f1 := (SW0.cell 0 rfl).frozen 1
           have SZ : SW w.heap.size w (cellOb gC 31 #[.int .u64 i.1, .int .i64 i.2] :: coOb c4 :: x4.obs (cellOb g9 89 #[.int .i64 (z : Int), .slice (some ⟨gB, 0, none⟩) ids.length bc] :: riOb (some ⟨gB, 0, none⟩) ids :: blOb (some ⟨gE, 0, none⟩) T :: tpOb tg1 A cap L n :: riOb LA1 live :: cellOb g3 102 cs1 :: R)) _ := (SW0.setAt 0 rfl 0 (.int .u64 i.1)).setAt 0 rfl 1 (.int .i64 i.2)
           go_simp
           refine hK'.out _ _ ⟨((SZ.cell 11 rfl).cell 3).trans HC1.out, (HCI.out _ _ _ _ [_] SZ).2.2.1⟩ ?_
           clear hK' K' z0 z1 f0 f1
           try simp only [Act.put, List.setIfInBounds_toArray, List.set]
           refine wpTr_nil ?_
           simp only [List.drop_succ_cons, List.drop_zero]
           go_wp2_with fail
           go_meet
           exact ⟨gC, c4, x4, rfl, rfl, SZ, SI5.out⟩
        case rest =>
         obtain ⟨gC, c4, x4, rfl, rfl, hs, hi4⟩ := hcut
         have S13' : Hid (SW w.heap.size w (cellOb gC 31 #[.int .u64 i.1, .int .i64 i.2] :: coOb c4 :: x4.obs (cellOb g9 89 #[.int .i64 (z : Int), .slice (some ⟨gB, 0, none⟩) ids.length bc] :: riOb (some ⟨gB, 0, none⟩) ids :: blOb (some ⟨gE, 0, none⟩) T :: tpOb tg1 A cap L n :: riOb LA1 live :: cellOb g3 102 cs1 :: R)) wc) := hs
         have SI6 : Hid (UpI cp ps (ids.take (k + 1)) (k + 1) c4 x4) := by rw [Hid, HTK.out]; exact hi4
         have z0 := (S13'.out.cell 0 rfl).cell 0
         have z1 := (S13'.out.cell 0 rfl).cell 1
         have m1 : wc.cell? ⟨g9, 1, none⟩ = some (.slice (some ⟨gB, 0, none⟩) ids.length bc) := (S13'.out.cell 6 rfl).cell 1
         obtain ⟨a0, a1, _, _⟩ := HCI.out _ _ _ _ [_] S13'.out
         have heq := fun W => neq31 i i W
         clear hs hi4 S13
         go_upto_region 21 with fail
         go_quiet (fail)
         have S14 : Hid (SW w.heap.size w (coOb c4 :: x4.obs (cellOb g9 89 #[.int .i64 (z : Int), .slice (some ⟨gB, 0, none⟩) ids.length bc] :: riOb (some ⟨gB, 0, none⟩) ids :: blOb (some ⟨gE, 0, none⟩) T :: tpOb tg1 A cap L n :: riOb LA1 live :: cellOb g3 102 cs1 :: R)) (wc.drewN nq)) := (S13'.out.on (bdrewN (Below.refl _ _) nq)).tail
         clear S13' z0 z1 m1 a0 a1 heq
         generalize wc.drewN nq = wy at S14 ⊢
         go_upto_region 23 with fail
         have HN3 : Hid (Calls Tryz.prog 33 #[vPtr tg1, .int .i64 3] wy.drew (fun e w' => e = .returned (.int .i64 (tnext L n 3)) ∧ SW w.heap.size w (coOb c4 :: x4.obs (cellOb g9 89 #[.int .i64 (z : Int), .slice (some ⟨gB, 0, none⟩) ids.length bc] :: riOb (some ⟨gB, 0, none⟩) ids :: blOb (some ⟨gE, 0, none⟩) T :: tpOb tg1 A cap L (n + 1) :: riOb LA1 live :: cellOb g3 102 cs1 :: R)) w')) := Next_x S14.out.drew 8 rfl 3 (by omega) (by omega)
         go_upto_region 23 with fail
         refine wp_region_held_tail [(0, true), (1, true), (2, true), (3, false), (4, false), (5, true), (6, true), (7, true), (8, true)] (fun w' => w'.cell? ⟨g3, 3, none⟩ = some (vPtr cp)) (by kernel_rfl) (fun _ _ d _ _ h => by cases d <;> exact h) (by kernel_rfl) (((S14.out.drew.cell 10 rfl).cell 3).trans HC1.out) ?_
         simp only [picked, List.map_cons, List.map_nil, List.getD_cons_succ, List.getD_cons_zero]
         iterate 3
          (refine wpHeld_take (v := ?_) (Or.inl ⟨by rfl, ?_⟩) ?_
           rotate_left
           · (intro w' hSw; have h1 := hSw; go_simp; try with_reducible rfl)
           try simp only [Act.put, List.setIfInBounds_toArray, List.set])
         refine wpHeld_run (fun K hK => ?_)
         go_simp
         go_at_call 33
         refine HN3.out.mono ?_
         rintro e2 w14 ⟨rfl, s14⟩
         have S15 : Hid (SW w.heap.size w (coOb c4 :: x4.obs (cellOb g9 89 #[.int .i64 (z : Int), .slice (some ⟨gB, 0, none⟩) ids.length bc] :: riOb (some ⟨gB, 0, none⟩) ids :: blOb (some ⟨gE, 0, none⟩) T :: tpOb tg1 A cap L (n + 1) :: riOb LA1 live :: cellOb g3 102 cs1 :: R)) w14) := s14
         generalize tnext L n 3 = q
         have HST := Lib.hid (Step_V S15.out SI6.out q)
         clear s14 HN3 S14
         go_wp2_with fail
         refine hK.out _ _ (((S15.out.cell 10 rfl).cell 3).trans HC1.out) ?_
         clear hK K
         try simp only [Act.put, List.setIfInBounds_toArray, List.set]
         refine wpHeld_run (fun K hK => ?_)
         go_simp
         go_at_call 62
         refine HST.out.mono ?_
         rintro e2 w15 ⟨A2, cap2, q2, c6, x6, rfl, s15, hi6⟩
         have S16 : Hid (SW w.heap.size w (coOb c6 :: x6.obs (cellOb g9 89 #[.int .i64 (z : Int), .slice (some ⟨gB, 0, none⟩) ids.length bc] :: riOb (some ⟨gB, 0, none⟩) ids :: blOb (some ⟨gE, 0, none⟩) T :: tpOb tg1 A cap L (n + 1) :: riOb LA1 live :: cellOb g3 102 cs1 :: R)) w15) := s15
         have SI7 := Lib.hid hi6
         clear s15 hi6 HST S15
         go_wp2_with fail
         refine hK.out _ _ (((S16.out.cell 10 rfl).cell 3).trans HC1.out) ?_
         clear hK K
         try simp only [Act.put, List.setIfInBounds_toArray, List.set]
         iterate 4
          (refine wpHeld_take (v := ?_) (Or.inl ⟨by rfl, ?_⟩) ?_
           rotate_left
           · (intro w' hSw; have h1 := hSw; go_simp; try with_reducible rfl)
           try simp only [Act.put, List.setIfInBounds_toArray, List.set])
         refine wpHeld_nil ?_
         simp only [List.length_cons, List.length_nil, List.drop_succ_cons, List.drop_zero]
         go_wp2_with fail
         go_roundw
         case rel => exact ⟨k + 1, n + 1, c6, x6, by omega, by go_num, by omega, SI7.out, S16.out⟩
         case measure => simp [intOf]; omega
     · obtain rfl : k = ids.length := by omega
       rw [List.take_length] at SI
       have HOKS : Hid (∀ i ∈ ids, okID i) := fun i hi => by
        rw [← HIDS.out] at hi
        obtain ⟨e, he, rfl⟩ := List.mem_map.1 hi
        exact (HTX.out e he).ok
       have k3 : wz.cell? ⟨g3, 3, none⟩ = some (vPtr cp) := ((S11.out.cell 10 rfl).cell 3).trans HC1.out
       have m1 : wz.cell? ⟨g9, 1, none⟩ = some (.slice B ids.length bc) := (S11.out.cell 5 rfl).cell 1
       have HKP := Lib.hid (Keep_any S11.out B bc ids (by simp) HOKS.out SI.out.ids (by omega) (by have := SI.out.len; omega))
       rw [show vPtr c.cp = vPtr cp from congrArg vPtr SI.out.cp] at HKP
       have hTl : T.length = ids.length := HIL.out.symm
       go_wp2_with (go_at_call 75; (with_reducible refine HKP.out.mono ?_); refine halt_ ?_)
       rintro e w8 ⟨rfl, s8⟩
       have S12 := Lib.hid s8
       have k3 : w8.cell? ⟨g3, 3, none⟩ = some (vPtr cp) := ((S12.out.cell 10 rfl).cell 3).trans HC1.out
       have hpn : (pends x.C).length ≤ 5 := Nat.le_trans SI.out.pn hids5
       obtain ⟨mm2, H2, hse2, _⟩ := SI.out.se
       have HE1 := Lib.hid (End_some S12.out 7 0 (fiU (c := { c with cand := lessL (setI ids) c.cand }) hse2))
       rw [show vPtr ({ c with cand := lessL (setI ids) c.cand } : CR).cp = vPtr cp from congrArg vPtr SI.out.cp] at HE1
       have EI := Lib.hid (KeepEnd_V SI.out)
       obtain ⟨c5, HC5⟩ : ∃ c5 : CR, Hid ((({ c with cand := lessL (setI ids) c.cand } : CR)).ended 0 = c5) := ⟨_, rfl⟩
       rw [HC5.out] at HE1 EI
       clear s8 HKP S11 m1 hse2
       go_wp2_with (go_at_call 67; (with_reducible refine HE1.out.mono ?_); refine halt_ ?_)
       rintro e w9 ⟨rfl, s9⟩
       have S13 : Hid (SW w.heap.size w (x.obs (coOb c5 :: cellOb g9 89 #[.int .i64 (z : Int), .slice B ids.length bc] :: riOb B ids :: blOb E T :: tpOb tg1 A cap L n :: riOb LA1 live :: cellOb g3 102 cs1 :: R)) w9) := SW.behind s9
       have k2 : w9.cell? ⟨g3, 2, none⟩ = some (vPtr ps) := ((S13.out.cell 10 rfl).cell 2).trans HD1.out
       have hfs : frSum (pends x.C) ≤ 160 := by
        obtain ⟨P, hT⟩ := EI.out.tx
        have := hT.pends
        omega
       have HFL := Lib.hid (Flush_L S13.out SI.out.cl (by omega) (by have := SI.out.fl; omega))
       rw [SI.out.xp] at HFL
       clear s9 HE1 S12 k3
       go_wp2_with (go_at_call 35; (with_reducible refine HFL.out.mono ?_); refine halt_ ?_)
       rintro e w10 ⟨rfl, x5, s10, hc5, hf5⟩
       have S14 : Hid (SW w.heap.size w (coOb c5 :: x5.obs (cellOb g9 89 #[.int .i64 (z : Int), .slice B ids.length bc] :: riOb B ids :: blOb E T :: tpOb tg1 A cap L n :: riOb LA1 live :: cellOb g3 102 cs1 :: R)) w10) := SW.infront s10
       have EI5 := Lib.hid (EI.out.flush hc5 hf5)
       clear s10 hc5 hf5 HFL S13 k2 EI SI
       go_wp2_with fail
       rename World => wb
       go_loopw [17] (fun s17 wr => ∃ (k : Nat) (c : CR) (x : SR), k ≤ 20 ∧ s17 = .int .i64 (k : Int) ∧ EnI cp ps ids (11 - k) c x ∧ SW w.heap.size w (coOb c :: x.obs (cellOb g9 89 #[.int .i64 (z : Int), .slice B ids.length bc] :: riOb B ids :: blOb E T :: tpOb tg1 A cap L n :: riOb LA1 live :: cellOb g3 102 cs1 :: R)) wr) (fun s17 _ => 20 - (intOf s17).toNat)
       case atStart => exact ⟨0, c5, x5, by omega, rfl, EI5.out, S14.out⟩
       case round =>
        rename World => wy
        obtain ⟨k, c, x, hk, rfl, hei, hs⟩ := hrel
        have EI := Lib.hid hei
        have S15 := Lib.hid hs
        clear hei hs S14 EI5
        by_cases hlt : k < 20
        · have k3 : wy.cell? ⟨g3, 3, none⟩ = some (vPtr cp) := ((S15.out.cell 10 rfl).cell 3).trans HC1.out
          have HST := Lib.hid (Step_E S15.out EI.out (by omega))
          go_wp2_with (go_at_call 62; (with_reducible refine HST.out.mono ?_); refine halt_ ?_)
          rintro e w11 ⟨A2, cap2, q2, c6, x6, rfl, s11, hi6⟩
          have S16 := Lib.hid s11
          have EI6 := Lib.hid hi6
          clear s11 hi6 HST S15 k3
          go_wp2_with fail
          go_roundw
          case rel => exact ⟨k + 1, c6, x6, by omega, by go_num, by have := EI6.out; rwa [show 11 - k - 1 = 11 - (k + 1) by omega] at this, S16.out⟩
          case measure => simp [intOf]; omega
        · obtain rfl : k = 20 := by omega
          rw [show ((20 : Nat) : Int) = 20 from rfl]
          have hcand : c.cand = [] := List.eq_nil_of_length_eq_zero (by have := EI.out.len; omega)
          have HCA := Lib.hid hcand
          have S16 : Hid (SW w.heap.size w (rowOb 65 3 (.slice none 0 0) 0 [] :: bufsOb (([] : List CH).map (·.2)) :: coOb c :: x.obs (cellOb g9 89 #[.int .i64 (z : Int), .slice B ids.length bc] :: riOb B ids :: blOb E T :: tpOb tg1 A cap L n :: riOb LA1 live :: cellOb g3 102 cs1 :: R)) wy) := (SW.noBufs S15.out).newRow 65 3
          clear hcand S15
          go_wp2_with fail
          rename World => wd
          go_loopw [20, 21] (fun s20 s21 wr => ∃ (k : Nat) (K : List CH) (F : Option Addr) (fc : Nat), k ≤ ids.length ∧ K.length = k ∧ s21 = .int .i64 (k : Int) ∧ s20 = .slice F K.length fc ∧ Hid ((∀ q ∈ K, fpOf q.2.bs = q.1 ∧ IsText q.2.bs) ∧ K.map (·.1) = ids.take k) ∧ SW w.heap.size w (rowOb 65 3 (.slice F K.length fc) K.length (K.flatMap encCH) :: bufsOb (K.map (·.2)) :: coOb c :: x.obs (cellOb g9 89 #[.int .i64 (z : Int), .slice B ids.length bc] :: riOb B ids :: blOb E T :: tpOb tg1 A cap L n :: riOb LA1 live :: cellOb g3 102 cs1 :: R)) wr) (fun _ s21 _ => ids.length - (intOf s21).toNat)
          case atStart => exact ⟨0, [], none, 0, Nat.zero_le _, rfl, rfl, rfl, ⟨fun q hq => (by cases hq), rfl⟩, S16.out⟩
          case round =>
           rename World => wt
           obtain ⟨k, K, F, fc, hk, hKl, rfl, rfl, HKK, hs⟩ := hrel
           have HKl := Lib.hid hKl
           have hKle : K.length ≤ ids.length := by omega
           clear hKl
           have S17 := Lib.hid hs
           clear hs S16
           by_cases hlt : k < ids.length
           · obtain ⟨i, hik⟩ : ∃ i, ids.getD k id0 = i := ⟨_, rfl⟩
             have him : i ∈ ids := by rw [← hik]; exact getD_mem _ _ _ hlt
             obtain ⟨bs, hv, hfp, htx⟩ := EI.out.val him
             have HIK := Lib.hid hik
             have HFP := Lib.hid hfp
             have HTXB := Lib.hid htx
             have hio := HOKS.out i him
             obtain ⟨gB, hBe, _, _⟩ := S17.out.rowCell (A := B) (ids := ids) (by simp) hlt hik
             subst hBe
             have S18 : Hid (SW w.heap.size w (x.obs (coOb c :: rowOb 65 3 (.slice F K.length fc) K.length (K.flatMap encCH) :: bufsOb (K.map (·.2)) :: cellOb g9 89 #[.int .i64 (z : Int), .slice (some ⟨gB, 0, none⟩) ids.length bc] :: riOb (some ⟨gB, 0, none⟩) ids :: blOb E T :: tpOb tg1 A cap L n :: riOb LA1 live :: cellOb g3 102 cs1 :: R)) wt) := SW.front (pre := [_, _, _, _, _, _, _]) S17.out [3, 4, 5, 6, 2, 0, 1] (n := 7) rfl (by decide)
             have HG := Lib.hid (Get_L S18.out.drew EI.out.cl i hio bs hv)
             rw [EI.out.xp] at HG
             have hki : (k : Int) < (ids.length : Int) := by omega
             have HCJ := Lib.hid (fun (w' : World) (pre : List Ob) (hS : SW w.heap.size w (pre ++ (cellOb g9 89 #[.int .i64 (z : Int), .slice (some ⟨gB, 0, none⟩) ids.length bc] :: riOb (some ⟨gB, 0, none⟩) ids :: blOb E T :: tpOb tg1 A cap L n :: riOb LA1 live :: cellOb g3 102 cs1 :: R)) w') => (show w'.cell? ⟨gB, k * 2, none⟩ = some (.int .u64 i.1) ∧ w'.cell? ⟨gB, k * 2 + 1, none⟩ = some (.int .i64 i.2) from by
              obtain ⟨gq, hq, a0, a1⟩ := hS.rowCell (A := some ⟨gB, 0, none⟩) (ids := ids) (by simp) hlt HIK.out
              injection hq with hq
              injection hq with hq
              subst hq
              exact ⟨a0, a1⟩))
             clear S17 hik hfp hv him htx hio
             have m1 : wt.cell? ⟨g9, 1, none⟩ = some (.slice (some ⟨gB, 0, none⟩) ids.length bc) := (S18.out.cell 7 rfl).cell 1
             go_upto_region 39 with fail
             refine wp_region_held_tail [(0, true), (1, true), (2, true), (3, true), (4, true), (5, true), (6, true), (7, false), (8, true), (9, true), (10, true), (11, true)] (fun w' => w'.cell? ⟨g3, 2, none⟩ = some (vPtr ps) ∧ w'.cell? ⟨g9, 1, none⟩ = some (.slice (some ⟨gB, 0, none⟩) ids.length bc) ∧ w'.cell? ⟨gB, k * 2, none⟩ = some (.int .u64 i.1) ∧ w'.cell? ⟨gB, k * 2 + 1, none⟩ = some (.int .i64 i.2)) (by kernel_rfl) (fun _ _ d _ _ h => by cases d <;> exact h) (by kernel_rfl) (⟨((S18.out.drew.cell 12 rfl).cell 2).trans HD1.out, (S18.out.drew.cell 7 rfl).cell 1, (HCJ.out _ [_, _, _, _, _, _, _] S18.out.drew).1, (HCJ.out _ [_, _, _, _, _, _, _] S18.out.drew).2⟩) ?_
             simp only [picked, List.map_cons, List.map_nil, List.getD_cons_succ, List.getD_cons_zero]
             iterate 7
              (refine wpHeld_take (v := ?_) (Or.inl ⟨by rfl, ?_⟩) ?_
               rotate_left
               · (intro w' hSw; obtain ⟨h1, h2, h3, h4⟩ := hSw; go_simp; try with_reducible rfl)
               try simp only [Act.put, List.setIfInBounds_toArray, List.set])
             refine wpHeld_run (fun K0 hK => ?_)
             go_simp
             go_at_call 30
             refine HG.out.mono ?_
             rintro e2 w12 ⟨d, rfl, s12⟩
             have S19 : Hid (SW w.heap.size w (x.obs (bufOb d bs :: coOb c :: rowOb 65 3 (.slice F K.length fc) K.length (K.flatMap encCH) :: bufsOb (K.map (·.2)) :: cellOb g9 89 #[.int .i64 (z : Int), .slice (some ⟨gB, 0, none⟩) ids.length bc] :: riOb (some ⟨gB, 0, none⟩) ids :: blOb E T :: tpOb tg1 A cap L n :: riOb LA1 live :: cellOb g3 102 cs1 :: R)) w12) := s12
             clear s12 HG S18
             go_wp2_with fail
             refine hK.out _ _ ⟨((S19.out.cell 13 rfl).cell 2).trans HD1.out, (S19.out.cell 8 rfl).cell 1, (HCJ.out _ [_, _, _, _, _, _, _, _] S19.out).1, (HCJ.out _ [_, _, _, _, _, _, _, _] S19.out).2⟩ ?_
             clear hK
             try simp only [Act.put, List.setIfInBounds_toArray, List.set]
             iterate 4
              (refine wpHeld_take (v := ?_) (Or.inl ⟨by rfl, ?_⟩) ?_
               rotate_left
               · (intro w' hSw; obtain ⟨h1, h2, h3, h4⟩ := hSw; go_simp; try with_reducible rfl)
               try simp only [Act.put, List.setIfInBounds_toArray, List.set])
             refine wpHeld_nil ?_
             simp only [List.length_cons, List.length_nil, List.drop_succ_cons, List.drop_zero]
             have m1 : w12.cell? ⟨g9, 1, none⟩ = some (.slice (some ⟨gB, 0, none⟩) ids.length bc) := (S19.out.cell 8 rfl).cell 1
             obtain ⟨a0, a1⟩ := HCJ.out _ [_, _, _, _, _, _, _, _] S19.out
             have S20 : Hid (SW w.heap.size w (bufOb d bs :: rowOb 65 3 (.slice F K.length fc) K.length (K.flatMap encCH) :: bufsOb (K.map (·.2)) :: coOb c :: x.obs (cellOb g9 89 #[.int .i64 (z : Int), .slice (some ⟨gB, 0, none⟩) ids.length bc] :: riOb (some ⟨gB, 0, none⟩) ids :: blOb E T :: tpOb tg1 A cap L n :: riOb LA1 live :: cellOb g3 102 cs1 :: R)) w12) := SW.front (pre := [_, _, _, _, _, _, _, _]) S19.out [4, 6, 7, 5, 0, 1, 2, 3] (n := 8) rfl (by decide)
             have HK2 : Hid ((∀ q ∈ K ++ [((i, ⟨d, bs⟩) : CH)], fpOf q.2.bs = q.1 ∧ IsText q.2.bs) ∧ (K ++ [((i, ⟨d, bs⟩) : CH)]).map (·.1) = ids.take (k + 1)) := by
              refine ⟨fun q hq => ?_, ?_⟩
              · rcases List.mem_append.1 hq with hq | hq
                · exact HKK.out.1 q hq
                · rw [List.mem_singleton.1 hq]
                  exact ⟨HFP.out, HTXB.out⟩
              · rw [List.map_append, HKK.out.2, take_snoc _ id0 _ hlt, HIK.out]
                rfl
             clear S19
             go_wp2_with (at_builtin; (refine wpList_rowS (t := 51) (e := 65) (size := 3) (bytes := 40) (i := j1) (S20.out.alloc _) 1 rfl (by rfl) (.tmp 160) (.tmp 168) (by rfl) Tryz.underlying51 gj gy0 gy1 gy2 rfl (by omega) (by rfl) ⟨w12.heap.size, 0, none⟩ 1 [.int .u64 i.1, .int .i64 i.2, .slice d.A d.len d.cap] (by rfl) rfl (three_new w12 _ _ _ 65 _ rfl) (encCH_one (i, ⟨d, bs⟩)) (by unfold maxLen; omega) (by omega) ?_); refine halt_ ?_)
             intro v4 w13 s13
             obtain ⟨g4, c4, rfl⟩ := own_some (s13.get 1 rfl) (by omega)
             have s14 : SW w.heap.size w (bufOb d bs :: rowOb 65 3 (.slice (some ⟨g4, 0, none⟩) (K ++ [((i, ⟨d, bs⟩) : CH)]).length c4) (K ++ [((i, ⟨d, bs⟩) : CH)]).length ((K ++ [((i, ⟨d, bs⟩) : CH)]).flatMap encCH) :: bufsOb (K.map (·.2)) :: coOb c :: x.obs (cellOb g9 89 #[.int .i64 (z : Int), .slice (some ⟨gB, 0, none⟩) ids.length bc] :: riOb (some ⟨gB, 0, none⟩) ids :: blOb E T :: tpOb tg1 A cap L n :: riOb LA1 live :: cellOb g3 102 cs1 :: R)) w13 := by
              rw [List.flatMap_append, List.length_append]
              exact s13
             have S21 : Hid (SW w.heap.size w (rowOb 65 3 (.slice (some ⟨g4, 0, none⟩) (K ++ [((i, ⟨d, bs⟩) : CH)]).length c4) (K ++ [((i, ⟨d, bs⟩) : CH)]).length ((K ++ [((i, ⟨d, bs⟩) : CH)]).flatMap encCH) :: bufsOb ((K ++ [((i, ⟨d, bs⟩) : CH)]).map (·.2)) :: coOb c :: x.obs (cellOb g9 89 #[.int .i64 (z : Int), .slice (some ⟨gB, 0, none⟩) ids.length bc] :: riOb (some ⟨gB, 0, none⟩) ids :: blOb E T :: tpOb tg1 A cap L n :: riOb LA1 live :: cellOb g3 102 cs1 :: R)) w13) := by
              rw [Hid, List.map_append]
              exact SW.front (pre := [_, _]) ((SW.front (pre := [_, _, _]) s14 [0, 2, 1] (n := 3) rfl (by decide)).fuseB) [1, 0] (n := 2) rfl (by decide)
             have hKl2 : (K ++ [((i, ⟨d, bs⟩) : CH)]).length = K.length + 1 := by rw [List.length_append]; rfl
             rw [← hKl2]
             generalize K ++ [((i, ⟨d, bs⟩) : CH)] = K2 at S21 HK2 hKl2
             clear s13 s14 S20 m1 a0 a1
             go_wp2_with fail
             go_roundw
             case rel => exact ⟨k + 1, K2, some ⟨g4, 0, none⟩, c4, by omega, by have := HKl.out; omega, by go_num, rfl, HK2, S21.out⟩
             case measure => simp [intOf]; omega
           · obtain rfl : k = ids.length := by omega
             have hKK := HKK.out
             rw [List.take_length] at hKK
             have HK3 := Lib.hid hKK
             have S18 := Lib.hid S17.out.fuseCk
             have m0 : wt.cell? ⟨g9, 0, none⟩ = some (.int .i64 (z : Int)) := (S18.out.cell 6 rfl).cell 0
             have m1 : wt.cell? ⟨g9, 1, none⟩ = some (.slice B ids.length bc) := (S18.out.cell 6 rfl).cell 1
             have HAS := Lib.hid (Assemble_any S18.out z ids B bc (by simp) HM.out fc (C := F) (T := K) (by simp) (fun q hq => by
              have h1 := (HK3.out.1 q hq)
              rw [← h1.1]
              exact h1.2.ok) (by omega) (fun i hi => by
              have h1 := fst_has (K := K) i (by rw [HK3.out.2]; exact hi)
              cases hx : asc (fstL K) i with
              | none => rw [hx] at h1; cases h1
              | some e => exact ⟨e, rfl, (HK3.out.1 _ (fstL_mem hx)).1⟩))
             have HAJ : Hid (asmL K ids = joinT T) := by
              rw [Hid, ← HIDS.out]
              refine asm_join HTX.out HK3.out.1 (fun i hi => fst_has (K := K) i (by rw [HK3.out.2, ← HIDS.out]; exact hi))
             rw [HAJ.out] at HAS
             have hjl : (joinT T).length ≤ 1000 := by
              have : ∀ T : List BS, (∀ e ∈ T, IsText e.bs) → (joinT T).length ≤ 4 * T.length := fun T hT => by
               induction T with
               | nil => simp [joinT]
               | cons e T ih =>
                have h1 := (hT e (by simp)).hi
                have h2 := ih (fun e he => hT e (by simp [he]))
                have : joinT (e :: T) = e.bs ++ joinT T := by simp [joinT]
                rw [this, List.length_append, List.length_cons]
                omega
              have := this T HTX.out
              omega
             obtain ⟨J, HJ⟩ : ∃ J, Hid (joinT T = J) := ⟨_, rfl⟩
             rw [HJ.out] at HAS hjl
             clear hKK HKK S17
             go_wp2_with (go_at_call 58; (with_reducible refine HAS.out.mono ?_); refine halt_ ?_)
             rintro e w14 ⟨d, rfl, s14⟩
             have S19 := Lib.hid s14.drew
             clear s14 HAS S18 m0 m1
             have HJO := Lib.hid (fun (W : World) (S : SW w.heap.size w (bufOb d J :: ckOb F K :: coOb c :: x.obs (cellOb g9 89 #[.int .i64 (z : Int), .slice B ids.length bc] :: riOb B ids :: blOb E T :: tpOb tg1 A cap L n :: riOb LA1 live :: cellOb g3 102 cs1 :: R)) W) => Joined_any S (A := E) (T := T) (by simp) ec (by omega) (fun e he => by have := (HTX.out e he).hi; omega))
             rw [HJ.out, hTl] at HJO
             go_upto_region 44 with fail
             refine wp_region_held_tail [(0, true), (1, true), (2, true), (3, true), (5, true), (4, true), (6, false), (7, false), (8, true), (9, true), (10, true), (11, true), (12, true), (13, false), (14, true), (15, true)] (fun w' => w'.cell? ⟨g3, 3, none⟩ = some (vPtr cp) ∧ RB w' d J) (by kernel_rfl) (fun _ _ d _ _ h => by cases d <;> exact h) (by kernel_rfl) (⟨((S19.out.cell 12 rfl).cell 3).trans HC1.out, S19.out.get 0 (o := bufOb d J) rfl⟩) ?_
             simp only [picked, List.map_cons, List.map_nil, List.getD_cons_succ, List.getD_cons_zero]
             iterate 6
              (refine wpHeld_take (v := ?_) (Or.inl ⟨by rfl, ?_⟩) ?_
               rotate_left
               · (intro w' hSw; obtain ⟨h1, h2⟩ := hSw; have v1 := conv_rb h2; go_simp; try with_reducible rfl)
               try simp only [Act.put, List.setIfInBounds_toArray, List.set])
             refine wpHeld_run (fun K0 hK => ?_)
             go_simp
             go_at_call 56
             refine (HJO.out _ S19.out).mono ?_
             rintro e2 w15 ⟨d2, rfl, s15⟩
             have S20 : Hid (SW w.heap.size w (coOb c :: bufOb d2 J :: bufOb d J :: ckOb F K :: x.obs (cellOb g9 89 #[.int .i64 (z : Int), .slice B ids.length bc] :: riOb B ids :: blOb E T :: tpOb tg1 A cap L n :: riOb LA1 live :: cellOb g3 102 cs1 :: R)) w15) := SW.front (pre := [_, _, _, _]) s15 [3, 0, 1, 2] (n := 4) rfl (by decide)
             clear s15 HJO S19
             go_wp2_with fail
             refine hK.out _ _ ⟨((S20.out.cell 13 rfl).cell 3).trans HC1.out, S20.out.get 2 (o := bufOb d J) rfl⟩ ?_
             clear hK
             try simp only [Act.put, List.setIfInBounds_toArray, List.set]
             refine wpHeld_run (fun K0 hK => ?_)
             have v1 := conv_rb (S20.out.get 1 (o := bufOb d2 J) rfl)
             have HLF := Lib.hid (Left_any S20.out)
             rw [EI.out.cp, HCA.out] at HLF
             rw [show (([] : List ID).length : Int) = 0 from rfl] at HLF
             go_simp
             refine hK.out _ _ ⟨((S20.out.cell 13 rfl).cell 3).trans HC1.out, S20.out.get 2 (o := bufOb d J) rfl⟩ ?_
             clear hK v1
             try simp only [Act.put, List.setIfInBounds_toArray, List.set]
             iterate 5
              (refine wpHeld_take (v := ?_) (Or.inl ⟨by rfl, ?_⟩) ?_
               rotate_left
               · (intro w' hSw; obtain ⟨h1, h2⟩ := hSw; have v1 := conv_rb h2; go_simp; try with_reducible rfl)
               try simp only [Act.put, List.setIfInBounds_toArray, List.set])
             refine wpHeld_run (fun K0 hK => ?_)
             go_simp
             go_at_call 63
             refine HLF.out.mono ?_
             rintro e2 w16 ⟨rfl, s16⟩
             have S21 := Lib.hid s16
             clear s16 HLF S20
             go_wp2_with fail
             refine hK.out _ _ ⟨((S21.out.cell 13 rfl).cell 3).trans HC1.out, S21.out.get 2 (o := bufOb d J) rfl⟩ ?_
             clear hK
             try simp only [Act.put, List.setIfInBounds_toArray, List.set]
             (refine wpHeld_take (v := ?_) (Or.inl ⟨by rfl, ?_⟩) ?_
              rotate_left
              · (intro w' hSw; obtain ⟨h1, h2⟩ := hSw; have v1 := conv_rb h2; go_simp; try with_reducible rfl)
              try simp only [Act.put, List.setIfInBounds_toArray, List.set])
             (refine wpHeld_take (v := ?_) (Or.inl ⟨by rfl, ?_⟩) ?_
              rotate_left
              · (intro w' hSw; obtain ⟨h1, h2⟩ := hSw; have v1 := conv_rb h2; go_simp; try with_reducible rfl)
              try simp only [Act.put, List.setIfInBounds_toArray, List.set])
             refine wpHeld_nil ?_
             simp only [List.length_cons, List.length_nil, List.drop_succ_cons, List.drop_zero]
             go_wp2_with fail
             go_ret
             exact ⟨rfl, S21.out.2⟩
theorem law19 {A : Option Addr} {L : List Int} {n : Nat} (e : L.length = n) (cap : Nat) (w : World) (hr : RdT w w.heap.size A L) (hl : n ≤ 9223372036854775807) : Calls Tryz.prog 19 #[.slice A n cap] w (fun e w' => e = .returned (.bool true) ∧ Below w.heap.size w w') := by
 subst e
 exact law19_any (SW.startIn hr hl) (by simp) cap
end
end Go.Proofs.YteabgcollokgjaaGreatDoor
