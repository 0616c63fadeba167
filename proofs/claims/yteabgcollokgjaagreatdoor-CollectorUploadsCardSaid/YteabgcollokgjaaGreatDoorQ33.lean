/- SH ST NF1 MF LV LW LX LY MO in one text. -/
import Derived.Test.YteabgcollokgjaaGreatDoorQ12
import Derived.Test.YteabgcollokgjaaGreatDoorQ25
import Derived.Test.YteabgcollokgjaaGreatDoorQ15
import Derived.Test.YteabgcollokgjaaGreatDoorQ32
import Derived.Test.YteabgcollokgjaaGreatDoorQ29
import Derived.BigRegion
set_option linter.unusedSimpArgs false
set_option linter.unusedVariables false
namespace Go.Proofs.YteabgcollokgjaaGreatDoor
open Go.RowKit Go.MapKept Go.ChangeMaps Go.Shelf Go.Sort
attribute [local go_sem] wext_cell

/-- Bytes in a buffer. -/
structure BS where
 d : BD
 bs : List UInt8
def bs0 : BS := ⟨⟨none, 0, 0⟩, []⟩
def encB (e : BS) : List Value := [.slice e.d.A e.d.len e.d.cap]
theorem encB_len (e : BS) : (encB e).length = 1 := rfl
/-- A list of byte strings that is read. -/
def blOb (A : Option Addr) (T : List BS) : Ob where
 own := fun _ => False
 rd := fun i => (0 < T.length ∧ A = some ⟨i, 0, none⟩) ∨ ∃ e ∈ T, blk e.d = some i
 holds := fun w => RowV w 34 1 A T.length (T.flatMap encB) ∧ ∀ e ∈ T, RB w e.d e.bs
 stable := fun w w' h hs hk => by
  refine ⟨h.1.same (fun i hn e => hk i (.inr (.inl ⟨hn, e⟩))), fun e he => ?_⟩
  have hc : Ch w w' (fun i => ¬ blk e.d = some i) [] := ⟨hs.1, hs.2.1, hs.2.2.1, hs.2.2.2, fun i _ hn _ => hk i (.inr (.inr ⟨e, he, Classical.not_not.1 hn⟩)), by simp⟩
  exact (h.2 e he).ch hc (fun g hg hn => hn hg) (by simp)
theorem blOb_lt {w : World} {A : Option Addr} {T : List BS} (h : (blOb A T).holds w) {i : Nat} (hi : (blOb A T).rd i) : i < w.heap.size := by
 rcases hi with ⟨hn, e⟩ | ⟨e, he, ea⟩
 · exact h.1.lt hn e
 · exact (h.2 e he).lt ea
theorem blOb_at {w : World} {A : Option Addr} {T : List BS} (h : (blOb A T).holds w) {j : Nat} (hj : j < T.length) {e : BS} (he : T.getD j bs0 = e) : ∃ g, A = some ⟨g, 0, none⟩ ∧ g < w.heap.size ∧ w.cell? ⟨g, j, none⟩ = some (.slice e.d.A e.d.len e.d.cap) ∧ RB w e.d e.bs := by
 obtain ⟨g, e1, hlt, hc⟩ := h.1.at (by omega)
 refine ⟨g, e1, hlt, ?_, h.2 e ?_⟩
 · have := flat_at encB_len bs0 T j 0 hj (by omega)
   rw [he] at this
   rw [hc j (by omega)]
   simpa [encB] using this
 · rw [← he, List.getD_eq_getElem?_getD, List.getElem?_eq_getElem hj]
   exact List.getElem_mem hj
/-- No two different ones have one ID. -/
def DistB (T : List BS) : Prop := ∀ j k, j < T.length → k < j → fpOf (T.getD j bs0).bs = fpOf (T.getD k bs0).bs → (T.getD j bs0).bs = (T.getD k bs0).bs
abbrev DistP (T : List BS) (w : World) (e : Ending) (w' : World) : Prop := ∃ v : Bool, e = .returned (.bool v) ∧ (v = true → DistB T) ∧ Below w.heap.size w w'
set_option maxRecDepth 100000 in
set_option maxHeartbeats 8000000 in
theorem Distinct_any {w : World} {A : Option Addr} {T : List BS} (h : (blOb A T).holds w) (c : Nat) (hl : T.length ≤ 100000) (hb : ∀ e ∈ T, e.bs.length ≤ 1000000) : Calls Tryz.prog 57 #[.slice A T.length c] w (DistP T w) := by
 have S0 := Lib.hid (SW.start (o := blOb A T) h (fun _ h => h) (fun _ h' => blOb_lt h h'))
 have HB := Lib.hid hb
 clear h hb
 go_enter Tryz.func57, Tryz.ntmps57
 go_wp2_with fail
 go_loopw [3, 4] (fun s3 s4 wr => ∃ (j : Nat) (D : Option Addr) (cap : Nat), j ≤ T.length ∧ s4 = .int .i64 (j : Int) ∧ s3 = .slice D ((T.take j).map fun e => fpOf e.bs).length cap ∧ DistB (T.take j) ∧ SW w.heap.size w [rowOb 31 2 (.slice D ((T.take j).map fun e => fpOf e.bs).length cap) ((T.take j).map fun e => fpOf e.bs).length (((T.take j).map fun e => fpOf e.bs).flatMap encID), blOb A T] wr) (fun _ s4 _ => T.length - (intOf s4).toNat)
 case atStart => exact ⟨0, none, 0, Nat.zero_le _, rfl, rfl, (fun j k hj => by simp at hj), S0.out.newRow 31 2⟩
 case round =>
  obtain ⟨j, D, cap, hj, rfl, rfl, hd, hs⟩ := hrel
  have HD := Lib.hid hd
  have S1 := Lib.hid hs
  clear hd hs S0
  by_cases hlt : j < T.length
  · obtain ⟨e, he⟩ : ∃ e, T.getD j bs0 = e := ⟨_, rfl⟩
    obtain ⟨g, hA, hgl, a0, hrb⟩ := blOb_at (S1.out.get 1 (o := blOb A T) rfl) hlt he
    have hel : e.bs.length ≤ 1000000 := by
     refine HB.out e ?_
     rw [← he, List.getD_eq_getElem?_getD, List.getElem?_eq_getElem hlt]
     exact List.getElem_mem hlt
    have hdl : e.d.len = e.bs.length := hrb.1.symm
    rw [hdl] at a0
    have HOF := Lib.hid (rOf_any e.d.A e.d.cap e.bs wr hrb.rs (by omega))
    obtain ⟨i, HI⟩ : ∃ i, Hid (fpOf e.bs = i) := ⟨_, rfl⟩
    rw [HI.out] at HOF
    have hts : T.take (j + 1) = T.take j ++ [e] := by
     rw [List.take_succ_eq_append_getElem hlt, ← he, List.getD_eq_getElem?_getD, List.getElem?_eq_getElem hlt]
     rfl
    have HTS : Hid ((T.take (j + 1)).map (fun e => fpOf e.bs) = (T.take j).map (fun e => fpOf e.bs) ++ [i]) := by rw [Hid, hts, List.map_append, ← HI.out]; rfl
    have hFl : ((T.take j).map fun e => fpOf e.bs).length = j := by rw [List.length_map, List.length_take]; omega
    have HF : Hid (∀ k, k < j → ((T.take j).map fun e => fpOf e.bs).getD k id0 = fpOf (T.getD k bs0).bs) := fun k hk => by
     have hk2 : k < T.length := by omega
     rw [List.getD_eq_getElem?_getD, List.getElem?_map, List.getElem?_take_of_lt hk, List.getD_eq_getElem?_getD, List.getElem?_eq_getElem hk2]
     rfl
    generalize ((T.take j).map fun e => fpOf e.bs) = F at S1 HTS hFl HF ⊢
    have HE := Lib.hid he
    obtain ⟨i1, gi, gz0, gz1, gz2⟩ := info_parts info31
    rw [hA]
    have HFl := Lib.hid hFl
    clear hts he hrb hFl hdl
    go_wp2_with (first | (go_at_call 94; (with_reducible refine HOF.out.mono ?_); refine halt_ ?_) | (at_builtin; refine halt_ ?_))
    rintro e2 w2 ⟨rfl, hb2⟩
    have S2 := Lib.hid (S1.out.on hb2)
    clear hb2 HOF S1
    go_wp2_with (at_builtin; (refine wpList_rowS (t := 38) (e := 31) (size := 2) (bytes := 16) (i := i1) (S2.out.alloc _) 0 rfl (by rfl) (.tmp 12) (.tmp 18) (by rfl) Tryz.underlying38 gi gz0 gz1 gz2 rfl (by omega) (by rfl) ⟨w2.heap.size, 0, none⟩ 1 [.int .u64 i.1, .int .i64 i.2] (by rfl) rfl (two_new w2 _ _ 31 _ rfl) (encID_one i) (by unfold maxLen; have := HFl.out; omega) (by have := HFl.out; omega) ?_); refine halt_ ?_)
    intro v4 w4 s4
    have hFl := HFl.out
    obtain ⟨g4, c4, rfl⟩ := own_some (s4.get 0 rfl) (by omega)
    obtain ⟨G, HG⟩ : ∃ G, Hid (F ++ [i] = G) := ⟨_, rfl⟩
    have hGl : G.length = j + 1 := by rw [← HG.out, List.length_append, hFl]; rfl
    have S4 : Hid (SW w.heap.size w [rowOb 31 2 (.slice (some ⟨g4, 0, none⟩) G.length c4) G.length (G.flatMap encID), blOb (some ⟨g, 0, none⟩) T] w4) := by
     rw [Hid, ← HG.out, List.flatMap_append, List.length_append]
     exact s4
    have HGk : Hid (∀ k, k < j → G.getD k id0 = fpOf (T.getD k bs0).bs) := fun k hk => by
     rw [← HG.out, List.getD_eq_getElem?_getD, List.getElem?_append_left (by omega), ← List.getD_eq_getElem?_getD]
     exact HF.out k hk
    have HGj : Hid (G.getD j id0 = i) := by
     rw [Hid, ← HG.out, List.getD_eq_getElem?_getD, List.getElem?_append_right (by omega), hFl, Nat.sub_self]
     rfl
    rw [HG.out] at HTS
    have e4 : F.length + 1 = G.length := by rw [hGl, hFl]
    rw [e4]
    have HGl := Lib.hid hGl
    clear s4 S2 a0 HF HG e4 hFl hGl
    go_wp2_with fail
    rename World => wq
    go_loopw [5] (fun s5 wr => ∃ k : Nat, k ≤ j ∧ s5 = .int .i64 (k : Int) ∧ (∀ m, m < k → fpOf e.bs = fpOf (T.getD m bs0).bs → e.bs = (T.getD m bs0).bs) ∧ SW w.heap.size w [rowOb 31 2 (.slice (some ⟨g4, 0, none⟩) G.length c4) G.length (G.flatMap encID), blOb (some ⟨g, 0, none⟩) T] wr) (fun s5 _ => j - (intOf s5).toNat)
    case atStart => exact ⟨0, Nat.zero_le _, rfl, (fun m hm => by omega), S4.out⟩
    case round =>
     obtain ⟨k, hk, rfl, hin, hs⟩ := hrel
     have HIN := Lib.hid hin
     have S5 := Lib.hid hs
     clear hin hs S4
     by_cases hkj : k < j
     · obtain ⟨f, hf⟩ : ∃ f, T.getD k bs0 = f := ⟨_, rfl⟩
       obtain ⟨g', hA', hgl', b0, hrbk⟩ := blOb_at (S5.out.get 1 (o := blOb (some ⟨g, 0, none⟩) T) rfl) (by omega) hf
       obtain ⟨g'', hA'', _, b1, hrbj⟩ := blOb_at (S5.out.get 1 (o := blOb (some ⟨g, 0, none⟩) T) rfl) hlt HE.out
       injection hA' with hA'
       injection hA' with hA'
       subst hA'
       injection hA'' with hA''
       injection hA'' with hA''
       subst hA''
       obtain ⟨_, hrow, hrl, _⟩ := own_rowI (S5.out.get 0 (o := rowOb 31 2 (.slice (some ⟨g4, 0, none⟩) G.length c4) G.length (G.flatMap encID)) rfl)
       obtain ⟨p0, p1, _, _⟩ := hrow.cells (j := j) (by have := HGl.out; omega) HGj.out
       obtain ⟨q, hq⟩ : ∃ q, fpOf f.bs = q := ⟨_, rfl⟩
       have hGk := HGk.out k hkj
       rw [hf, hq] at hGk
       obtain ⟨q0, q1, _, _⟩ := hrow.cells (j := k) (by have := HGl.out; omega) hGk
       have heq := fun W => eql31 i q W
       have hjG : j < G.length := by have := HGl.out; omega
       have hkG : k < G.length := by have := HGl.out; omega
       have hkT : k < T.length := by omega
       have v1 := fun q : Ext wr => conv_rb (hrbj.on (wext_below q))
       have v2 := fun q : Ext wr => conv_rb (hrbk.on (wext_below q))
       have HFK := Lib.hid hf
       have HQ := Lib.hid hq
       clear hrow hf hq hGk hA hrbk hrbj
       by_cases e1 : i = q
       · rw [decide_eq_true e1] at heq
         clear e1
         by_cases e2 : e.bs = f.bs
         · rw [← e2] at v2
           have E2 := Lib.hid e2
           clear e2
           go_upto_region 9 with fail
           refine wp_region_ext (by kernel_rfl) (by kernel_rfl) ?_
           repeat (go_big_quiet_step (fail))
           refine wpQuiet_nil ?_
           intro w9 hb9
           go_wp2_with fail
           go_roundw
           case rel =>
            refine ⟨k + 1, by omega, by go_num, fun m hm he => ?_, S5.out.on hb9⟩
            by_cases e3 : m = k
            · subst e3
              rw [HFK.out]
              exact E2.out
            · exact HIN.out m (by omega) he
           case measure => simp [intOf]; omega
         · have hne : (e.bs == f.bs) = false := beq_eq_false_iff_ne.2 e2
           go_upto_region 9 with fail
           refine wp_region_ext (by kernel_rfl) (by kernel_rfl) ?_
           repeat (go_big_quiet_step (fail))
           refine wpQuiet_nil ?_
           intro w9 hb9
           go_wp2_with fail
           go_ret
           exact ⟨false, rfl, (fun h => by cases h), (S5.out.on hb9).2⟩
       · rw [decide_eq_false e1] at heq
         have E1 := Lib.hid e1
         clear e1
         go_upto_region 9 with fail
         refine wp_region_ext (by kernel_rfl) (by kernel_rfl) ?_
         repeat (go_big_quiet_step (fail))
         refine wpQuiet_nil ?_
         intro w9 hb9
         go_wp2_with fail
         go_roundw
         case rel =>
          refine ⟨k + 1, by omega, by go_num, fun m hm he => ?_, S5.out.on hb9⟩
          by_cases e2 : m = k
          · subst e2
            rw [HFK.out, HQ.out, HI.out] at he
            exact absurd he E1.out
          · exact HIN.out m (by omega) he
         case measure => simp [intOf]; omega
     · obtain rfl : k = j := by omega
       go_wp2_with fail
       go_roundw
       case rel =>
        refine ⟨k + 1, some ⟨g4, 0, none⟩, c4, by omega, by go_num, ?_, ?_, ?_⟩
        · rw [HTS.out]
        · have hlt' := hlt
          have ht : ∀ m, m ≤ k → (T.take (k + 1)).getD m bs0 = T.getD m bs0 := fun m hm => by
           rw [List.getD_eq_getElem?_getD, List.getElem?_take_of_lt (by omega), ← List.getD_eq_getElem?_getD]
          intro a m ha hm hf
          rw [List.length_take] at ha
          rw [ht a (by omega), ht m (by omega)] at hf ⊢
          by_cases e1 : a = k
          · subst e1
            rw [HE.out] at hf ⊢
            exact HIN.out m hm hf
          · have ht2 : ∀ m, m < k → (T.take k).getD m bs0 = T.getD m bs0 := fun m hm => by
             rw [List.getD_eq_getElem?_getD, List.getElem?_take_of_lt hm, ← List.getD_eq_getElem?_getD]
            have := HD.out a m (by rw [List.length_take]; omega) hm
            rw [ht2 a (by omega), ht2 m (by omega)] at this
            exact this hf
        · rw [HTS.out]
          exact S5.out
       case measure => simp [intOf]; omega
  · obtain rfl : j = T.length := by omega
    rw [List.take_length] at HD
    go_wp2_with fail
    go_ret
    exact ⟨true, rfl, fun _ => HD.out, S1.out.2⟩
theorem SW.rowBl {b : Nat} {w0 w : World} {A : Option Addr} {c : Nat} {T : List BS} {t : List Ob} (h : SW b w0 (rowOb 34 1 (.slice A T.length c) T.length (T.flatMap encB) :: t) w) (hb : ∀ e ∈ T, RB w e.d e.bs) : RowV w 34 1 A T.length (T.flatMap encB) :=
 (RowV.of_own (h.get 0 (o := rowOb 34 1 (.slice A T.length c) T.length (T.flatMap encB)) rfl)).1
theorem info34 : (Tryz.prog.info? 34).map (fun i => (i.zero, i.size, i.bytes)) = some (some (.slice none 0 0), 1, 24) := by kernel_rfl
/-- Buffers of their own. -/
def bufsOb (T : List BS) : Ob where
 own := fun _ => False
 rd := fun i => ∃ e ∈ T, blk e.d = some i
 holds := fun w => ∀ e ∈ T, RB w e.d e.bs
 stable := fun w w' h hs hk e he => by
  have hc : Ch w w' (fun i => ¬ blk e.d = some i) [] := ⟨hs.1, hs.2.1, hs.2.2.1, hs.2.2.2, fun i _ hn _ => hk i (.inr ⟨e, he, Classical.not_not.1 hn⟩), by simp⟩
  exact (h e he).ch hc (fun g hg hn => hn hg) (by simp)
end Go.Proofs.YteabgcollokgjaaGreatDoor
namespace Go.Proofs.YteabgcollokgjaaGreatDoor
open Go.RowKit Go.MapKept Go.ChangeMaps Go.Shelf Go.Sort

section
variable {b : Nat} {w0 w w' : World} {l : List Ob}
theorem SW.fuseB {d : BD} {bs : List UInt8} {T : List BS} (h : SW b w0 (bufOb d bs :: bufsOb T :: l) w) : SW b w0 (bufsOb (T ++ [(⟨d, bs⟩ : BS)]) :: l) w :=
 SW.fuse (pre := [bufOb d bs, bufsOb T]) h (fun e he => by
  rcases List.mem_append.1 he with he | he
  · exact (h.get 1 (o := bufsOb T) rfl) e he
  · rw [List.mem_singleton.1 he]
    exact h.get 0 (o := bufOb d bs) rfl) (fun _ h => h) (fun i hi => by
  obtain ⟨e, he, hb⟩ := hi
  rcases List.mem_append.1 he with he | he
  · exact ⟨bufsOb T, by simp, .inr ⟨e, he, hb⟩⟩
  · rw [List.mem_singleton.1 he] at hb
    exact ⟨bufOb d bs, by simp, .inl hb⟩)
theorem SW.noBufs (h : SW b w0 l w) : SW b w0 (bufsOb [] :: l) w := SW.fuse (pre := []) h (fun e he => by cases he) (fun _ h => h) (fun i hi => by
 obtain ⟨e, he, _⟩ := hi
 cases he)
theorem SW.fuseL {A : Option Addr} {c : Nat} {T : List BS} (h : SW b w0 (rowOb 34 1 (.slice A T.length c) T.length (T.flatMap encB) :: bufsOb T :: l) w) : SW b w0 (blOb A T :: l) w := by
 have hb : ∀ e ∈ T, RB w e.d e.bs := h.get 1 (o := bufsOb T) rfl
 refine SW.fuse (pre := [rowOb 34 1 (.slice A T.length c) T.length (T.flatMap encB), bufsOb T]) h ⟨h.rowBl hb, hb⟩ (fun _ h => h) (fun i hi => ?_)
 rcases hi with ⟨hp, e⟩ | ⟨e, he, hb⟩
 · refine ⟨_, List.mem_cons_self .., .inl ?_⟩
   show (Value.slice A T.length c).ownBlock = some i
   rw [e]
   rfl
 · exact ⟨bufsOb T, by simp, .inr ⟨e, he, hb⟩⟩
set_option maxRecDepth 100000 in
set_option maxHeartbeats 8000000 in
theorem Short_any (w : World) : Calls Tryz.prog 32 #[] w (fun e w' => ∃ v : Bool, e = .returned (.bool v) ∧ Below w.heap.size w w') := by
 go_enter Tryz.func32, Tryz.ntmps32
 go_wp2_with fail
 go_loopw [1, 2] (fun s1 s2 wr => ∃ (n : Nat) (T : List BS) (A : Option Addr) (cap : Nat), 1 ≤ n ∧ n ≤ 5 ∧ s2 = .int .i64 (n : Int) ∧ s1 = .slice A T.length cap ∧ T.length ≤ 16 * (n - 1) ∧ (∀ e ∈ T, e.bs.length ≤ 4) ∧ SW w.heap.size w (rowOb 34 1 (.slice A T.length cap) T.length (T.flatMap encB) :: bufsOb T :: []) wr) (fun _ s2 _ => 5 - (intOf s2).toNat)
 case atStart => exact ⟨1, [], none, 0, by omega, by omega, rfl, rfl, Nat.zero_le _, (fun e he => by cases he), (SW.noBufs (SW.refl (Sep.nil w (Nat.le_refl _)))).newRow 34 1⟩
 case round =>
  obtain ⟨n, T, A, cap, hn1, hn2, rfl, rfl, hT, hb4, hs⟩ := hrel
  have S1 := Lib.hid hs
  have HB := Lib.hid hb4
  clear hs hb4
  by_cases hlt : n ≤ 4
  · obtain ⟨M, hM, hM16⟩ : ∃ M : Nat, wrap64 (2 ^ n) = (M : Int) ∧ M ≤ 16 := by
     have : n = 1 ∨ n = 2 ∨ n = 3 ∨ n = 4 := by omega
     rcases this with rfl | rfl | rfl | rfl
     · exact ⟨2, by decide +kernel, by omega⟩
     · exact ⟨4, by decide +kernel, by omega⟩
     · exact ⟨8, by decide +kernel, by omega⟩
     · exact ⟨16, by decide +kernel, by omega⟩
    have hn0 : (0 : Int) ≤ (n : Int) := by omega
    have hd4 : decide ((n : Int) ≤ 4) = true := decide_eq_true (by omega)
    go_wp2_with fail
    rename World => wa
    go_loopw [1, 3] (fun s1 s3 wr => ∃ (v : Nat) (T : List BS) (A : Option Addr) (cap : Nat), v ≤ M ∧ s3 = .int .i64 (v : Int) ∧ s1 = .slice A T.length cap ∧ T.length ≤ 16 * (n - 1) + v ∧ (∀ e ∈ T, e.bs.length ≤ 4) ∧ SW w.heap.size w (rowOb 34 1 (.slice A T.length cap) T.length (T.flatMap encB) :: bufsOb T :: []) wr) (fun _ s3 _ => M - (intOf s3).toNat)
    case atStart => exact ⟨0, T, A, cap, Nat.zero_le _, rfl, rfl, hT, HB.out, S1.out⟩
    case round =>
     obtain ⟨v, T, A, cap, hv, rfl, rfl, hT, hb4, hs⟩ := hrel
     have S1 := Lib.hid hs
     have HB := Lib.hid hb4
     clear hs hb4
     by_cases hlt2 : v < M
     · have hl2 : ¬ (wrap64 (2 ^ n) ≤ (v : Int)) := by omega
       go_wp2_with fail
       rename World => wb
       go_loopw [4, 5] (fun s4 s5 wr => ∃ (i : Nat) (d : BD) (bs : List UInt8), i ≤ n ∧ s5 = .int .i64 (i : Int) ∧ s4 = .slice d.A d.len d.cap ∧ bs.length = i ∧ SW w.heap.size w (bufOb d bs :: rowOb 34 1 (.slice A T.length cap) T.length (T.flatMap encB) :: bufsOb T :: []) wr) (fun _ s5 _ => n - (intOf s5).toNat)
       case atStart => exact ⟨0, ⟨none, 0, 0⟩, [], Nat.zero_le _, rfl, rfl, rfl, S1.out.newBuf⟩
       case round =>
        obtain ⟨i, d, bs, hi, rfl, rfl, hbl, hs⟩ := hrel
        have S2 := Lib.hid hs
        have HBL := Lib.hid hbl
        clear hs S1 hbl
        by_cases hlt3 : i < n
        · have hi0 : (0 : Int) ≤ (i : Int) := by omega
          go_wp2_with (at_builtin; refine halt_ ?_)
          obtain ⟨yb, hyb⟩ : ∃ yb : UInt8, ((yb.toNat : Nat) : Int) = bits BinOp.and IntKind.i64 ((v : Int) / 2 ^ i) 1 % 256 := ⟨UInt8.ofNat (bits BinOp.and IntKind.i64 ((v : Int) / 2 ^ i) 1 % 256).toNat, by rw [UInt8.toNat_ofNat']; omega⟩
          rw [← hyb]
          clear hyb
          have hrb : RB wr d bs := S2.out.get 0 (o := bufOb d bs) rfl
          have SB1 : Hid (SB (wr.alloc (.cells #[.int .u8 ((yb.toNat : Nat) : Int)] 5)) (some ⟨wr.heap.size, 0, none⟩) [yb]) := sb_const wr _ rfl [yb] (0, 0)
          refine wpList_append_bytes rfl _ _ rfl d bs rfl (hrb.on (bel1 _ _)) (some ⟨wr.heap.size, 0, none⟩) 1 [yb] rfl SB1.out (by rw [HBL.out]; simp only [List.length_cons, List.length_nil]; omega) ?_
          intro d2 w2 hl2 happ
          have S3 : Hid (SW w.heap.size w [bufOb d2 (bs ++ [yb]), rowOb 34 1 (.slice A T.length cap) T.length (T.flatMap encB), bufsOb T] w2) := (S2.out.alloc (.cells #[.int .u8 ((yb.toNat : Nat) : Int)] 5)).appB 0 rfl happ
          have HBL2 : Hid ((bs ++ [yb]).length = i + 1) := by rw [Hid, List.length_append, HBL.out]; rfl
          generalize bs ++ [yb] = bs2 at S3 HBL2
          clear happ hl2 hrb SB1 S2
          go_wp2_with fail
          go_roundw
          case rel => exact ⟨i + 1, d2, bs2, by omega, by go_num, rfl, HBL2.out, S3.out⟩
          case measure => simp [intOf]; omega
        · obtain rfl : i = n := by omega
          obtain ⟨i1, gi, gz0, gz1, gz2⟩ := info_parts info34
          go_wp2_with (at_builtin; (refine wpList_rowS (t := 86) (e := 34) (size := 1) (bytes := 24) (i := i1) (S2.out.alloc _) 1 rfl (by rfl) (.tmp 29) (.tmp 31) (by rfl) Tryz.underlying86 gi gz0 gz1 gz2 rfl (by omega) (by rfl) ⟨wr.heap.size, 0, none⟩ 1 [.slice d.A d.len d.cap] (by rfl) rfl (fun j u hu => by rw [lit_add, Nat.zero_add, new_cell wr 34 #[.slice d.A d.len d.cap] _ rfl j]; simpa using hu) (by intro u hu; rw [List.mem_singleton.1 hu]; rfl) (by unfold maxLen; omega) (by omega) ?_); refine halt_ ?_)
          intro v4 w4 s4
          obtain ⟨g4, c4, rfl⟩ := own_some (s4.get 1 rfl) (by omega)
          have s5 : SW w.heap.size w (bufOb d bs :: rowOb 34 1 (.slice (some ⟨g4, 0, none⟩) (T ++ [(⟨d, bs⟩ : BS)]).length c4) (T ++ [(⟨d, bs⟩ : BS)]).length ((T ++ [(⟨d, bs⟩ : BS)]).flatMap encB) :: bufsOb T :: []) w4 := by
           rw [List.flatMap_append, List.length_append]
           exact s4
          have S5 := Lib.hid (SW.front (pre := [_, _]) ((SW.front (pre := [_, _, _]) s5 [0, 2, 1] (n := 3) rfl (by decide)).fuseB) [1, 0] (n := 2) rfl (by decide))
          have HB5 : Hid (∀ e ∈ T ++ [(⟨d, bs⟩ : BS)], e.bs.length ≤ 4) := fun e he => by
           rcases List.mem_append.1 he with he | he
           · exact HB.out e he
           · rw [List.mem_singleton.1 he]
             show bs.length ≤ 4
             rw [HBL.out]
             omega
          have hTl : (T ++ [(⟨d, bs⟩ : BS)]).length = T.length + 1 := by rw [List.length_append]; rfl
          have e4 : T.length + 1 = (T ++ [(⟨d, bs⟩ : BS)]).length := hTl.symm
          rw [e4]
          generalize T ++ [(⟨d, bs⟩ : BS)] = T2 at S5 HB5 hTl
          clear s4 s5 S2 e4
          go_wp2_with fail
          go_roundw
          case rel => exact ⟨v + 1, T2, some ⟨g4, 0, none⟩, c4, by omega, by go_num, rfl, by omega, HB5.out, S5.out⟩
          case measure => simp [intOf]; omega
     · have hl2 : wrap64 (2 ^ n) ≤ (v : Int) := by omega
       obtain rfl : v = M := by omega
       go_wp2_with fail
       go_roundw
       case rel => exact ⟨n + 1, T, A, cap, by omega, by omega, by go_num, rfl, by omega, HB.out, S1.out⟩
       case measure => simp [intOf]; omega
  · have hd4 : decide ((n : Int) ≤ 4) = false := decide_eq_false (by omega)
    have HL := Lib.hid S1.out.fuseL
    have HD := Lib.hid (Distinct_any (HL.out.get 0 (o := blOb A T) rfl) cap (by omega) (fun e he => by have := HB.out e he; omega))
    go_wp2_with (go_at_call 57; (with_reducible refine HD.out.mono ?_); refine halt_ ?_)
    rintro e w2 ⟨v, rfl, _, hb⟩
    have B2 := Lib.hid (HL.out.on hb).2
    clear hb HD HL S1
    go_wp2_with fail
    go_ret
    exact ⟨v, rfl, B2.out⟩
end
end Go.Proofs.YteabgcollokgjaaGreatDoor
namespace Go.Proofs.YteabgcollokgjaaGreatDoor
open Go.RowKit Go.MapKept Go.ChangeMaps Go.Shelf Go.Sort

/-- Session 7 alone has begun. -/
abbrev seU (m : Nat) (H : HL) : List Ses := ⟨7, true, some m, H⟩ :: List.replicate 15 ses0
abbrev seE : List Ses := ⟨7, false, none, []⟩ :: List.replicate 15 ses0
section
variable {c : CR} {m : Nat} {H : HL}
theorem any_rep (i : ID) (n : Nat) : ((List.replicate n ses0).any fun s => (asc s.H i).isSome) = false := by
 rw [List.any_eq_false]
 intro s hs
 rw [List.eq_of_mem_replicate hs]
 simp [asc]
theorem heldU (h : c.se = seU m H) (i : ID) : heldC c i = (asc H i).isSome := by
 show (c.se.any fun s => (asc s.H i).isSome) = _
 rw [h, List.any_cons, any_rep, Bool.or_false]
theorem heldE (h : c.se = seE) (i : ID) : heldC c i = false := by
 show (c.se.any fun s => (asc s.H i).isSome) = _
 rw [h, List.any_cons, any_rep]
 rfl
theorem fiU (h : c.se = seU m H) : fiO (pNum 7) c.se = some 0 := by rw [h]; rfl
theorem begunU (h : c.se = List.replicate 16 ses0) (m : Nat) : (c.begun 0 7 m).se = seU m [] := by
 simp only [CR.begun, CR.bg, CR.put, CR.ss, h]
 rfl
theorem freeU (h : c.se = List.replicate 16 ses0) : fiO pFree c.se = some 0 ∧ fiO (pNum 7) c.se = none := by rw [h]; exact ⟨rfl, rfl⟩
theorem holdU (h : c.se = seU m H) (i : ID) : (c.hold 0 i).se = seU m (setL H i ()) := by
 simp only [CR.hold, CR.put, CR.ss, h]
 rfl
theorem endedU (h : c.se = seU m H) : (c.ended 0).se = seE := by
 simp only [CR.ended, CR.put, CR.ss, h]
 rfl
end
/-- An upload under way: what is done is there and held. -/
structure UpI (kp sp : Nat) (D : List ID) (n : Nat) (c : CR) (x : SR) : Prop where
 cp : c.cp = kp
 ps : c.ps = x.ps
 xp : x.ps = sp
 se : ∃ m H, c.se = seU m H ∧ ∀ i ∈ D, (asc H i).isSome = true
 ids : ∀ i ∈ c.cand, okID i
 len : c.cand.length ≤ 11
 nd : c.cand.Nodup
 cl : Cl [fileN nmS] x
 tx : ∃ P, TX x P
 sure : ∀ i ∈ D, (asc x.C i).isSome = true
 pn : (pends x.C).length ≤ n
 fl : flen x.F ≤ 352
/-- The upload is over: what is done is there and no candidate. -/
structure EnI (kp sp : Nat) (D : List ID) (k : Nat) (c : CR) (x : SR) : Prop where
 cp : c.cp = kp
 ps : c.ps = x.ps
 xp : x.ps = sp
 nh : ∀ i, heldC c i = false
 ids : ∀ i ∈ c.cand, okID i
 len : c.cand.length ≤ k
 nd : c.cand.Nodup
 cl : Cl [fileN nmS] x
 tx : ∃ P, TX x P
 sure : ∀ i ∈ D, (asc x.C i).isSome = true ∧ i ∉ c.cand
section
variable {kp sp n k : Nat} {D : List ID} {c : CR} {x : SR} {b : Nat} {w0 w : World} {l : List Ob}
theorem UpI.start {L : List Int} {p : PR} (h : BgOk L p) (m : Nat) : UpI p.co.cp p.x.ps [] 0 (p.co.begun 0 7 m) p.x :=
 ⟨rfl, h.ps, rfl, ⟨m, [], begunU h.se m, fun i hi => by cases hi⟩, bg_ids h, bg_clen h, bg_nodup h, h.cl, ⟨_, h.tx⟩, fun i hi => (by cases hi), by rw [pends_none h.done]; exact Nat.le_refl _, h.len⟩
theorem Touch_V (h : SW b w0 (coOb c :: x.obs l) w) (hs : UpI kp sp D n c x) (i : ID) (hi : okID i) : Calls Tryz.prog 73 #[vPtr kp, .int .i64 7, .agg #[.int .u64 i.1, .int .i64 i.2]] w (fun e w' => ∃ c', e = .returned (.tuple #[.bool (asc x.C i).isSome, .int .i64 0]) ∧ SW b w0 (coOb c' :: x.obs l) w' ∧ UpI kp sp (D ++ if (asc x.C i).isSome then [i] else []) n c' x) := by
 obtain ⟨m, H, hse, hH⟩ := hs.se
 have ho := fiU hse
 rw [← hs.cp]
 cases hv : (asc x.C i).isSome with
 | false =>
  refine (Touch_lost h 7 0 ho i (HasC_of hs.ps i hi hv)).mono ?_
  rintro e w' ⟨rfl, s⟩
  rw [hs.cp]
  refine ⟨c, rfl, s, ?_⟩
  simpa using hs
 | true =>
  have hm : (c.ss 0).hm = some m := by
   show (c.se.getD 0 ses0).hm = some m
   rw [hse]
   rfl
  refine (Touch_held h 7 0 ho m hm i hi (HasC_of hs.ps i hi hv)).mono ?_
  rintro e w' ⟨rfl, s⟩
  have hse2 := holdU hse i
  refine ⟨c.hold 0 i, rfl, s, ⟨rfl, hs.ps, hs.xp, ⟨m, _, hse2, fun j hj => ?_⟩, hs.ids, hs.len, hs.nd, hs.cl, hs.tx, fun j hj => ?_, hs.pn, hs.fl⟩⟩
  · rw [asc_setL]
    split
    · rfl
    · rename_i hne
      rcases List.mem_append.1 hj with hj | hj
      · exact hH j hj
      · have : j = i := by simpa using hj
        exact absurd this.symm hne
  · rcases List.mem_append.1 hj with hj | hj
    · exact hs.sure j hj
    · have : j = i := by simpa using hj
      rw [this, hv]
theorem CPut_V (h : SW b w0 (coOb c :: x.obs l) w) (hs : UpI kp sp D n c x) (A : Option Addr) (cap : Nat) (bs : List UInt8) (o : Ob) (hol : o ∈ l) (hrs : ∀ w', o.holds w' → RS w' A bs) (ht : IsText bs) (hno : asc x.C (fpOf bs) = none) : Calls Tryz.prog 72 #[vPtr kp, .int .i64 7, .slice A bs.length cap] w (fun e w' => ∃ c' x', e = .returned (.tuple #[.agg #[.int .u64 (fpOf bs).1, .int .i64 (fpOf bs).2], .int .i64 0]) ∧ SW b w0 (coOb c' :: x'.obs l) w' ∧ UpI kp sp (D ++ [fpOf bs]) (n + 1) c' x') := by
 obtain ⟨m, H, hse, hH⟩ := hs.se
 obtain ⟨P, hT⟩ := hs.tx
 have h1 := ht.lo
 have h2 := ht.hi
 have hf := hT.few hs.cl.keys
 have ho := fiU hse
 rw [← hs.cp]
 have hm : (c.ss 0).hm = some m := by
  show (c.se.getD 0 ses0).hm = some m
  rw [hse]
  rfl
 have HP : PutC b w0 c (x.obs l) (fun l' => ∃ d, l' = (putS x (fpOf bs) d bs).obs l ∧ Cl [fileN nmS] (putS x (fpOf bs) d bs)) (.slice A bs.length cap) (fpOf bs) 0 := fun o' w' s => by
  have s2 : SW b w0 (x.obs (o' :: coOb c :: l)) w' := SW.front (pre := [_, _, _, _, _, _]) (t := l) s [2, 3, 4, 5, 0, 1] (n := 6) rfl (by decide)
  rw [hs.ps]
  refine (PutN_L s2 hs.cl A cap bs (hrs w' (s2.1.holds o (by simp [hol]))) (by omega) (by omega) hno (by omega)).mono ?_
  rintro e w'' ⟨rfl, d, s3, h1⟩
  exact ⟨rfl, _, ⟨d, rfl, h1⟩, SW.front (pre := [_, _, _, _, _, _]) (t := l) s3 [4, 5, 0, 1, 2, 3] (n := 6) rfl (by decide)⟩
 refine (CPut_ok h 7 0 ho m hm _ (fpOf bs) (okID_fp bs (by omega)) HP).mono ?_
 rintro e w' ⟨rfl, l', ⟨d, rfl, hcl⟩, s⟩
 have hse2 := holdU hse (fpOf bs)
 have hT2 := hT.put ht hno d
 refine ⟨c.hold 0 (fpOf bs), putS x (fpOf bs) d bs, rfl, s, ⟨rfl, hs.ps, hs.xp, ⟨m, _, hse2, fun j hj => ?_⟩, hs.ids, hs.len, hs.nd, hcl, ⟨_, hT2⟩, fun j hj => ?_, ?_, hs.fl⟩⟩
 · rw [asc_setL]
   split
   · rfl
   · rename_i hne
     rcases List.mem_append.1 hj with hj | hj
     · exact hH j hj
     · exact absurd (List.mem_singleton.1 hj).symm hne
 · show (asc (setL x.C (fpOf bs) (Pl.pend d bs)) j).isSome = true
   rw [asc_setL]
   split
   · rfl
   · rename_i hne
     rcases List.mem_append.1 hj with hj | hj
     · exact hs.sure j hj
     · exact absurd (List.mem_singleton.1 hj).symm hne
 · have e1 := hcl.waits
   have e2 := hs.cl.waits
   have e3 : (putS x (fpOf bs) d bs).wait = x.wait + 1 := rfl
   have := hs.pn
   omega
theorem Step_V (h : SW b w0 (coOb c :: x.obs l) w) (hs : UpI kp sp D n c x) (q : Int) : Calls Tryz.prog 62 #[vPtr kp, .int .i64 q] w (fun e w' => ∃ A cap r c' x', e = .returned (.tuple #[.slice A r cap, .int .i64 0]) ∧ SW b w0 (coOb c' :: x'.obs l) w' ∧ UpI kp sp D n c' x') := by
 obtain ⟨m, H, hse, hH⟩ := hs.se
 obtain ⟨P, hT⟩ := hs.tx
 rw [← hs.cp]
 refine (Step_any h hs.ps hs.cl q hs.ids (by have := hs.len; omega)).mono ?_
 rintro e w' ⟨A, cap, x', rfl, s, hc, hg⟩
 have hsub : ∀ i, i ∈ lessL (setI (stepL c q)) c.cand → i ∈ c.cand := fun i hi => ((lessL_mem _ c.cand i).1 hi).1
 refine ⟨A, cap, _, _, x', rfl, s.tail, ⟨rfl, hs.ps.trans hg.ps.symm, hg.ps.trans hs.xp, ⟨m, H, hse, hH⟩, fun i hi => hs.ids i (hsub i hi), Nat.le_trans (lessL_le _ _) hs.len, lessL_nodup hs.nd, hc, ⟨_, hT.gone hg⟩, fun i hi => ?_, ?_, Nat.le_trans hg.len hs.fl⟩⟩
 · rw [hg.has, hs.sure i hi]
   have hn : i ∉ stepL c q := fun hm => by
    have hm : i ∈ (c.cand.filter fun i => !heldC c i).take q.toNat := hm
    have h3 := List.mem_filter.1 (List.take_subset _ _ hm)
    rw [heldU hse, hH i hi] at h3
    simp at h3
   simp [hn]
 · have e1 := hc.waits
   have e2 := hs.cl.waits
   have e3 := hg.wt
   have := hs.pn
   omega
/-- Keep and End. -/
theorem KeepEnd_V (hs : UpI kp sp D n c x) : EnI kp sp D 11 ((({ c with cand := lessL (setI D) c.cand } : CR)).ended 0) x := by
 obtain ⟨m, H, hse, hH⟩ := hs.se
 refine ⟨hs.cp, hs.ps, hs.xp, heldE (endedU (c := { c with cand := lessL (setI D) c.cand }) hse), fun i hi => hs.ids i ((lessL_mem _ c.cand i).1 hi).1, Nat.le_trans (lessL_le _ _) hs.len, lessL_nodup hs.nd, hs.cl, hs.tx, fun i hi => ⟨hs.sure i hi, fun hm => ((lessL_mem _ c.cand i).1 hm).2 hi⟩⟩
theorem EnI.flush {x' : SR} (hs : EnI kp sp D k c x) (hc : Cl [fileN nmS] x') (hf : Flushed x x') : EnI kp sp D k c x' := by
 obtain ⟨P, hT⟩ := hs.tx
 exact ⟨hs.cp, hs.ps.trans hf.ps.symm, hf.ps.trans hs.xp, hs.nh, hs.ids, hs.len, hs.nd, hc, ⟨P, ⟨fun i => (hf.has i).trans (hT.has i), fun bs hb => (hf.val _).trans (hT.val bs hb), hT.text⟩⟩, fun i hi => ⟨(hf.has i).trans (hs.sure i hi).1, (hs.sure i hi).2⟩⟩
theorem Step_E (h : SW b w0 (coOb c :: x.obs l) w) (hs : EnI kp sp D k c x) (hk : k ≤ 11) : Calls Tryz.prog 62 #[vPtr kp, .int .i64 1] w (fun e w' => ∃ A cap r c' x', e = .returned (.tuple #[.slice A r cap, .int .i64 0]) ∧ SW b w0 (coOb c' :: x'.obs l) w' ∧ EnI kp sp D (k - 1) c' x') := by
 obtain ⟨P, hT⟩ := hs.tx
 rw [← hs.cp]
 have hl := hs.len
 refine (Step_of h hs.ps hs.cl 1 hs.ids (by omega) (c.cand.take 1) (stepL_free hs.nh 1)).mono ?_
 rintro e w' ⟨A, cap, x', rfl, s, hc, hg⟩
 rw [lessL_take hs.nd] at s
 refine ⟨A, cap, _, _, x', rfl, s.tail, ⟨rfl, hs.ps.trans hg.ps.symm, hg.ps.trans hs.xp, hs.nh, fun i hi => hs.ids i (List.mem_of_mem_drop hi), by rw [List.length_drop]; omega, hs.nd.sublist (List.drop_sublist _ _), hc, ⟨_, hT.gone hg⟩, fun i hi => ⟨?_, fun hm => (hs.sure i hi).2 (List.mem_of_mem_drop hm)⟩⟩⟩
 rw [hg.has, (hs.sure i hi).1]
 have hn : i ∉ c.cand.take 1 := fun hm => (hs.sure i hi).2 (List.mem_of_mem_take hm)
 simp [hn]
/-- What is done can be read. -/
theorem EnI.val (hs : EnI kp sp D k c x) {i : ID} (hi : i ∈ D) : ∃ bs, valC x i = some bs ∧ fpOf bs = i ∧ IsText bs := by
 obtain ⟨P, hT⟩ := hs.tx
 have h1 := (hs.sure i hi).1
 rw [hT.has, decide_eq_true_eq] at h1
 obtain ⟨bs, hb, rfl⟩ := List.mem_map.1 h1
 exact ⟨bs, hT.val bs hb, rfl, hT.text bs hb⟩
end
end Go.Proofs.YteabgcollokgjaaGreatDoor
namespace Go.Proofs.YteabgcollokgjaaGreatDoor
open Go.RowKit Go.MapKept Go.ChangeMaps
attribute [local go_sem] wext_cell
end Go.Proofs.YteabgcollokgjaaGreatDoor
namespace Go.Proofs.YteabgcollokgjaaGreatDoor
open Go.RowKit Go.MapKept Go.ChangeMaps Go.Shelf Go.Sort

section
variable {α : Type} [Inhabited α] {enc : α → List Value} {k : Nat} {d : α}
end
end Go.Proofs.YteabgcollokgjaaGreatDoor
namespace Go.Proofs.YteabgcollokgjaaGreatDoor
open Go.RowKit Go.MapKept Go.ChangeMaps Go.Shelf Go.Sort

end Go.Proofs.YteabgcollokgjaaGreatDoor
namespace Go.Proofs.YteabgcollokgjaaGreatDoor
open Go.RowKit Go.MapKept Go.ChangeMaps Go.Shelf Go.Sort

section
variable {b : Nat} {w0 w w' : World} {l : List Ob}
end
end Go.Proofs.YteabgcollokgjaaGreatDoor
namespace Go.Proofs.YteabgcollokgjaaGreatDoor
open Go.RowKit Go.MapKept Go.ChangeMaps Go.Shelf Go.Sort

section
variable {b : Nat} {w0 w w' : World} {l : List Ob}
theorem own_slL {e : TypeId} {size n : Nat} {v : Value} {xs : List Value} (h : w.ownsRow 0 e size v n xs) : ∃ A c, v = .slice A n c := by
 rcases h.2 with ⟨hv, h2⟩ | ⟨g, cap, cur, hv, _⟩
 · exact ⟨none, 0, by rw [hv, h2]⟩
 · exact ⟨some ⟨g, 0, none⟩, cap, hv⟩
end
end Go.Proofs.YteabgcollokgjaaGreatDoor
namespace Go.Proofs.YteabgcollokgjaaGreatDoor
open Go.RowKit Go.MapKept Go.ChangeMaps Go.Shelf Go.Sort

def lenS (T : List BS) : Nat := (T.map (·.bs.length)).sum
def idS (T : List BS) : List ID := T.map fun e => fpOf e.bs
theorem lenS_snoc (T : List BS) (e : BS) : lenS (T ++ [e]) = lenS T + e.bs.length := by simp [lenS]
theorem idS_snoc (T : List BS) (e : BS) : idS (T ++ [e]) = idS T ++ [fpOf e.bs] := by simp [idS]
theorem lenS_le {T : List BS} {B : Nat} (h : ∀ e ∈ T, e.bs.length ≤ B) : lenS T ≤ B * T.length := by
 induction T with
 | nil => simp [lenS]
 | cons e T ih =>
  have h1 := h e (by simp)
  have h2 := ih (fun e he => h e (by simp [he]))
  have : lenS (e :: T) = e.bs.length + lenS T := by simp [lenS]
  rw [this, List.length_cons, Nat.mul_succ]
  omega
theorem blOb_rb {w : World} {A : Option Addr} {T : List BS} (h : (blOb A T).holds w) {j : Nat} (hj : j < T.length) {e : BS} (he : T.getD j bs0 = e) : RB w e.d e.bs := by
 obtain ⟨_, _, _, _, h5⟩ := blOb_at h hj he
 exact h5
section
variable {b : Nat} {w0 w w' : World} {l : List Ob}
set_option maxRecDepth 100000 in
set_option maxHeartbeats 8000000 in
theorem rOfM_any (h : SW b w0 l w) {A : Option Addr} {T : List BS} (hA : blOb A T ∈ l) (c : Nat) (hn : T.length ≤ 100000) (hb : ∀ e ∈ T, e.bs.length ≤ 1000000) :
 Calls Tryz.prog 77 #[.slice A T.length c] w (fun e w' => ∃ v, e = .returned (.agg #[.int .i64 ((lenS T : Nat) : Int), v]) ∧ SW b w0 (rowOb 31 2 v T.length ((idS T).flatMap encID) :: l) w') := by
 have HA := Lib.hid hA
 have HB := Lib.hid hb
 have S0 := Lib.hid ((h.newCell 89 #[.int .i64 0, .slice none 0 0]).newCellAt 89 #[.int .i64 0, .slice none 0 0] (H := w.heap.size + 1) (by simp))
 clear h hA hb
 obtain ⟨i1, gi, gz0, gz1, gz2⟩ := info_parts info31
 obtain ⟨g2, HG2⟩ : ∃ g2, Hid (w.heap.size = g2) := ⟨_, rfl⟩
 obtain ⟨g3, HG3⟩ : ∃ g3, Hid (w.heap.size + 1 = g3) := ⟨_, rfl⟩
 obtain ⟨W1, HW1⟩ : ∃ W1, Hid ((w.alloc (.cells #[.int .i64 0, .slice none 0 0] 89)).alloc (.cells #[.int .i64 0, .slice none 0 0] 89) = W1) := ⟨_, rfl⟩
 have HN23 : Hid (g2 ≠ g3) := by rw [← HG2.out, ← HG3.out, Hid]; omega
 rw [HG3.out, HG2.out, HW1.out] at S0
 go_enter Tryz.func77, Tryz.ntmps77
 go_upto_region 2 with fail
 rw [HW1.out, HG3.out, HG2.out]
 clear HW1 HG2 HG3
 go_wp2_with fail
 go_loopw [4] (fun s4 wr => ∃ (k : Nat) (v : Value), k ≤ T.length ∧ s4 = .int .i64 (k : Int) ∧ SW b w0 (cellOb g3 89 #[.int .i64 ((lenS (T.take k) : Nat) : Int), v] :: rowOb 31 2 v k ((idS (T.take k)).flatMap encID) :: cellOb g2 89 #[.int .i64 0, .slice none 0 0] :: l) wr) (fun s4 _ => T.length - (intOf s4).toNat)
 case atStart => exact ⟨0, .slice none 0 0, Nat.zero_le _, rfl, SW.front (pre := [_, _, _]) (S0.out.newRow 31 2) [1, 0, 2] (n := 3) rfl (by decide)⟩
 case round =>
  obtain ⟨k, v, hk, rfl, hs⟩ := hrel
  have S1 := Lib.hid hs
  clear hs S0
  by_cases hlt : k < T.length
  · obtain ⟨e, HE⟩ : ∃ e, Hid (T.getD k bs0 = e) := ⟨_, rfl⟩
    have hmem : e ∈ T := by rw [← HE.out]; exact getD_mem _ _ _ hlt
    have hbl := HB.out e hmem
    have hll : lenS (T.take k) ≤ 1000000 * k := by
     have := lenS_le (T := T.take k) (B := 1000000) (fun e he => HB.out e (List.mem_of_mem_take he))
     rw [List.length_take] at this
     exact Nat.le_trans this (Nat.mul_le_mul_left _ (Nat.min_le_left _ _))
    obtain ⟨gA, hAe, _, a0, hrb⟩ := blOb_at (S1.out.1.holds (blOb A T) (by simp [HA.out])) hlt HE.out
    have HTS1 : Hid (lenS (T.take (k + 1)) = lenS (T.take k) + e.bs.length) := by rw [Hid, take_snoc _ bs0 _ hlt, lenS_snoc, HE.out]
    have HTS2 : Hid (idS (T.take (k + 1)) = idS (T.take k) ++ [fpOf e.bs]) := by rw [Hid, take_snoc _ bs0 _ hlt, idS_snoc, HE.out]
    obtain ⟨N, HN⟩ : ∃ N, Hid (lenS (T.take k) = N) := ⟨_, rfl⟩
    rw [HN.out] at S1 hll HTS1
    have hdl : e.d.len = e.bs.length := hrb.1.symm
    have hwr : IntKind.i64.wrap ((N : Int) + (e.bs.length : Int)) = (N : Int) + (e.bs.length : Int) := IntWalk.i64_in _ (by omega)
    have hki : (k : Int) < (T.length : Int) := by omega
    subst hAe
    rw [hdl] at a0
    have m0 := (S1.out.cell 0 rfl).cell 0
    have f0 := (S1.out.cell 0 rfl).frozen 0
    clear hmem hrb
    go_upto_region 5 with fail
    go_region
    have S2 := Lib.hid (S1.out.setAt 0 rfl 0 (.int .i64 ((N : Int) + (e.bs.length : Int)))).drew
    clear S1 m0 f0 a0
    generalize World.drew _ = W2 at S2 ⊢
    have S2 : Hid (SW b w0 (cellOb g3 89 #[.int .i64 ((lenS (T.take (k + 1)) : Nat) : Int), v] :: rowOb 31 2 v k ((idS (T.take k)).flatMap encID) :: cellOb g2 89 #[.int .i64 0, .slice none 0 0] :: l) W2) := by
     rw [Hid, HTS1.out, Int.natCast_add]
     exact S2.out
    obtain ⟨gA', hAe, _, a0, hrb⟩ := blOb_at (S2.out.1.holds (blOb (some ⟨gA, 0, none⟩) T) (by simp [HA.out])) hlt HE.out
    injection hAe with hAe
    injection hAe with hAe
    subst hAe
    rw [hdl] at a0
    clear hrb a0
    obtain ⟨i, HI⟩ : ∃ i, Hid (fpOf e.bs = i) := ⟨_, rfl⟩
    rw [HI.out] at HTS2
    obtain ⟨va, vc, rfl⟩ := own_slL (S2.out.get 1 rfl)
    have S3 := Lib.hid S2.out.drew
    clear S2
    go_upto_region 6 with fail
    have HC := Lib.hid (fun (w' : World) (va : Option Addr) (kk : Nat) (vc : Nat) (xs : List Value) (hS : SW b w0 (cellOb g3 89 #[.int .i64 ((lenS (T.take (k + 1)) : Nat) : Int), .slice va k vc] :: rowOb 31 2 (.slice va k vc) k xs :: cellOb g2 89 #[.int .i64 0, .slice none 0 0] :: l) w') => (show w'.cell? ⟨g3, 1, none⟩ = some (.slice va k vc) ∧ w'.cell? ⟨gA, k, none⟩ = some (.slice e.d.A e.bs.length e.d.cap) from ⟨(hS.cell 0 rfl).cell 1, by
     obtain ⟨gq, hq, _, a0, _⟩ := blOb_at (hS.1.holds (blOb (some ⟨gA, 0, none⟩) T) (by simp [HA.out])) hlt HE.out
     injection hq with hq
     injection hq with hq
     subst hq
     rw [hdl] at a0
     exact a0⟩))
    refine wp_region_held_tail [(0, true), (1, true), (2, true), (3, true), (4, true), (5, true), (6, false), (7, false), (8, false), (9, true)] (fun w' => w'.cell? ⟨g3, 1, none⟩ = some (.slice va k vc) ∧ w'.cell? ⟨gA, k, none⟩ = some (.slice e.d.A e.bs.length e.d.cap)) (by kernel_rfl) (fun _ _ d _ _ h => by cases d <;> exact h) (by kernel_rfl) (HC.out _ _ 0 _ _ S3.out) ?_
    simp only [picked, List.map_cons, List.map_nil, List.getD_cons_succ, List.getD_cons_zero]
    iterate 6
     (refine wpHeld_take (v := ?_) (Or.inl ⟨by rfl, ?_⟩) ?_
      rotate_left
      · (intro w' hSw; obtain ⟨h1, h2⟩ := hSw; go_simp; try with_reducible rfl)
      try simp only [Act.put, List.setIfInBounds_toArray, List.set])
    refine wpHeld_run (fun K hK => ?_)
    go_simp
    go_at_call 94
    refine (rOf_any e.d.A e.d.cap e.bs W2.drew (blOb_rb (S3.out.1.holds (blOb (some ⟨gA, 0, none⟩) T) (by simp [HA.out])) hlt HE.out).rs (by omega)).mono ?_
    rw [HI.out]
    rintro e2 W4 ⟨rfl, hb4⟩
    have S4 := Lib.hid (S3.out.on hb4)
    clear hb4 S3
    go_wp2_with fail
    refine hK.out _ _ (HC.out _ _ 0 _ _ S4.out) ?_
    clear hK K
    try simp only [Act.put, List.setIfInBounds_toArray, List.set]
    refine wpHeld_run (fun K hK => ?_)
    go_simp
    refine hK.out _ _ (HC.out _ _ 0 _ _ (S4.out.alloc _)) ?_
    clear hK K
    try simp only [Act.put, List.setIfInBounds_toArray, List.set]
    refine wpHeld_run (fun K hK => ?_)
    refine step_rowS (t := 38) (e := 31) (size := 2) (bytes := 16) (i := i1) (S4.out.alloc _) 1 rfl (by rfl) (.tmp 21) (.tmp 27) (by rfl) Tryz.underlying38 gi gz0 gz1 gz2 rfl (by omega) (by rfl) ⟨W4.heap.size, 0, none⟩ 1 [.int .u64 i.1, .int .i64 i.2] (by rfl) rfl (two_new W4 _ _ 31 _ rfl) (encID_one i) (by unfold maxLen; omega) (by omega) ?_
    intro v8 W8 s8
    obtain ⟨g8, c8, rfl⟩ := own_some (s8.get 1 rfl) (by omega)
    have S8 : Hid (SW b w0 (cellOb g3 89 #[.int .i64 ((lenS (T.take (k + 1)) : Nat) : Int), .slice va k vc] :: rowOb 31 2 (.slice (some ⟨g8, 0, none⟩) (k + 1) c8) (k + 1) ((idS (T.take (k + 1))).flatMap encID) :: cellOb g2 89 #[.int .i64 0, .slice none 0 0] :: l) W8) := by
     rw [Hid, HTS2.out, List.flatMap_append]
     exact s8
    refine hK.out _ _ ⟨(S8.out.cell 0 rfl).cell 1, by
     obtain ⟨gq, hq, _, a0, _⟩ := blOb_at (S8.out.1.holds (blOb (some ⟨gA, 0, none⟩) T) (by simp [HA.out])) hlt HE.out
     injection hq with hq
     injection hq with hq
     subst hq
     rw [hdl] at a0
     exact a0⟩ ?_
    clear hK K s8 S4 HC
    try simp only [Act.put, List.setIfInBounds_toArray, List.set]
    (refine wpHeld_take (v := ?_) (Or.inl ⟨by rfl, ?_⟩) ?_
     rotate_left
     · (intro w' hSw; obtain ⟨h1, h2⟩ := hSw; go_simp; try with_reducible rfl)
     try simp only [Act.put, List.setIfInBounds_toArray, List.set])
    refine wpHeld_nil ?_
    simp only [List.length_cons, List.length_nil, List.drop_succ_cons, List.drop_zero]
    have k1 := (S8.out.cell 0 rfl).cell 1
    have f1 := (S8.out.cell 0 rfl).frozen 1
    have S9 : Hid (SW b w0 (cellOb g3 89 #[.int .i64 ((lenS (T.take (k + 1)) : Nat) : Int), .slice (some ⟨g8, 0, none⟩) (k + 1) c8] :: rowOb 31 2 (.slice (some ⟨g8, 0, none⟩) (k + 1) c8) (k + 1) ((idS (T.take (k + 1))).flatMap encID) :: cellOb g2 89 #[.int .i64 0, .slice none 0 0] :: l) _) := Lib.hid (S8.out.setAt 0 rfl 1 (.slice (some ⟨g8, 0, none⟩) (k + 1) c8))
    go_wp2_with fail
    go_roundw
    case rel => exact ⟨k + 1, _, by omega, by go_num, S9.out⟩
    case measure => simp [intOf]; omega
  · obtain rfl : k = T.length := by omega
    rw [List.take_length] at S1
    obtain ⟨va, vc, rfl⟩ := own_slL (S1.out.get 1 rfl)
    have m0 := (S1.out.cell 0 rfl).cell 0
    have m1 := (S1.out.cell 0 rfl).cell 1
    have n0 := (S1.out.cell 2 rfl).cell 0
    have n1 := (S1.out.cell 2 rfl).cell 1
    have f0 := (S1.out.cell 2 rfl).frozen 0
    have f1 := (S1.out.cell 2 rfl).frozen 1
    have hn23 := HN23.out
    have S2 := Lib.hid ((S1.out.setAt 2 rfl 0 (.int .i64 ((lenS T : Nat) : Int))).setAt 2 rfl 1 (.slice va T.length vc))
    obtain ⟨N, HN⟩ : ∃ N, Hid (lenS T = N) := ⟨_, rfl⟩
    rw [HN.out] at m0 S2
    clear S1
    go_upto_region 7 with fail
    go_wp2_with fail
    generalize (wr.setCell ⟨g2, 0, none⟩ (.int .i64 ((N : Nat) : Int))).setCell ⟨g2, 1, none⟩ (.slice va T.length vc) = WF at S2 ⊢
    have q0 := (S2.out.cell 2 rfl).cell 0
    have q1 := (S2.out.cell 2 rfl).cell 1
    refine bodyPost_ret (v := .agg #[.int .i64 ((N : Nat) : Int), .slice va T.length vc]) ?_ rfl ?_
    · simp [results, Tryz.results77, go_sem, q0, q1]
    · exact ⟨_, by rw [HN.out], SW.few (pre := [_, _, _]) S2.out [1] (n := 3) rfl (by decide) (by decide)⟩
end
end Go.Proofs.YteabgcollokgjaaGreatDoor
