/- LX LY SH ST MO in one text. -/
import Derived.Test.YteabgcollokgjaaGreatDoorQ15
import Derived.Test.YteabgcollokgjaaGreatDoorQ27
import Derived.Test.YteabgcollokgjaaGreatDoorQ24
import Derived.Test.YteabgcollokgjaaGreatDoorQ16
import Derived.BigRegion
set_option linter.unusedSimpArgs false
set_option linter.unusedVariables false
namespace Go.Proofs.YteabgcollokgjaaGreatDoor
open Go.RowKit Go.MapKept Go.ChangeMaps Go.Shelf Go.Sort

/-- Manifests that are read. -/
def imOb (A : Option Addr) (rs : List MR) (ms : List Man) : Ob where
 own := fun _ => False
 rd := fun i => (0 < rs.length ∧ ∃ o, A = some ⟨i, o, none⟩) ∨ ∃ j, j < ms.length ∧ 0 < (ms.getD j man0).ids.length ∧ ∃ o, (rs.getD j mr0).A = some ⟨i, o, none⟩
 holds := fun w => Rd encMR 2 mr0 w w.heap.size A rs ∧ rs.length = ms.length ∧ ∀ j, j < ms.length → Link w w.heap.size (rs.getD j mr0) (ms.getD j man0)
 stable := fun w w' h hs hk => by
  obtain ⟨h1, h2, h3⟩ := h
  refine ⟨fun hp => ?_, h2, fun j hj => ?_⟩
  · obtain ⟨b, o, rfl, hb, _, hc⟩ := h1 hp
    have hB := hk b (.inr (.inl ⟨hp, o, rfl⟩))
    refine ⟨b, o, rfl, Nat.lt_of_lt_of_le hb hs.2.2.2, by have := hs.2.2.2; omega, fun j hj i v hv => ?_⟩
    rw [← hc j hj i v hv]
    simp [World.cell?, hB]
  · obtain ⟨l1, l2, l3, l4⟩ := h3 j hj
    refine ⟨l1, l2, l3, fun hp => ?_⟩
    obtain ⟨b, o, e, hb, _, hc⟩ := l4 hp
    have hB := hk b (.inr (.inr ⟨j, hj, hp, o, e⟩))
    refine ⟨b, o, e, Nat.lt_of_lt_of_le hb hs.2.2.2, by have := hs.2.2.2; omega, fun j hj i v hv => ?_⟩
    rw [← hc j hj i v hv]
    simp [World.cell?, hB]
/-- IDs that are read, at any offset. -/
def ipOb (A : Option Addr) (ids : List ID) : Ob where
 own := fun _ => False
 rd := fun i => 0 < ids.length ∧ ∃ o, A = some ⟨i, o, none⟩
 holds := fun w => RdID w w.heap.size A ids
 stable := fun w w' h hs hk => fun hp => by
  obtain ⟨b, o, rfl, hb, _, hc⟩ := h hp
  have hB := hk b (.inr ⟨hp, o, rfl⟩)
  refine ⟨b, o, rfl, Nat.lt_of_lt_of_le hb hs.2.2.2, by have := hs.2.2.2; omega, fun j hj i v hv => ?_⟩
  rw [← hc j hj i v hv]
  simp [World.cell?, hB]
section
variable {b : Nat} {w0 w w' : World} {l : List Ob}
theorem rd_src {x : Nat} {A : Option Addr} {ids : List ID} (h : RdID w x A ids) : 0 < ids.length → ∃ ad, A = some ad ∧ ∀ j u, (ids.flatMap encID)[j]? = some u → w.cell? (ad.add j) = some u := fun hp => by
 obtain ⟨q, o, rfl, _, _, _⟩ := h hp
 exact ⟨_, rfl, (Rd.opt encID_len (by omega) h).2 _ rfl⟩
theorem SW.newRow0 (h : SW b w0 l w) (e : TypeId) (size : Nat) : SW b w0 (rowOb e size (.slice (some ⟨w.heap.size, 0, none⟩) 0 0) 0 [] :: l) (w.alloc (.cells #[] e)) :=
 h.addN ((Below.refl _ _).alloc (Nat.le_refl _) _) ⟨by simp, .inr ⟨w.heap.size, 0, #[], rfl, Nat.zero_le _, heap_alloc_new w _, Nat.le_refl _, by unfold maxLen; omega, by simp, by simp⟩⟩ (fun i hi => by
  have hi : (some w.heap.size : Option Nat) = some i := hi
  injection hi with hi
  subst hi
  exact ⟨Nat.le_refl _, by simp⟩) (fun i hi => hi.elim)
set_option maxRecDepth 100000 in
set_option maxHeartbeats 4000000 in
theorem clone124_any (h : SW b w0 l w) (P : Option Addr) (c : Nat) (ids : List ID) (hp : RdID w w.heap.size P ids) (hn : ids.length ≤ 100000) :
 Calls Tryz.prog 124 #[.slice P ids.length c] w (fun e w' => ∃ v, e = .returned v ∧ SW b w0 (rowOb 31 2 v ids.length (ids.flatMap encID) :: l) w') := by
 have q38 : ∀ (w : World) (a : Option Addr) (n c n' c' : Nat), (binOp .eql 38 (.slice a n c) (.slice none n' c')).run Tryz.prog w = .ok (.bool a.isNone) w := fun w a n c n' c' => Lib.run_eql_slice_nil w _ _ a n c n' c' Tryz.underlying38
 have S0 := Lib.hid h
 have HP := Lib.hid hp
 clear h hp
 cases P with
 | none =>
  have h0 : ids = [] := by
   cases ids with
   | nil => rfl
   | cons a t =>
    obtain ⟨q, o, e, _⟩ := HP.out (by simp)
    cases e
  subst h0
  have S1 := Lib.hid (S0.out.newRow 31 2)
  go_enter Tryz.func124, Tryz.ntmps124
  go_wp2_with fail
  go_ret
  exact ⟨_, rfl, S1.out⟩
 | some ad =>
  have S1 := Lib.hid (S0.out.newRow0 31 2)
  have HQ : Hid (RdID (w.alloc (.cells #[] 31)) (w.alloc (.cells #[] 31)).heap.size (some ad) ids) := (fun hq => by
   obtain ⟨q, o, e, hb, _, hc⟩ := HP.out.alloc (.cells #[] 31) hq
   exact ⟨q, o, e, hb, by omega, hc⟩)
  obtain ⟨i1, gi, gz0, gz1, gz2⟩ := info_parts info31
  go_enter Tryz.func124, Tryz.ntmps124
  go_wp2_with (at_builtin; (refine wpList_rowM (t := 38) (e := 31) (size := 2) (bytes := 16) (i := i1) S1.out 0 rfl (by rfl) (.tmp 5) (.tmp 6) (by rfl) Tryz.underlying38 gi gz0 gz1 gz2 rfl (by omega) (by rfl) (some ad) ids.length c (ids.flatMap encID) (by rfl) (flat_len encID_len ids) (rd_src HQ.out) (encID_all ids) (by unfold maxLen; omega) (by omega) ?_); refine halt_ ?_)
  intro v4 w4 s4
  have S4 : Hid (SW b w0 (rowOb 31 2 v4 ids.length (ids.flatMap encID) :: l) w4) := by
   rw [Hid]
   simpa using s4
  clear s4 S1
  go_wp2_with fail
  go_ret
  exact ⟨_, rfl, S4.out⟩
/-- The IDs of a list in ascending order, each once. -/
def setR (l : List ID) : List ID := (allR [] l).map (·.1)
theorem setR_strict (l : List ID) : (setR l).Pairwise (fun a b => ltID a b = true) := List.pairwise_map.2 (allR_spec l List.Pairwise.nil).1
theorem setR_mem (l : List ID) (i : ID) : i ∈ setR l ↔ i ∈ l := by
 have h := (allR_spec l (t := []) List.Pairwise.nil).2 i
 have h2 := @asc_none_iff (allR [] l) i
 unfold setR
 constructor
 · intro hi
   by_cases hm : i ∈ l
   · exact hm
   · rw [if_neg hm] at h
     exact absurd hi (h2.1 (by rw [h]; rfl))
 · intro hm
   rw [if_pos hm] at h
   exact key_of_asc h
theorem setR_len (l : List ID) : (setR l).length ≤ l.length := by
 unfold setR
 have := allR_len [] l
 simpa using this
theorem dd_setR {l ys : List ID} (hp : ys.Perm l) (hs : ys.Pairwise (fun a b => ltOf cmpID b a = false)) : dd ys = setR l :=
 sorted_uniq (dd_strict hs) (setR_strict l) (fun i => by rw [dd_mem, setR_mem, hp.mem_iff])
theorem idsOf_snoc (ms : List Man) (m : Man) : idsOf (ms ++ [m]) = idsOf ms ++ m.ids := by simp [idsOf]
/-- A row is put in order. -/
theorem SW.sortP {v : Value} {xs : List ID} (h : SW b w0 (rowOb 31 2 v xs.length (xs.flatMap encID) :: l) w) (hn : xs.length ≤ 4294967296) :
 Calls Tryz.prog 103 #[v, .func (.func 125) #[] #[]] w (fun e w' => e = .returned (.tuple #[]) ∧ ∃ ys : List ID, ys.Perm xs ∧ ys.Pairwise (fun a b => ltOf cmpID b a = false) ∧ SW b w0 (rowOb 31 2 v ys.length (ys.flatMap encID) :: l) w') := by
 have hh : w.ownsRow 0 31 2 v xs.length (xs.flatMap encID) := h.get 0 rfl
 by_cases h0 : v = .slice none 0 0
 · subst h0
   refine (sortP_none none 0 w).mono ?_
   rintro e w' ⟨rfl, rfl⟩
   have hx : xs = [] := by
    rcases hh.2 with ⟨_, h2⟩ | ⟨g, cap, cur, hv, _⟩
    · exact List.eq_nil_of_length_eq_zero h2
    · cases hv
   subst hx
   exact ⟨rfl, [], List.Perm.refl _, List.Pairwise.nil, h⟩
 · obtain ⟨g, cap, rfl⟩ : ∃ g cap, v = .slice (some ⟨g, 0, none⟩) xs.length cap := by
    rcases hh.2 with ⟨hv, _⟩ | ⟨g, cap, cur, hv, _⟩
    · exact absurd hv h0
    · exact ⟨g, cap, hv⟩
   refine (sortP_any 0 g _ cap xs w hh hn).mono ?_
   rintro e w' ⟨rfl, ys, hp, hs, hown, hg⟩
   refine ⟨rfl, ys, hp, hs, ?_⟩
   have := h.row (w' := w') 0 rfl hown hg (.inl rfl)
   rw [hp.length_eq]
   exact this
/-- Equal neighbours of a row are struck. -/
theorem SW.compact {v : Value} {xs : List ID} (h : SW b w0 (rowOb 31 2 v xs.length (xs.flatMap encID) :: l) w) (hn : xs.length ≤ 4294967296) :
 Calls Tryz.prog 126 #[v] w (fun e w' => ∃ A c, e = .returned (.slice A (dd xs).length c) ∧ SW b w0 (riOb A (dd xs) :: l) w') := by
 have hh : w.ownsRow 0 31 2 v xs.length (xs.flatMap encID) := h.get 0 rfl
 by_cases h0 : v = .slice none 0 0
 · subst h0
   have hx : xs = [] := by
    rcases hh.2 with ⟨_, h2⟩ | ⟨g, cap, cur, hv, _⟩
    · exact List.eq_nil_of_length_eq_zero h2
    · cases hv
   subst hx
   have S := Lib.hid h
   clear h hh
   go_enter Tryz.func126, Tryz.ntmps126
   go_wp2_with fail
   go_ret
   exact ⟨none, 0, rfl, SW.rowRi (A := none) (cap := 0) (F := []) S.out⟩
 · obtain ⟨g, cap, rfl⟩ : ∃ g cap, v = .slice (some ⟨g, 0, none⟩) xs.length cap := by
    rcases hh.2 with ⟨hv, _⟩ | ⟨g, cap, cur, hv, _⟩
    · exact absurd hv h0
    · exact ⟨g, cap, hv⟩
   obtain ⟨_, hr, hlt, _⟩ := own_rowI hh
   have hcap : xs.length ≤ cap := own_cap hh
   refine (compact_any g cap xs w hr hn hlt hcap).mono ?_
   rintro e w' ⟨rfl, hr', hg⟩
   refine ⟨some ⟨g, 0, none⟩, cap, rfl, ?_⟩
   have hgl : g < w'.heap.size := Nat.lt_of_lt_of_le hlt hg.size
   have := h.1.stepAt (w' := w') (o' := riOb (some ⟨g, 0, none⟩) (dd xs)) 0 rfl ⟨hg.os, hg.tape, hg.output, hg.size, fun i hi hn' => hg.block i hi (fun e => hn' e.symm), fun i hi => hi.elim⟩ (fun i hi => .inl (by
    have hi : (some ⟨g, 0, none⟩ : Option Addr) = some ⟨i, 0, none⟩ := hi
    injection hi with hi
    injection hi with hi
    show (some g : Option Nat) = some i
    rw [hi])) ⟨(fun e => by cases e), fun ad e => by injection e with e; subst e; exact ⟨g, rfl, hr', hgl⟩⟩ (fun i hi => by
    rcases hi with hi | hi
    · exact hi.elim
    · have hi : (some ⟨g, 0, none⟩ : Option Addr) = some ⟨i, 0, none⟩ := hi
      injection hi with hi
      injection hi with hi
      subst hi
      exact hgl)
   exact ⟨this.1, h.2.trans this.2⟩
end
end Go.Proofs.YteabgcollokgjaaGreatDoor
namespace Go.Proofs.YteabgcollokgjaaGreatDoor
open Go.RowKit Go.MapKept Go.ChangeMaps Go.Shelf Go.Sort

section
variable {b : Nat} {w0 w w' : World} {l : List Ob}
theorem own_slL {e : TypeId} {size n : Nat} {v : Value} {xs : List Value} (h : w.ownsRow 0 e size v n xs) : ∃ A c, v = .slice A n c := by
 rcases h.2 with ⟨hv, h2⟩ | ⟨g, cap, cur, hv, _⟩
 · exact ⟨none, 0, by rw [hv, h2]⟩
 · exact ⟨some ⟨g, 0, none⟩, cap, hv⟩
/-- What Live returns. -/
abbrev LiveP (pin : List ID) (ms : List Man) (b : Nat) (w0 : World) (l : List Ob) (e : Ending) (w' : World) : Prop :=
 (errM ms = 0 ∧ ∃ A c, e = .returned (.tuple #[.slice A (setR (pin ++ idsOf ms)).length c, .int .i64 0]) ∧ SW b w0 (riOb A (setR (pin ++ idsOf ms)) :: l) w') ∨
 (errM ms ≠ 0 ∧ e = .returned (.tuple #[.slice none 0 0, .int .i64 (errM ms)]) ∧ SW b w0 l w')
theorem idsOf_take {ms : List Man} {k : Nat} (hk : k < ms.length) : idsOf (ms.take (k + 1)) = idsOf (ms.take k) ++ (ms.getD k man0).ids := by
 rw [take_snoc _ man0 _ hk, idsOf_snoc]
theorem rd_top {x : Nat} {A : Option Addr} {ids : List ID} (h : RdID w x A ids) : RdID w w.heap.size A ids := fun hp => by
 obtain ⟨q, o, e, hb, _, hc⟩ := h hp
 exact ⟨q, o, e, hb, by omega, hc⟩
set_option maxRecDepth 100000 in
set_option maxHeartbeats 8000000 in
theorem Live_any (h : SW b w0 l w) {A : Option Addr} {rs : List MR} {ms : List Man} (hm : imOb A rs ms ∈ l) (hn : ms.length ≤ 100000) (hi : ∀ m ∈ ms, m.ids.length ≤ 9223372036854775807) (P : Option Addr) (pc : Nat) (pin : List ID) (hp : RdID w w.heap.size P pin) (hpl : pin.length ≤ 100000) (c : Nat) :
 Calls Tryz.prog 78 #[.slice A ms.length c, .slice P pin.length pc] w (LiveP pin ms b w0 l) := by
 have HM := Lib.hid hm
 have HI := Lib.hid hi
 have HCL := Lib.hid (clone124_any h P pc pin hp hpl)
 clear h hm hi hp
 obtain ⟨i1, gi, gz0, gz1, gz2⟩ := info_parts info31
 go_enter Tryz.func78, Tryz.ntmps78
 go_wp2_with (go_at_call 124; (with_reducible refine HCL.out.mono ?_); refine halt_ ?_)
 rintro e w1 ⟨v, rfl, s1⟩
 have S1 : Hid (SW b w0 (rowOb 31 2 v (pin ++ idsOf (ms.take 0)).length ((pin ++ idsOf (ms.take 0)).flatMap encID) :: l) w1) := by
  rw [Hid, List.take_zero, show idsOf [] = [] from rfl, List.append_nil]
  exact s1
 clear s1 HCL
 go_wp2_with fail
 go_loopw [6, 14] (fun s6 s14 wr => ∃ k : Nat, k ≤ ms.length ∧ s14 = .int .i64 (k : Int) ∧ Hid (errM (ms.take k) = 0) ∧ SW b w0 (rowOb 31 2 s6 (pin ++ idsOf (ms.take k)).length ((pin ++ idsOf (ms.take k)).flatMap encID) :: l) wr) (fun _ s14 _ => ms.length - (intOf s14).toNat)
 case atStart => exact ⟨0, Nat.zero_le _, rfl, rfl, S1.out⟩
 case round =>
  obtain ⟨k, hk, rfl, HE, hs⟩ := hrel
  have S2 := Lib.hid hs
  clear hs S1
  have hbig : (idsOf (ms.take k)).length ≤ 1024 * 100000 := by
   have h1 := idsOf_len HE.out
   rw [List.length_take] at h1
   omega
  by_cases hlt : k < ms.length
  · obtain ⟨h1, h2, h3⟩ := S2.out.1.holds (imOb A rs ms) (List.mem_cons_of_mem _ HM.out)
    obtain ⟨g, o, rfl, hgB, _, hc⟩ := h1 (by omega)
    obtain ⟨l1, l2, l3, l4⟩ := h3 k hlt
    have hmem := getD_mem ms man0 k hlt
    have HTK := Lib.hid (idsOf_take hlt)
    obtain ⟨m, HMK⟩ : ∃ m, Hid (ms.getD k man0 = m) := ⟨_, rfl⟩
    obtain ⟨⟨rz, rA, rl, rc⟩, HR⟩ : ∃ r, Hid (rs.getD k mr0 = r) := ⟨_, rfl⟩
    rw [HMK.out] at l1 l2 l4 hmem HTK
    rw [HR.out] at l1 l2 l3 l4
    simp only at l1 l2 l3 l4
    subst l1 l2
    have hil := HI.out m hmem
    have c0 : wr.cell? ⟨g, o + k * 2, none⟩ = some (.int .i64 m.size) := hc k (by omega) 0 _ (by rw [HR.out]; rfl)
    have c1 : wr.cell? ⟨g, o + k * 2 + 1, none⟩ = some (.slice rA m.ids.length rc) := hc k (by omega) 1 _ (by rw [HR.out]; rfl)
    have HB : Hid (manE m ≠ 0 → errM ms = manE m) := fun h => by have := errM_at HE.out hlt (by rw [HMK.out]; exact h); rwa [HMK.out] at this
    have HZ : Hid (manE m = 0 → errM (ms.take (k + 1)) = 0) := fun h => by rw [take_snoc _ man0 _ hlt, errM_snoc _ _ HE.out, HMK.out]; exact h
    have S3 := Lib.hid (S2.out.newCell 89 #[.int .i64 m.size, .slice rA m.ids.length rc])
    have HRD : Hid (RdID (wr.alloc (.cells #[.int .i64 m.size, .slice rA m.ids.length rc] 89)) (wr.alloc (.cells #[.int .i64 m.size, .slice rA m.ids.length rc] 89)).heap.size rA m.ids) := rd_top (l4.alloc _)
    have HCK := Lib.hid (manCheck_any _ m rA rc _ HRD.out hil)
    clear h1 h2 h3 hc l4 hmem S2
    go_wp2_with (go_at_call 108; (with_reducible refine HCK.out.mono ?_); refine halt_ ?_)
    rintro e w2 ⟨rfl, hb2⟩
    have S4 := Lib.hid (S3.out.on hb2)
    have HRD2 := Lib.hid (rd_top (HRD.out.on hb2))
    have d1 : w2.cell? ⟨wr.heap.size, 1, none⟩ = some (.slice rA m.ids.length rc) := (S4.out.cell 0 rfl).cell 1
    clear hb2 HCK S3 HRD c0 c1
    by_cases hE : manE m = 0
    · have hle := manE_len hE
      have HE2 := Lib.hid (HZ.out hE)
      rw [hE]
      clear hE HB HZ
      go_wp2_with (at_builtin; (refine wpList_rowM (t := 38) (e := 31) (size := 2) (bytes := 16) (i := i1) S4.out 1 rfl (by rfl) (.tmp 23) (.tmp 25) (by rfl) Tryz.underlying38 gi gz0 gz1 gz2 rfl (by omega) (by rfl) rA m.ids.length rc (m.ids.flatMap encID) (by rfl) (flat_len encID_len m.ids) (rd_src HRD2.out) (encID_all m.ids) (by rw [List.length_append]; unfold maxLen; omega) (by rw [List.length_append]; omega) ?_); refine halt_ ?_)
      intro v4 w4 s4
      have S5 : Hid (SW b w0 (rowOb 31 2 v4 (pin ++ idsOf (ms.take (k + 1))).length ((pin ++ idsOf (ms.take (k + 1))).flatMap encID) :: l) w4) := by
       rw [Hid, HTK.out]
       simp only [List.flatMap_append, List.length_append, List.append_assoc, ← Nat.add_assoc]
       exact s4.tail
      clear s4 S4 d1
      go_wp2_with fail
      go_roundw
      case rel => exact ⟨k + 1, by omega, by go_num, HE2, S5.out⟩
      case measure => simp [intOf]; omega
    · have HEM := Lib.hid (HB.out hE)
      have HN : Hid (errM ms ≠ 0) := by rw [Hid, HEM.out]; exact hE
      have hbe : (manE m != 0) = true := bne_iff_ne.2 hE
      clear hE HB HZ
      go_wp2_with fail
      go_ret2
      exact .inr ⟨HN.out, by rw [HEM.out]; rfl, S4.out.tail.tail⟩
  · obtain rfl : k = ms.length := by omega
    have hT := HE.out
    rw [List.take_length] at hT hbig
    rw [List.take_length] at S2
    have HT := Lib.hid hT
    have HSO := Lib.hid (S2.out.sortP (by rw [List.length_append]; omega))
    obtain ⟨xs, HXS⟩ : ∃ xs, Hid (pin ++ idsOf ms = xs) := ⟨_, rfl⟩
    have hxl : xs.length ≤ 4294967296 := by rw [← HXS.out, List.length_append]; omega
    rw [HXS.out] at HSO
    clear hT S2 hbig
    go_wp2_with (go_at_call 103; (with_reducible refine HSO.out.mono ?_); refine halt_ ?_)
    rintro e w2 ⟨rfl, ys, hp, hso, s3⟩
    have HCO := Lib.hid (s3.compact (by rw [hp.length_eq]; exact hxl))
    rw [dd_setR hp hso] at HCO
    clear s3 HSO hp hso
    go_wp2_with (go_at_call 126; (with_reducible refine HCO.out.mono ?_); refine halt_ ?_)
    rintro e w3 ⟨B, cb, rfl, s4⟩
    have S4 := Lib.hid s4
    clear s4 HCO
    go_wp2_with fail
    go_ret2
    refine .inl ⟨HT.out, B, cb, ?_, ?_⟩
    · rw [HXS.out]
      rfl
    · rw [HXS.out]
      exact S4.out
theorem rdC_top {x : Nat} {A : Option Addr} {t : List CT} (h : RdC w x A t) (y : Nat) (hy : ∀ ad, A = some ad → ad.block ≠ y) : RdC w y A t := fun hp => by
 obtain ⟨q, o, e, hb, _, hc⟩ := h hp
 exact ⟨q, o, e, hb, hy _ e, hc⟩
/-- A table that is read. -/
def tcOb (A : Option Addr) (t : List CT) : Ob where
 own := fun _ => False
 rd := fun i => 0 < t.length ∧ ∃ o, A = some ⟨i, o, none⟩
 holds := fun w => RdC w w.heap.size A t
 stable := fun w w' h hs hk => fun hp => by
  obtain ⟨b, o, rfl, hb, _, hc⟩ := h hp
  have hB := hk b (.inr ⟨hp, o, rfl⟩)
  refine ⟨b, o, rfl, Nat.lt_of_lt_of_le hb hs.2.2.2, by have := hs.2.2.2; omega, fun j hj i v hv => ?_⟩
  rw [← hc j hj i v hv]
  simp [World.cell?, hB]
set_option maxRecDepth 100000 in
set_option maxHeartbeats 8000000 in
/-- The reference's set of a list. -/
theorem rSet_any (h : SW b w0 l w) (A : Option Addr) (c : Nat) (ids : List ID) (hr : riOb A ids ∈ l) (hn : ids.length ≤ 1000000000) :
 Calls Tryz.prog 128 #[.slice A ids.length c] w (fun e w' => ∃ B cb, e = .returned (.slice B (setR ids).length cb) ∧ SW b w0 (riOb B (setR ids) :: l) w') := by
 have S0 := Lib.hid h
 have HA := Lib.hid hr
 clear h hr
 obtain ⟨i1, gi, gz0, gz1, gz2⟩ := info_parts info31
 go_enter Tryz.func128, Tryz.ntmps128
 go_wp2_with fail
 go_loopw [3, 4] (fun s3 s4 wr => ∃ (k : Nat) (T : Option Addr) (C : Nat), k ≤ ids.length ∧ s4 = .int .i64 (k : Int) ∧ s3 = .slice T (allR [] (ids.take k)).length C ∧ (∀ ad, T = some ad → w.heap.size ≤ ad.block) ∧ RdC wr wr.heap.size T (allR [] (ids.take k)) ∧ SW b w0 l wr ∧ w.heap.size ≤ wr.heap.size) (fun _ s4 _ => ids.length - (intOf s4).toNat)
 case atStart => exact ⟨0, none, 0, Nat.zero_le _, rfl, rfl, (fun _ e => by cases e), Rd.nil, S0.out, Nat.le_refl _⟩
 case round =>
  obtain ⟨k, T, C, hk, rfl, rfl, hT, hR, hs, hsz⟩ := hrel
  have S1 := Lib.hid hs
  have HT := Lib.hid hT
  have HR := Lib.hid hR
  clear hs hT hR
  have htl := allR_len [] (ids.take k)
  have htb := allR_bd (t := []) (lo := 0) (hi := 0) (by omega) (by omega) (fun c hc => by cases hc) (ids.take k)
  have HTB : Hid (∀ c ∈ allR [] (ids.take k), -1099511627776000 ≤ c.2 ∧ c.2 ≤ 1099511627776000) := fun c hc => by
   have := htb c hc
   rw [List.length_take] at this
   omega
  clear htb
  rw [List.length_nil, List.length_take] at htl
  by_cases hlt : k < ids.length
  · obtain ⟨i, hik⟩ : ∃ i, ids.getD k id0 = i := ⟨_, rfl⟩
    obtain ⟨g1, e1, a0, a1⟩ := S1.out.rowCell HA.out hlt hik
    have HST : Hid (allR [] (ids.take (k + 1)) = putR (allR [] (ids.take k)) i 1) := by
     rw [Hid, take_snoc _ id0 _ hlt, allR_snoc, hik]
    have hglt : g1 < w.heap.size := by
     obtain ⟨g2, e2, _, hlt2⟩ := (S0.out.1.holds (riOb A ids) HA.out).2 _ e1
     injection e2 with e2
     omega
    have HPT := Lib.hid (Put_any g1 (allR [] (ids.take k)) T C i.1 i.2 1 wr (rdC_top HR.out g1 (fun ad e => by have := HT.out ad e; omega)) (by omega) (by omega) (by omega) HTB.out)
    subst e1
    clear hik
    go_wp2_with (go_at_call 168; (with_reducible refine HPT.out.mono ?_); refine halt_ ?_)
    rintro e w2 ⟨T2, C2, rfl, hr2, _, hn2, hb2⟩
    have S2 := Lib.hid (S1.out.on hb2)
    have HR2 : Hid (RdC w2 w2.heap.size T2 (allR [] (ids.take (k + 1)))) := by
     rw [HST.out]
     exact rdC_top hr2 _ (fun ad e => by have := hn2 ad e; omega)
    have HN2 : Hid (∀ ad, T2 = some ad → w.heap.size ≤ ad.block) := fun ad e => by have := (hn2 ad e).1; omega
    have hsz2 : w.heap.size ≤ w2.heap.size := Nat.le_trans hsz hb2.size
    rw [← HST.out]
    clear hr2 hn2 hb2 HPT S1 a0 a1
    go_wp2_with fail
    go_roundw
    case rel => exact ⟨k + 1, T2, C2, by omega, by go_num, rfl, HN2.out, HR2.out, S2.out, hsz2⟩
    case measure => simp [intOf]; omega
  · obtain rfl : k = ids.length := by omega
    rw [List.take_length] at HR htl ⊢
    obtain ⟨t, HTT⟩ : ∃ t, Hid (allR [] ids = t) := ⟨_, rfl⟩
    rw [HTT.out] at HR htl ⊢
    obtain ⟨K, HK⟩ : ∃ K, Hid (t.map (·.1) = K) := ⟨_, rfl⟩
    have HSR : Hid (setR ids = K) := by rw [Hid, setR, HTT.out, HK.out]
    have HKL : Hid (K.length = t.length) := by rw [Hid, ← HK.out, List.length_map]
    have S1 : Hid (SW b w0 (tcOb T t :: l) wr) := S1.out.also HR.out (fun _ h => h) (fun i hi => by
     obtain ⟨hp, o, e⟩ := hi
     obtain ⟨q, o2, e2, hb2, _⟩ := HR.out hp
     rw [e] at e2
     injection e2 with e2
     injection e2 with e2
     omega) (fun i hi y hy ho => by
     obtain ⟨_, o, e⟩ := hi
     have h1 := HT.out _ e
     have h2 := (S0.out.1.own y hy i ho).2
     simp only at h1
     omega)
    clear HTB HR
    go_wp2_with fail
    rename World => wa
    go_loopw [5, 6] (fun s5 s6 wr => ∃ k : Nat, k ≤ t.length ∧ s6 = .int .i64 (k : Int) ∧ SW b w0 (rowOb 31 2 s5 k ((K.take k).flatMap encID) :: tcOb T t :: l) wr) (fun _ s6 _ => t.length - (intOf s6).toNat)
    case atStart => exact ⟨0, Nat.zero_le _, rfl, S1.out.newRow 31 2⟩
    case round =>
     rename World => wz
     obtain ⟨k, hk, rfl, hs⟩ := hrel
     have S2 := Lib.hid hs
     clear hs S1
     by_cases hlt : k < t.length
     · have hR2 : RdC wz wz.heap.size T t := S2.out.get 1 (o := tcOb T t) rfl
       obtain ⟨g, o, rfl, hgB, _, hc⟩ := hR2 (by omega)
       obtain ⟨i, n, HI⟩ : ∃ i n, Hid (t.getD k ct0 = (i, n)) := ⟨_, _, rfl⟩
       have c0 : wz.cell? ⟨g, o + k * 3, none⟩ = some (.int .u64 i.1) := hc k hlt 0 _ (by rw [HI.out]; rfl)
       have c1 : wz.cell? ⟨g, o + k * 3 + 1, none⟩ = some (.int .i64 i.2) := hc k hlt 1 _ (by rw [HI.out]; rfl)
       have HTK : Hid (K.take (k + 1) = K.take k ++ [i]) := by
        rw [Hid, take_snoc _ id0 _ (by rw [HKL.out]; exact hlt), ← HK.out]
        congr 2
        have h1 : (t.map (·.1)).getD k id0 = (t.getD k ct0).1 := by simp [List.getD_eq_getElem?_getD, List.getElem?_eq_getElem hlt]
        rw [h1, HI.out]
       clear hc hR2
       go_wp2_with (at_builtin; (refine wpList_rowS (t := 38) (e := 31) (size := 2) (bytes := 16) (i := i1) (S2.out.alloc _) 0 rfl (by rfl) (.tmp 25) (.tmp 31) (by rfl) Tryz.underlying38 gi gz0 gz1 gz2 rfl (by omega) (by rfl) ⟨wz.heap.size, 0, none⟩ 1 [.int .u64 i.1, .int .i64 i.2] (by rfl) rfl (two_new wz _ _ 31 _ rfl) (encID_one i) (by unfold maxLen; omega) (by omega) ?_); refine halt_ ?_)
       intro v4 w4 s4
       have S4 : Hid (SW b w0 (rowOb 31 2 v4 (k + 1) ((K.take (k + 1)).flatMap encID) :: tcOb (some ⟨g, o, none⟩) t :: l) w4) := by
        rw [Hid, HTK.out, List.flatMap_append]
        exact s4
       clear s4 S2 c0 c1
       go_wp2_with fail
       go_roundw
       case rel => exact ⟨k + 1, by omega, by go_num, S4.out⟩
       case measure => simp [intOf]; omega
     · obtain rfl : k = t.length := by omega
       have hKT : K.take t.length = K := by rw [← HKL.out, List.take_length]
       rw [hKT, ← HKL.out] at S2
       have HOW : Hid (∃ B cb, u5 = .slice B K.length cb) := own_slL (S2.out.get 0 rfl)
       obtain ⟨B, cb, rfl⟩ := HOW.out
       clear hKT HOW
       go_wp2_with fail
       go_ret
       rw [HSR.out]
       exact ⟨B, cb, rfl, SW.sub S2.out.rowRi (List.Sublist.cons_cons _ (List.sublist_cons_self _ _))⟩
set_option maxRecDepth 100000 in
set_option maxHeartbeats 8000000 in
theorem rLive_any (h : SW b w0 l w) {A : Option Addr} {rs : List MR} {ms : List Man} (hm : imOb A rs ms ∈ l) (hn : ms.length ≤ 100000) (hi : ∀ m ∈ ms, m.ids.length ≤ 9223372036854775807) (P : Option Addr) (pc : Nat) (pin : List ID) (hp : RdID w w.heap.size P pin) (hpl : pin.length ≤ 100000) (c : Nat) :
 Calls Tryz.prog 79 #[.slice A ms.length c, .slice P pin.length pc] w (LiveP pin ms b w0 l) := by
 have HM := Lib.hid hm
 have HI := Lib.hid hi
 have S0 := Lib.hid (h.newRow 31 2)
 have HP := Lib.hid hp
 clear h hm hi hp
 obtain ⟨i1, gi, gz0, gz1, gz2⟩ := info_parts info31
 go_enter Tryz.func79, Tryz.ntmps79
 go_wp2_with (at_builtin; (refine wpList_rowM (t := 38) (e := 31) (size := 2) (bytes := 16) (i := i1) S0.out 0 rfl (by rfl) (.const (.slice none 0 0)) (.tmp 9) (by rfl) Tryz.underlying38 gi gz0 gz1 gz2 rfl (by omega) (by rfl) P pin.length pc (pin.flatMap encID) (by rfl) (flat_len encID_len pin) (rd_src HP.out) (encID_all pin) (by unfold maxLen; omega) (by omega) ?_); refine halt_ ?_)
 intro v1 w1 s1
 have S1 : Hid (SW b w0 (rowOb 31 2 v1 (pin ++ idsOf (ms.take 0)).length ((pin ++ idsOf (ms.take 0)).flatMap encID) :: l) w1) := by
  rw [Hid, List.take_zero, show idsOf [] = [] from rfl, List.append_nil]
  simpa using s1
 clear s1 S0 HP
 go_wp2_with fail
 go_loopw [6, 7] (fun s6 s7 wr => ∃ k : Nat, k ≤ ms.length ∧ s7 = .int .i64 (k : Int) ∧ Hid (errM (ms.take k) = 0) ∧ SW b w0 (rowOb 31 2 s6 (pin ++ idsOf (ms.take k)).length ((pin ++ idsOf (ms.take k)).flatMap encID) :: l) wr) (fun _ s7 _ => ms.length - (intOf s7).toNat)
 case atStart => exact ⟨0, Nat.zero_le _, rfl, rfl, S1.out⟩
 case round =>
  obtain ⟨k, hk, rfl, HE, hs⟩ := hrel
  have S2 := Lib.hid hs
  clear hs S1
  have hbig : (idsOf (ms.take k)).length ≤ 1024 * 100000 := by
   have h1 := idsOf_len HE.out
   rw [List.length_take] at h1
   omega
  by_cases hlt : k < ms.length
  · obtain ⟨h1, h2, h3⟩ := S2.out.1.holds (imOb A rs ms) (List.mem_cons_of_mem _ HM.out)
    obtain ⟨g, o, rfl, hgB, _, hc⟩ := h1 (by omega)
    obtain ⟨l1, l2, l3, l4⟩ := h3 k hlt
    have hmem := getD_mem ms man0 k hlt
    have HTK := Lib.hid (idsOf_take hlt)
    obtain ⟨m, HMK⟩ : ∃ m, Hid (ms.getD k man0 = m) := ⟨_, rfl⟩
    obtain ⟨⟨rz, rA, rl, rc⟩, HR⟩ : ∃ r, Hid (rs.getD k mr0 = r) := ⟨_, rfl⟩
    rw [HMK.out] at l1 l2 l4 hmem HTK
    rw [HR.out] at l1 l2 l3 l4
    simp only at l1 l2 l3 l4
    subst l1 l2
    have hil := HI.out m hmem
    have c0 : wr.cell? ⟨g, o + k * 2, none⟩ = some (.int .i64 m.size) := hc k (by omega) 0 _ (by rw [HR.out]; rfl)
    have c1 : wr.cell? ⟨g, o + k * 2 + 1, none⟩ = some (.slice rA m.ids.length rc) := hc k (by omega) 1 _ (by rw [HR.out]; rfl)
    have C1 := Lib.hid c1
    have HB : Hid (manE m ≠ 0 → errM ms = manE m) := fun h => by have := errM_at HE.out hlt (by rw [HMK.out]; exact h); rwa [HMK.out] at this
    have HZ : Hid (manE m = 0 → errM (ms.take (k + 1)) = 0) := fun h => by rw [take_snoc _ man0 _ hlt, errM_snoc _ _ HE.out, HMK.out]; exact h
    have HRD := Lib.hid l4
    have HCK := Lib.hid (rmanCheck_any _ m rA rc _ l4 hil)
    clear h1 h2 h3 hc l4 hmem
    go_wp2_with (go_at_call 127; (with_reducible refine HCK.out.mono ?_); refine halt_ ?_)
    rintro e w2 ⟨rfl, hb2⟩
    have S4 := Lib.hid (S2.out.on hb2)
    have HRD2 := Lib.hid (rd_top (HRD.out.on hb2))
    have d1 : w2.cell? ⟨g, o + k * 2 + 1, none⟩ = some (.slice rA m.ids.length rc) := B_cell hb2 hgB C1.out
    clear hb2 HCK S2 HRD c0 c1 C1
    by_cases hE : manE m = 0
    · have hle := manE_len hE
      have HE2 := Lib.hid (HZ.out hE)
      rw [hE]
      clear hE HB HZ
      go_wp2_with (at_builtin; (refine wpList_rowM (t := 38) (e := 31) (size := 2) (bytes := 16) (i := i1) S4.out 0 rfl (by rfl) (.tmp 25) (.tmp 30) (by rfl) Tryz.underlying38 gi gz0 gz1 gz2 rfl (by omega) (by rfl) rA m.ids.length rc (m.ids.flatMap encID) (by rfl) (flat_len encID_len m.ids) (rd_src HRD2.out) (encID_all m.ids) (by rw [List.length_append]; unfold maxLen; omega) (by rw [List.length_append]; omega) ?_); refine halt_ ?_)
      intro v4 w4 s4
      have S5 : Hid (SW b w0 (rowOb 31 2 v4 (pin ++ idsOf (ms.take (k + 1))).length ((pin ++ idsOf (ms.take (k + 1))).flatMap encID) :: l) w4) := by
       rw [Hid, HTK.out]
       simp only [List.flatMap_append, List.length_append, List.append_assoc, ← Nat.add_assoc]
       exact s4
      clear s4 S4 d1
      go_wp2_with fail
      go_roundw
      case rel => exact ⟨k + 1, by omega, by go_num, HE2, S5.out⟩
      case measure => simp [intOf]; omega
    · have HEM := Lib.hid (HB.out hE)
      have HN : Hid (errM ms ≠ 0) := by rw [Hid, HEM.out]; exact hE
      have hbe : (manE m != 0) = true := bne_iff_ne.2 hE
      clear hE HB HZ
      go_wp2_with fail
      go_ret2
      exact .inr ⟨HN.out, by rw [HEM.out]; rfl, S4.out.tail⟩
  · obtain rfl : k = ms.length := by omega
    have hT := HE.out
    rw [List.take_length] at hT hbig
    rw [List.take_length] at S2
    have HT := Lib.hid hT
    obtain ⟨xs, HXS⟩ : ∃ xs, Hid (pin ++ idsOf ms = xs) := ⟨_, rfl⟩
    have hxl : xs.length ≤ 1000000000 := by rw [← HXS.out, List.length_append]; omega
    rw [HXS.out] at S2
    obtain ⟨D, dc, rfl⟩ := own_slL (S2.out.get 0 rfl)
    have HSE := Lib.hid (rSet_any S2.out.rowRi D dc xs (by simp) hxl)
    clear hT S2 hbig
    go_wp2_with (go_at_call 128; (with_reducible refine HSE.out.mono ?_); refine halt_ ?_)
    rintro e w3 ⟨B, cb, rfl, s4⟩
    have S4 := Lib.hid s4
    clear s4 HSE
    go_wp2_with fail
    go_ret2
    refine .inl ⟨HT.out, B, cb, ?_, ?_⟩
    · rw [HXS.out]
      rfl
    · rw [HXS.out]
      exact S4.out.sub (List.Sublist.cons_cons _ (List.sublist_cons_self _ _))
end
end Go.Proofs.YteabgcollokgjaaGreatDoor
namespace Go.Proofs.YteabgcollokgjaaGreatDoor
open Go.RowKit Go.MapKept Go.ChangeMaps Go.Shelf Go.Sort
attribute [local go_sem] wext_cell

/-- Bytes in a buffer. -/
structure BS where
 d : BD
 bs : List UInt8
def bs0 : BS := ⟨⟨none, 0, 0⟩, []⟩
def encB (e : BS) : List Value := [.slice e.d.A e.d.len e.d.cap]
theorem encB_len (e : BS) : (encB e).length = 1 := rfl
/-- A list of byte strings that is read. -/
def blOb (A : Option Addr) (T : List BS) : Ob where
 own := fun _ => False
 rd := fun i => (0 < T.length ∧ A = some ⟨i, 0, none⟩) ∨ ∃ e ∈ T, blk e.d = some i
 holds := fun w => RowV w 34 1 A T.length (T.flatMap encB) ∧ ∀ e ∈ T, RB w e.d e.bs
 stable := fun w w' h hs hk => by
  refine ⟨h.1.same (fun i hn e => hk i (.inr (.inl ⟨hn, e⟩))), fun e he => ?_⟩
  have hc : Ch w w' (fun i => ¬ blk e.d = some i) [] := ⟨hs.1, hs.2.1, hs.2.2.1, hs.2.2.2, fun i _ hn _ => hk i (.inr (.inr ⟨e, he, Classical.not_not.1 hn⟩)), by simp⟩
  exact (h.2 e he).ch hc (fun g hg hn => hn hg) (by simp)
theorem blOb_at {w : World} {A : Option Addr} {T : List BS} (h : (blOb A T).holds w) {j : Nat} (hj : j < T.length) {e : BS} (he : T.getD j bs0 = e) : ∃ g, A = some ⟨g, 0, none⟩ ∧ g < w.heap.size ∧ w.cell? ⟨g, j, none⟩ = some (.slice e.d.A e.d.len e.d.cap) ∧ RB w e.d e.bs := by
 obtain ⟨g, e1, hlt, hc⟩ := h.1.at (by omega)
 refine ⟨g, e1, hlt, ?_, h.2 e ?_⟩
 · have := flat_at encB_len bs0 T j 0 hj (by omega)
   rw [he] at this
   rw [hc j (by omega)]
   simpa [encB] using this
 · rw [← he, List.getD_eq_getElem?_getD, List.getElem?_eq_getElem hj]
   exact List.getElem_mem hj
theorem SW.rowBl {b : Nat} {w0 w : World} {A : Option Addr} {c : Nat} {T : List BS} {t : List Ob} (h : SW b w0 (rowOb 34 1 (.slice A T.length c) T.length (T.flatMap encB) :: t) w) (hb : ∀ e ∈ T, RB w e.d e.bs) : RowV w 34 1 A T.length (T.flatMap encB) :=
 (RowV.of_own (h.get 0 (o := rowOb 34 1 (.slice A T.length c) T.length (T.flatMap encB)) rfl)).1
theorem info34 : (Tryz.prog.info? 34).map (fun i => (i.zero, i.size, i.bytes)) = some (some (.slice none 0 0), 1, 24) := by kernel_rfl
/-- Buffers of their own. -/
def bufsOb (T : List BS) : Ob where
 own := fun _ => False
 rd := fun i => ∃ e ∈ T, blk e.d = some i
 holds := fun w => ∀ e ∈ T, RB w e.d e.bs
 stable := fun w w' h hs hk e he => by
  have hc : Ch w w' (fun i => ¬ blk e.d = some i) [] := ⟨hs.1, hs.2.1, hs.2.2.1, hs.2.2.2, fun i _ hn _ => hk i (.inr ⟨e, he, Classical.not_not.1 hn⟩), by simp⟩
  exact (h e he).ch hc (fun g hg hn => hn hg) (by simp)
end Go.Proofs.YteabgcollokgjaaGreatDoor
namespace Go.Proofs.YteabgcollokgjaaGreatDoor
open Go.RowKit Go.MapKept Go.ChangeMaps Go.Shelf Go.Sort

section
variable {b : Nat} {w0 w w' : World} {l : List Ob}
theorem SW.fuseB {d : BD} {bs : List UInt8} {T : List BS} (h : SW b w0 (bufOb d bs :: bufsOb T :: l) w) : SW b w0 (bufsOb (T ++ [(⟨d, bs⟩ : BS)]) :: l) w :=
 SW.fuse (pre := [bufOb d bs, bufsOb T]) h (fun e he => by
  rcases List.mem_append.1 he with he | he
  · exact (h.get 1 (o := bufsOb T) rfl) e he
  · rw [List.mem_singleton.1 he]
    exact h.get 0 (o := bufOb d bs) rfl) (fun _ h => h) (fun i hi => by
  obtain ⟨e, he, hb⟩ := hi
  rcases List.mem_append.1 he with he | he
  · exact ⟨bufsOb T, by simp, .inr ⟨e, he, hb⟩⟩
  · rw [List.mem_singleton.1 he] at hb
    exact ⟨bufOb d bs, by simp, .inl hb⟩)
theorem SW.noBufs (h : SW b w0 l w) : SW b w0 (bufsOb [] :: l) w := SW.fuse (pre := []) h (fun e he => by cases he) (fun _ h => h) (fun i hi => by
 obtain ⟨e, he, _⟩ := hi
 cases he)
theorem SW.fuseL {A : Option Addr} {c : Nat} {T : List BS} (h : SW b w0 (rowOb 34 1 (.slice A T.length c) T.length (T.flatMap encB) :: bufsOb T :: l) w) : SW b w0 (blOb A T :: l) w := by
 have hb : ∀ e ∈ T, RB w e.d e.bs := h.get 1 (o := bufsOb T) rfl
 refine SW.fuse (pre := [rowOb 34 1 (.slice A T.length c) T.length (T.flatMap encB), bufsOb T]) h ⟨h.rowBl hb, hb⟩ (fun _ h => h) (fun i hi => ?_)
 rcases hi with ⟨hp, e⟩ | ⟨e, he, hb⟩
 · refine ⟨_, List.mem_cons_self .., .inl ?_⟩
   show (Value.slice A T.length c).ownBlock = some i
   rw [e]
   rfl
 · exact ⟨bufsOb T, by simp, .inr ⟨e, he, hb⟩⟩
end
end Go.Proofs.YteabgcollokgjaaGreatDoor
namespace Go.Proofs.YteabgcollokgjaaGreatDoor
open Go.RowKit Go.MapKept Go.ChangeMaps Go.Shelf Go.Sort

def lenS (T : List BS) : Nat := (T.map (·.bs.length)).sum
def idS (T : List BS) : List ID := T.map fun e => fpOf e.bs
theorem lenS_snoc (T : List BS) (e : BS) : lenS (T ++ [e]) = lenS T + e.bs.length := by simp [lenS]
theorem idS_snoc (T : List BS) (e : BS) : idS (T ++ [e]) = idS T ++ [fpOf e.bs] := by simp [idS]
theorem lenS_le {T : List BS} {B : Nat} (h : ∀ e ∈ T, e.bs.length ≤ B) : lenS T ≤ B * T.length := by
 induction T with
 | nil => simp [lenS]
 | cons e T ih =>
  have h1 := h e (by simp)
  have h2 := ih (fun e he => h e (by simp [he]))
  have : lenS (e :: T) = e.bs.length + lenS T := by simp [lenS]
  rw [this, List.length_cons, Nat.mul_succ]
  omega
theorem blOb_rb {w : World} {A : Option Addr} {T : List BS} (h : (blOb A T).holds w) {j : Nat} (hj : j < T.length) {e : BS} (he : T.getD j bs0 = e) : RB w e.d e.bs := by
 obtain ⟨_, _, _, _, h5⟩ := blOb_at h hj he
 exact h5
section
variable {b : Nat} {w0 w w' : World} {l : List Ob}
set_option maxRecDepth 100000 in
set_option maxHeartbeats 8000000 in
theorem rOfM_any (h : SW b w0 l w) {A : Option Addr} {T : List BS} (hA : blOb A T ∈ l) (c : Nat) (hn : T.length ≤ 100000) (hb : ∀ e ∈ T, e.bs.length ≤ 1000000) :
 Calls Tryz.prog 77 #[.slice A T.length c] w (fun e w' => ∃ v, e = .returned (.agg #[.int .i64 ((lenS T : Nat) : Int), v]) ∧ SW b w0 (rowOb 31 2 v T.length ((idS T).flatMap encID) :: l) w') := by
 have HA := Lib.hid hA
 have HB := Lib.hid hb
 have S0 := Lib.hid ((h.newCell 89 #[.int .i64 0, .slice none 0 0]).newCellAt 89 #[.int .i64 0, .slice none 0 0] (H := w.heap.size + 1) (by simp))
 clear h hA hb
 obtain ⟨i1, gi, gz0, gz1, gz2⟩ := info_parts info31
 obtain ⟨g2, HG2⟩ : ∃ g2, Hid (w.heap.size = g2) := ⟨_, rfl⟩
 obtain ⟨g3, HG3⟩ : ∃ g3, Hid (w.heap.size + 1 = g3) := ⟨_, rfl⟩
 obtain ⟨W1, HW1⟩ : ∃ W1, Hid ((w.alloc (.cells #[.int .i64 0, .slice none 0 0] 89)).alloc (.cells #[.int .i64 0, .slice none 0 0] 89) = W1) := ⟨_, rfl⟩
 have HN23 : Hid (g2 ≠ g3) := by rw [← HG2.out, ← HG3.out, Hid]; omega
 rw [HG3.out, HG2.out, HW1.out] at S0
 go_enter Tryz.func77, Tryz.ntmps77
 go_upto_region 2 with fail
 rw [HW1.out, HG3.out, HG2.out]
 clear HW1 HG2 HG3
 go_wp2_with fail
 go_loopw [4] (fun s4 wr => ∃ (k : Nat) (v : Value), k ≤ T.length ∧ s4 = .int .i64 (k : Int) ∧ SW b w0 (cellOb g3 89 #[.int .i64 ((lenS (T.take k) : Nat) : Int), v] :: rowOb 31 2 v k ((idS (T.take k)).flatMap encID) :: cellOb g2 89 #[.int .i64 0, .slice none 0 0] :: l) wr) (fun s4 _ => T.length - (intOf s4).toNat)
 case atStart => exact ⟨0, .slice none 0 0, Nat.zero_le _, rfl, SW.front (pre := [_, _, _]) (S0.out.newRow 31 2) [1, 0, 2] (n := 3) rfl (by decide)⟩
 case round =>
  obtain ⟨k, v, hk, rfl, hs⟩ := hrel
  have S1 := Lib.hid hs
  clear hs S0
  by_cases hlt : k < T.length
  · obtain ⟨e, HE⟩ : ∃ e, Hid (T.getD k bs0 = e) := ⟨_, rfl⟩
    have hmem : e ∈ T := by rw [← HE.out]; exact getD_mem _ _ _ hlt
    have hbl := HB.out e hmem
    have hll : lenS (T.take k) ≤ 1000000 * k := by
     have := lenS_le (T := T.take k) (B := 1000000) (fun e he => HB.out e (List.mem_of_mem_take he))
     rw [List.length_take] at this
     exact Nat.le_trans this (Nat.mul_le_mul_left _ (Nat.min_le_left _ _))
    obtain ⟨gA, hAe, _, a0, hrb⟩ := blOb_at (S1.out.1.holds (blOb A T) (by simp [HA.out])) hlt HE.out
    have HTS1 : Hid (lenS (T.take (k + 1)) = lenS (T.take k) + e.bs.length) := by rw [Hid, take_snoc _ bs0 _ hlt, lenS_snoc, HE.out]
    have HTS2 : Hid (idS (T.take (k + 1)) = idS (T.take k) ++ [fpOf e.bs]) := by rw [Hid, take_snoc _ bs0 _ hlt, idS_snoc, HE.out]
    obtain ⟨N, HN⟩ : ∃ N, Hid (lenS (T.take k) = N) := ⟨_, rfl⟩
    rw [HN.out] at S1 hll HTS1
    have hdl : e.d.len = e.bs.length := hrb.1.symm
    have hwr : IntKind.i64.wrap ((N : Int) + (e.bs.length : Int)) = (N : Int) + (e.bs.length : Int) := IntWalk.i64_in _ (by omega)
    have hki : (k : Int) < (T.length : Int) := by omega
    subst hAe
    rw [hdl] at a0
    have m0 := (S1.out.cell 0 rfl).cell 0
    have f0 := (S1.out.cell 0 rfl).frozen 0
    clear hmem hrb
    go_upto_region 5 with fail
    go_region
    have S2 := Lib.hid (S1.out.setAt 0 rfl 0 (.int .i64 ((N : Int) + (e.bs.length : Int)))).drew
    clear S1 m0 f0 a0
    generalize World.drew _ = W2 at S2 ⊢
    have S2 : Hid (SW b w0 (cellOb g3 89 #[.int .i64 ((lenS (T.take (k + 1)) : Nat) : Int), v] :: rowOb 31 2 v k ((idS (T.take k)).flatMap encID) :: cellOb g2 89 #[.int .i64 0, .slice none 0 0] :: l) W2) := by
     rw [Hid, HTS1.out, Int.natCast_add]
     exact S2.out
    obtain ⟨gA', hAe, _, a0, hrb⟩ := blOb_at (S2.out.1.holds (blOb (some ⟨gA, 0, none⟩) T) (by simp [HA.out])) hlt HE.out
    injection hAe with hAe
    injection hAe with hAe
    subst hAe
    rw [hdl] at a0
    clear hrb a0
    obtain ⟨i, HI⟩ : ∃ i, Hid (fpOf e.bs = i) := ⟨_, rfl⟩
    rw [HI.out] at HTS2
    obtain ⟨va, vc, rfl⟩ := own_slL (S2.out.get 1 rfl)
    have S3 := Lib.hid S2.out.drew
    clear S2
    go_upto_region 6 with fail
    have HC := Lib.hid (fun (w' : World) (va : Option Addr) (kk : Nat) (vc : Nat) (xs : List Value) (hS : SW b w0 (cellOb g3 89 #[.int .i64 ((lenS (T.take (k + 1)) : Nat) : Int), .slice va k vc] :: rowOb 31 2 (.slice va k vc) k xs :: cellOb g2 89 #[.int .i64 0, .slice none 0 0] :: l) w') => (show w'.cell? ⟨g3, 1, none⟩ = some (.slice va k vc) ∧ w'.cell? ⟨gA, k, none⟩ = some (.slice e.d.A e.bs.length e.d.cap) from ⟨(hS.cell 0 rfl).cell 1, by
     obtain ⟨gq, hq, _, a0, _⟩ := blOb_at (hS.1.holds (blOb (some ⟨gA, 0, none⟩) T) (by simp [HA.out])) hlt HE.out
     injection hq with hq
     injection hq with hq
     subst hq
     rw [hdl] at a0
     exact a0⟩))
    refine wp_region_held_tail [(0, true), (1, true), (2, true), (3, true), (4, true), (5, true), (6, false), (7, false), (8, false), (9, true)] (fun w' => w'.cell? ⟨g3, 1, none⟩ = some (.slice va k vc) ∧ w'.cell? ⟨gA, k, none⟩ = some (.slice e.d.A e.bs.length e.d.cap)) (by kernel_rfl) (fun _ _ d _ _ h => by cases d <;> exact h) (by kernel_rfl) (HC.out _ _ 0 _ _ S3.out) ?_
    simp only [picked, List.map_cons, List.map_nil, List.getD_cons_succ, List.getD_cons_zero]
    iterate 6
     (refine wpHeld_take (v := ?_) (Or.inl ⟨by rfl, ?_⟩) ?_
      rotate_left
      · (intro w' hSw; obtain ⟨h1, h2⟩ := hSw; go_simp; try with_reducible rfl)
      try simp only [Act.put, List.setIfInBounds_toArray, List.set])
    refine wpHeld_run (fun K hK => ?_)
    go_simp
    go_at_call 94
    refine (rOf_any e.d.A e.d.cap e.bs W2.drew (blOb_rb (S3.out.1.holds (blOb (some ⟨gA, 0, none⟩) T) (by simp [HA.out])) hlt HE.out).rs (by omega)).mono ?_
    rw [HI.out]
    rintro e2 W4 ⟨rfl, hb4⟩
    have S4 := Lib.hid (S3.out.on hb4)
    clear hb4 S3
    go_wp2_with fail
    refine hK.out _ _ (HC.out _ _ 0 _ _ S4.out) ?_
    clear hK K
    try simp only [Act.put, List.setIfInBounds_toArray, List.set]
    refine wpHeld_run (fun K hK => ?_)
    go_simp
    refine hK.out _ _ (HC.out _ _ 0 _ _ (S4.out.alloc _)) ?_
    clear hK K
    try simp only [Act.put, List.setIfInBounds_toArray, List.set]
    refine wpHeld_run (fun K hK => ?_)
    refine step_rowS (t := 38) (e := 31) (size := 2) (bytes := 16) (i := i1) (S4.out.alloc _) 1 rfl (by rfl) (.tmp 21) (.tmp 27) (by rfl) Tryz.underlying38 gi gz0 gz1 gz2 rfl (by omega) (by rfl) ⟨W4.heap.size, 0, none⟩ 1 [.int .u64 i.1, .int .i64 i.2] (by rfl) rfl (two_new W4 _ _ 31 _ rfl) (encID_one i) (by unfold maxLen; omega) (by omega) ?_
    intro v8 W8 s8
    obtain ⟨g8, c8, rfl⟩ := own_some (s8.get 1 rfl) (by omega)
    have S8 : Hid (SW b w0 (cellOb g3 89 #[.int .i64 ((lenS (T.take (k + 1)) : Nat) : Int), .slice va k vc] :: rowOb 31 2 (.slice (some ⟨g8, 0, none⟩) (k + 1) c8) (k + 1) ((idS (T.take (k + 1))).flatMap encID) :: cellOb g2 89 #[.int .i64 0, .slice none 0 0] :: l) W8) := by
     rw [Hid, HTS2.out, List.flatMap_append]
     exact s8
    refine hK.out _ _ ⟨(S8.out.cell 0 rfl).cell 1, by
     obtain ⟨gq, hq, _, a0, _⟩ := blOb_at (S8.out.1.holds (blOb (some ⟨gA, 0, none⟩) T) (by simp [HA.out])) hlt HE.out
     injection hq with hq
     injection hq with hq
     subst hq
     rw [hdl] at a0
     exact a0⟩ ?_
    clear hK K s8 S4 HC
    try simp only [Act.put, List.setIfInBounds_toArray, List.set]
    (refine wpHeld_take (v := ?_) (Or.inl ⟨by rfl, ?_⟩) ?_
     rotate_left
     · (intro w' hSw; obtain ⟨h1, h2⟩ := hSw; go_simp; try with_reducible rfl)
     try simp only [Act.put, List.setIfInBounds_toArray, List.set])
    refine wpHeld_nil ?_
    simp only [List.length_cons, List.length_nil, List.drop_succ_cons, List.drop_zero]
    have k1 := (S8.out.cell 0 rfl).cell 1
    have f1 := (S8.out.cell 0 rfl).frozen 1
    have S9 : Hid (SW b w0 (cellOb g3 89 #[.int .i64 ((lenS (T.take (k + 1)) : Nat) : Int), .slice (some ⟨g8, 0, none⟩) (k + 1) c8] :: rowOb 31 2 (.slice (some ⟨g8, 0, none⟩) (k + 1) c8) (k + 1) ((idS (T.take (k + 1))).flatMap encID) :: cellOb g2 89 #[.int .i64 0, .slice none 0 0] :: l) _) := Lib.hid (S8.out.setAt 0 rfl 1 (.slice (some ⟨g8, 0, none⟩) (k + 1) c8))
    go_wp2_with fail
    go_roundw
    case rel => exact ⟨k + 1, _, by omega, by go_num, S9.out⟩
    case measure => simp [intOf]; omega
  · obtain rfl : k = T.length := by omega
    rw [List.take_length] at S1
    obtain ⟨va, vc, rfl⟩ := own_slL (S1.out.get 1 rfl)
    have m0 := (S1.out.cell 0 rfl).cell 0
    have m1 := (S1.out.cell 0 rfl).cell 1
    have n0 := (S1.out.cell 2 rfl).cell 0
    have n1 := (S1.out.cell 2 rfl).cell 1
    have f0 := (S1.out.cell 2 rfl).frozen 0
    have f1 := (S1.out.cell 2 rfl).frozen 1
    have hn23 := HN23.out
    have S2 := Lib.hid ((S1.out.setAt 2 rfl 0 (.int .i64 ((lenS T : Nat) : Int))).setAt 2 rfl 1 (.slice va T.length vc))
    obtain ⟨N, HN⟩ : ∃ N, Hid (lenS T = N) := ⟨_, rfl⟩
    rw [HN.out] at m0 S2
    clear S1
    go_upto_region 7 with fail
    go_wp2_with fail
    generalize (wr.setCell ⟨g2, 0, none⟩ (.int .i64 ((N : Nat) : Int))).setCell ⟨g2, 1, none⟩ (.slice va T.length vc) = WF at S2 ⊢
    have q0 := (S2.out.cell 2 rfl).cell 0
    have q1 := (S2.out.cell 2 rfl).cell 1
    refine bodyPost_ret (v := .agg #[.int .i64 ((N : Nat) : Int), .slice va T.length vc]) ?_ rfl ?_
    · simp [results, Tryz.results77, go_sem, q0, q1]
    · exact ⟨_, by rw [HN.out], SW.few (pre := [_, _, _]) S2.out [1] (n := 3) rfl (by decide) (by decide)⟩
end
end Go.Proofs.YteabgcollokgjaaGreatDoor
