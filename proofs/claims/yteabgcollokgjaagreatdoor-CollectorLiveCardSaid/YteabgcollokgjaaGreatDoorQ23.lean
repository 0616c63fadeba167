/- PL PV in one text. -/
import Derived.Test.YteabgcollokgjaaGreatDoorQ22
import Derived.Test.YteabgcollokgjaaGreatDoorQ17
set_option linter.unusedSimpArgs false
set_option linter.unusedVariables false
namespace Go.Proofs.YteabgcollokgjaaGreatDoor
open Go.RowKit Go.MapKept Go.ChangeMaps Go.Shelf Go.Sort

theorem okU_okW {n : Int} (h : okW n = true) : okU n = true := by
 unfold okW at h
 unfold okU
 simp only [Bool.or_eq_true, Bool.and_eq_true, decide_eq_true_eq, beq_iff_eq] at *
 omega
theorem nameB_file {nm : ByteArray} (h : nameV nm = true) : nameB (fileN nm) = true := by
 unfold nameV okN_ at h
 simp only [Bool.and_eq_true, decide_eq_true_eq, List.all_eq_true] at h
 obtain ⟨⟨h1, h2⟩, h3⟩ := h
 have e : (fileN nm).data.toList = nm.data.toList ++ [46, 49] := by simp [fileN]
 have es : (fileN nm).size = nm.size + 2 := by
  unfold fileN
  rw [ByteArray.size_append, ByteArray.size_append]
  rfl
 unfold nameB okL
 rw [e, es, List.all_append]
 simp only [Bool.and_eq_true, decide_eq_true_eq, List.all_eq_true]
 exact ⟨⟨by omega, by omega⟩, fun c hc => okU_okW (h3 c hc), by decide⟩
theorem cutB_more {D : List UInt8} {i : ID} {o : Nat} (h : o + 28 + i.2.toNat ≤ D.length) (E : List UInt8) : cutB (D ++ E) i o = cutB D i o := by
 unfold cutB
 rw [List.drop_append_of_le_length (by omega), List.take_append_of_le_length (by simp; omega)]
theorem len_le_sub {α : Type} [DecidableEq α] : ∀ (L M : List α), L.Nodup → (∀ a ∈ L, a ∈ M) → L.length ≤ M.length := by
 intro L
 induction L with
 | nil => intro M _ _; simp
 | cons a L ih =>
  intro M hn hs
  rw [List.nodup_cons] at hn
  have ha := hs a (List.mem_cons_self ..)
  have h1 := ih (M.erase a) hn.2 (fun c hc => (List.mem_erase_of_ne (fun e => hn.1 (by rw [← e]; exact hc))).2 (hs c (List.mem_cons_of_mem _ hc)))
  rw [List.length_erase_of_mem ha] at h1
  have := List.length_pos_of_mem ha
  simp only [List.length_cons]
  omega
def sizeC (C : Chs) : Int := ((C.map (·.1)).map (·.2)).sum
theorem setL_same {α β : Type} [DecidableEq α] {L : List (α × β)} {a : α} (v : β) (h : a ∈ L.map (·.1)) : (setL L a v).map (·.1) = L.map (·.1) := by
 induction L with
 | nil => cases h
 | cons c L ih =>
  unfold setL
  split
  · rename_i e
    simp [e]
  · rename_i e
    rw [List.map_cons] at h
    rcases List.mem_cons.1 h with h1 | h1
    · exact absurd h1.symm e
    · simp [ih h1]
theorem updAll_same (C : Chs) (done : Chs) (h : ∀ c ∈ done, c.1 ∈ C.map (·.1)) : (updAll C done).map (·.1) = C.map (·.1) := by
 induction done generalizing C with
 | nil => rfl
 | cons c done ih =>
  have e := setL_same c.2 (h c (List.mem_cons_self ..))
  exact (ih (setL C c.1 c.2) (fun d hd => by rw [e]; exact h d (List.mem_cons_of_mem _ hd))).trans e
/-- What a chunk's bytes are. -/
def valC (x : SR) (i : ID) : Option (List UInt8) := (asc x.C i).bind (readC x.s x.nm i)
/-- A store whose file is whole, on a device with no fuse; ns are the names of files. -/
structure Cl (ns : List ByteArray) (x : SR) : Prop extends WH x where
 keys : (x.C.map (·.1)).Nodup
 f0 : x.s.f = 0
 nv : nameV x.nm = true
 ns1 : fileN x.nm ∈ ns
 ns2 : ns.length ≤ 200
 ns3 : ∀ m, (x.s.now m).isSome = true → m ∈ ns
 no : x.F = none → x.s.now (fileN x.nm) = none ∧ ∀ i o, (i, Pl.at o) ∉ x.C
 file : ∀ f, x.F = some f → f.T = [] ∧ ∃ D, x.s.now (fileN x.nm) = some D ∧ D.length = f.len ∧ ∀ i o, (i, Pl.at o) ∈ x.C → cutOk D i o = true
 len : flen x.F ≤ 1048576
 waits : x.wait = ((Go.Proofs.YteabgcollokgjaaGreatDoor.pends x.C).length : Int)
 pA : ∀ i d bs, (i, Pl.pend d bs) ∈ x.C → d.A.isSome = true ∧ bs ≠ []
 size : x.bytes = sizeC x.C
 frames : entSum (durs x.C) ≤ flen x.F
theorem sizeC_le : ∀ (C : Chs), (∀ c ∈ C, 1 ≤ c.1.2 ∧ c.1.2 ≤ 8192) → 0 ≤ sizeC C ∧ sizeC C ≤ C.length * 8192 := by
 intro C
 induction C with
 | nil => intro _; simp [sizeC]
 | cons c C ih =>
  intro h
  have h1 := ih (fun d hd => h d (List.mem_cons_of_mem _ hd))
  have h2 := h c (List.mem_cons_self ..)
  have h3 : sizeC (c :: C) = c.1.2 + sizeC C := by simp [sizeC]
  rw [h3, List.length_cons]
  omega
theorem cutOk_len {D : List UInt8} {i : ID} {o : Nat} (h : cutOk D i o = true) : fpOf (cutB D i o) = i ∧ (0 ≤ i.2 → o + 28 + i.2.toNat ≤ D.length) := by
 unfold cutOk at h
 simp only [Bool.and_eq_true, decide_eq_true_eq] at h
 exact ⟨h.2, fun h0 => by omega⟩
theorem Cl.cnt {ns : List ByteArray} {x : SR} (h : Cl ns x) {n : Nat} (hn : Cnt x.s.now n) : n ≤ 200 := by
 obtain ⟨L, h1, h2, rfl⟩ := hn
 exact Nat.le_trans (len_le_sub L ns h1 (fun a ha => h.ns3 a ((h2 a).1 ha))) h.ns2
theorem sync_ok {s : St} (hd : s.dn = false) (hf : s.f = 0) : syncE s = 0 ∧ syncS s = ⟨s.now, [], false, 0⟩ := by
 simp [syncE, syncS, hd, hf, burnF]
theorem now_add (s : St) (o : POp) : St.now { s with ops := s.ops ++ [o] } = applyF s.now o := by simp [St.now]
theorem asc_key {α β : Type} [DecidableEq α] {L : List (α × β)} {a : α} : (asc L a).isSome = true ↔ a ∈ L.map (·.1) := by
 constructor
 · intro h
   obtain ⟨v, hv⟩ := Option.isSome_iff_exists.1 h
   exact List.mem_map.2 ⟨_, mem_of_asc hv, rfl⟩
 · intro h
   cases ha : asc L a with
   | some v => rfl
   | none =>
    exfalso
    obtain ⟨c, hc, rfl⟩ := List.mem_map.1 h
    have : ∀ (L : List (α × β)), c ∈ L → asc L c.1 ≠ none := by
     intro L
     induction L with
     | nil => intro h; cases h
     | cons d L ih =>
      intro h
      unfold asc
      split
      · simp
      · rename_i hne
        rcases List.mem_cons.1 h with rfl | h
        · exact absurd rfl hne
        · exact ih h
    exact this L hc ha
theorem read_at {s : St} {nm : ByteArray} {D : List UInt8} {i : ID} {o : Nat} (hd : s.dn = false) (hn : nameV nm = true) (hv : s.now (fileN nm) = some D) (hc : cutOk D i o = true) : readC s nm i (.at o) = some (cutB D i o) := by
 obtain ⟨e1, e2⟩ := readE_ok hd (nameB_file hn) hv
 unfold readC
 rw [e1, e2]
 simp [hc]
/-- A chunk is put. -/
theorem put_cl {ns : List ByteArray} {x : SR} (h : Cl ns x) {bs : List UInt8} {d : BD} (hA : d.A.isSome = true) (h1 : 1 ≤ bs.length) (h2 : bs.length ≤ 8192) (ha : asc x.C (fpOf bs) = none) (hc : x.C.length < 4096) : Cl ns (putS x (fpOf bs) d bs) := by
 have hnk : ∀ c ∈ x.C, c.1 ≠ fpOf bs := fun c hc e => by
  have := asc_mem h.keys hc
  rw [e, ha] at this
  cases this
 have eC : setL x.C (fpOf bs) (.pend d bs) = x.C ++ [(fpOf bs, .pend d bs)] := setL_none hnk _
 have hin : ∀ c ∈ setL x.C (fpOf bs) (.pend d bs), c ∈ x.C ∨ c = (fpOf bs, .pend d bs) := fun c hc => by
  rw [eC] at hc
  rcases List.mem_append.1 hc with hc | hc
  · exact .inl hc
  · exact .inr (by simpa using hc)
 have e2 : (fpOf bs).2 = (bs.length : Int) := rfl
 exact {
  live := h.live
  up := h.up
  name := h.name
  few := by
   simp only [putS, eC, List.length_append, List.length_cons, List.length_nil]
   omega
  ids := fun c hc => by
   rcases hin c hc with hc | rfl
   · exact h.ids c hc
   · simp only [e2]; omega
  offs := fun i o hc => by
   rcases hin _ hc with hc | hc
   · exact h.offs i o hc
   · cases hc
  pends := fun i d' bs' hc => by
   rcases hin _ hc with hc | hc
   · exact h.pends i d' bs' hc
   · cases hc; exact h2
  whole := h.whole
  own := fun i d' bs' hc => by
   rcases hin _ hc with hc | hc
   · exact h.own i d' bs' hc
   · cases hc; exact ⟨rfl, h2⟩
  ops := h.ops
  files := h.files
  ids8 := fun c hc => by
   rcases hin c hc with hc | rfl
   · exact h.ids8 c hc
   · simp only [e2]; omega
  wait0 := by
   have := h.wait0
   simp only [putS]
   omega
  wait1 := by
   have h3 := h.waits
   have : (Go.Proofs.YteabgcollokgjaaGreatDoor.pends x.C).length ≤ x.C.length := by unfold Go.Proofs.YteabgcollokgjaaGreatDoor.pends; rw [List.length_map]; exact List.length_filter_le _ _
   simp only [putS]
   omega
  keys := setL_nodup h.keys _ _
  f0 := h.f0
  nv := h.nv
  ns1 := h.ns1
  ns2 := h.ns2
  ns3 := h.ns3
  no := fun hF => ⟨(h.no hF).1, fun i o hc => by
   rcases hin _ hc with hc | hc
   · exact (h.no hF).2 i o hc
   · cases hc⟩
  file := fun f hF => by
   obtain ⟨k1, D, k2, k3, k4⟩ := h.file f hF
   exact ⟨k1, D, k2, k3, fun i o hc => by
    rcases hin _ hc with hc | hc
    · exact k4 i o hc
    · cases hc⟩
  len := h.len
  waits := by
   have h3 := h.waits
   have e : Go.Proofs.YteabgcollokgjaaGreatDoor.pends (setL x.C (fpOf bs) (.pend d bs)) = Go.Proofs.YteabgcollokgjaaGreatDoor.pends x.C ++ [fpOf bs] := by
    rw [eC]
    unfold Go.Proofs.YteabgcollokgjaaGreatDoor.pends
    rw [List.filter_append, List.map_append]
    simp [Pl.A, hA]
   simp only [putS, e, List.length_append, List.length_cons, List.length_nil]
   omega
  pA := fun i d' bs' hc => by
   rcases hin _ hc with hc | hc
   · exact h.pA i d' bs' hc
   · cases hc
     exact ⟨hA, fun e => by rw [e] at h1; simp at h1⟩
  size := by
   have h3 := h.size
   have e : sizeC (setL x.C (fpOf bs) (.pend d bs)) = sizeC x.C + bs.length := by
    rw [eC]
    unfold sizeC
    simp [e2]
   simp only [putS]
   rw [e, h3]
  frames := by
   have h3 := h.frames
   have e : durs (setL x.C (fpOf bs) (.pend d bs)) = durs x.C := by
    rw [eC, durs_app]
    simp [durs]
   simp only [putS]
   rw [e]
   exact h3 }
theorem rb_some {w : World} {d : BD} {bs : List UInt8} (h : RB w d bs) (h1 : 1 ≤ bs.length) : d.A.isSome = true := by
 obtain ⟨a, b, c, _⟩ := h
 cases hA : d.A with
 | some _ => rfl
 | none => have := c hA; omega
/-- A store on an empty device. -/
theorem opened_cl {p H : Nat} {r : Rp} {s : St} {nm : ByteArray} {ns : List ByteArray} (hn : nameV nm = true) (hd : s.dn = false) (hf : s.f = 0) (he : ∀ m, s.now m = none) (ho : s.ops.length ≤ 900000) (h1 : fileN nm ∈ ns) (h2 : ns.length ≤ 200) : Cl ns (openedS p r s nm H) where
 live := rfl
 up := hd
 name := by have := nameV_size hn; simp only [openedS]; omega
 few := by simp [openedS]
 ids := fun c hc => by cases hc
 offs := fun i o hc => by cases hc
 pends := fun i d bs hc => by cases hc
 whole := fun f hf => by cases hf
 own := fun i d bs hc => by cases hc
 ops := ho
 files := fun n hn => by
  obtain ⟨L, k1, k2, rfl⟩ := hn
  cases L with
  | nil => simp
  | cons m L =>
   have := (k2 m).1 (List.mem_cons_self ..)
   simp only [openedS] at this
   rw [he] at this
   cases this
 ids8 := fun c hc => by cases hc
 wait0 := by simp [openedS]
 wait1 := by simp [openedS]
 keys := by simp [openedS]
 f0 := hf
 nv := hn
 ns1 := h1
 ns2 := h2
 ns3 := fun m hm => by
  simp only [openedS] at hm
  rw [he] at hm
  cases hm
 no := fun _ => ⟨he _, fun i o hc => by cases hc⟩
 file := fun f hf => by cases hf
 len := by simp [openedS, flen]
 waits := by simp [openedS, Go.Proofs.YteabgcollokgjaaGreatDoor.pends]
 pA := fun i d bs hc => by cases hc
 size := rfl
 frames := by simp [openedS, durs, entSum]
end Go.Proofs.YteabgcollokgjaaGreatDoor
namespace Go.Proofs.YteabgcollokgjaaGreatDoor
open Go.RowKit Go.MapKept Go.ChangeMaps Go.Shelf Go.Sort

theorem rfold_keys (D : List UInt8) (C : Chs) (ys : List Ent) : (∀ c ∈ (rfold D [] ys).1, ∃ o, c.2 = Pl.at o) ∧ ∀ i, i ∈ ((rfold D [] ys).1.map (·.1)) ↔ i ∈ ys.map (·.1) := by
 obtain ⟨h1, h2, _⟩ := nfold_keys D C ys []
 exact ⟨h1, fun i => (h2 i).trans (by simp)⟩
theorem rfold_nodup (D : List UInt8) (ys : List Ent) : ((rfold D [] ys).1.map (·.1)).Nodup := by
 have : ∀ (ys : List Ent) (p : Chs × List UInt8), (p.1.map (·.1)).Nodup → ((ys.foldl (rstep D) p).1.map (·.1)).Nodup := by
  intro ys
  induction ys with
  | nil => intro p hp; exact hp
  | cons y ys ih => intro p hp; exact ih _ (setL_nodup hp _ _)
 exact this ys ([], []) List.nodup_nil
/-- Where the chunks that stay lie then. -/
theorem rfold_at (D : List UInt8) (Y : List Ent) (h : ∀ y ∈ Y, 0 ≤ y.1.2 ∧ (y.2 : Int) + 28 + y.1.2 ≤ D.length) : ∀ c ∈ (rfold D [] Y).1, ∃ y ∈ Y, y.1 = c.1 ∧ ∃ o, c.2 = Pl.at o ∧ cutB (rfold D [] Y).2 c.1 o = cutB D c.1 y.2 ∧ o + 28 + c.1.2.toNat ≤ (rfold D [] Y).2.length := by
 have : ∀ (ys : List Ent) (p : Chs × List UInt8), (∀ y ∈ ys, y ∈ Y) → (∀ c ∈ p.1, ∃ y ∈ Y, y.1 = c.1 ∧ ∃ o, c.2 = Pl.at o ∧ cutB p.2 c.1 o = cutB D c.1 y.2 ∧ o + 28 + c.1.2.toNat ≤ p.2.length) →
  ∀ c ∈ (ys.foldl (rstep D) p).1, ∃ y ∈ Y, y.1 = c.1 ∧ ∃ o, c.2 = Pl.at o ∧ cutB (ys.foldl (rstep D) p).2 c.1 o = cutB D c.1 y.2 ∧ o + 28 + c.1.2.toNat ≤ (ys.foldl (rstep D) p).2.length := by
  intro ys
  induction ys with
  | nil => intro p _ hp; exact hp
  | cons y ys ih =>
   intro p hY hp
   rw [List.foldl_cons]
   refine ih _ (fun z hz => hY z (List.mem_cons_of_mem _ hz)) (fun c hc => ?_)
   have hyY := hY y (List.mem_cons_self ..)
   obtain ⟨h0, hl⟩ := h y hyY
   have hcl := cutB_len h0 hl
   have e2 : (rstep D p y).2 = p.2 ++ headB y.1 1 (0 + p.2.length) ++ cutB D y.1 y.2 := rfl
   have hc' : c ∈ setL p.1 y.1 (Pl.at (0 + p.2.length)) := hc
   rw [e2]
   rcases setL_memG hc' with rfl | hc'
   · refine ⟨y, hyY, rfl, 0 + p.2.length, rfl, ?_, ?_⟩
     · show List.take y.1.2.toNat (List.drop (0 + p.2.length + 28) (p.2 ++ headB y.1 1 (0 + p.2.length) ++ cutB D y.1 y.2)) = _
       rw [List.drop_left' (by simp [headB_len]), List.take_of_length_le (by omega)]
     · simp only [List.length_append, headB_len, hcl]
       omega
   · obtain ⟨z, hz, e, o, h1, h2, h3⟩ := hp c hc'
     refine ⟨z, hz, e, o, h1, ?_, ?_⟩
     · rw [List.append_assoc, cutB_more h3, h2]
     · simp only [List.length_append]
       omega
 exact this Y ([], []) (fun _ h => h) (fun c hc => by cases hc)
theorem frSum_sub : ∀ (A B : List ID), A.Nodup → (∀ a ∈ A, a ∈ B) → frSum A ≤ frSum B := by
 intro A
 induction A with
 | nil => intro B _ _; simp [frSum]
 | cons a A ih =>
  intro B hn hs
  rw [List.nodup_cons] at hn
  have ha := hs a (List.mem_cons_self ..)
  have h1 := ih (B.erase a) hn.2 (fun c hc => (List.mem_erase_of_ne (fun e => hn.1 (by rw [← e]; exact hc))).2 (hs c (List.mem_cons_of_mem _ hc)))
  have h2 := frSum_perm (List.perm_cons_erase ha)
  have e1 : frSum (a :: A) = 28 + a.2.toNat + frSum A := by simp [frSum]
  have e2 : frSum (a :: B.erase a) = 28 + a.2.toNat + frSum (B.erase a) := by simp [frSum]
  omega
theorem entSum_keys (ys : List Ent) : entSum ys = frSum (ys.map (·.1)) := by simp [entSum, frSum, Function.comp_def]
theorem durs_sub (C : Chs) : ((durs C).map (·.1)).Sublist (C.map (·.1)) := by
 induction C with
 | nil => exact List.Sublist.refl _
 | cons c C ih =>
  obtain ⟨i, pl⟩ := c
  cases pl with
  | pend d bs => exact ih.cons _
  | «at» o => exact ih.cons_cons _
theorem durs_nil {C : Chs} (h : ∀ i o, (i, Pl.at o) ∉ C) : durs C = [] := by
 cases hd : durs C with
 | nil => rfl
 | cons y L => exact absurd (durs_mem (C := C) (y := y) (by rw [hd]; simp)) (h _ _)
theorem durs_uniq {C : Chs} (hn : (C.map (·.1)).Nodup) {i : ID} {o p : Nat} (h1 : (i, Pl.at o) ∈ C) (h2 : (i, Pl.at p) ∈ C) : o = p := by
 have e1 := asc_mem hn h1
 have e2 := asc_mem hn h2
 rw [e1] at e2
 injection e2 with e2
 injection e2
theorem pends_setAt {a : ID} {o : Nat} : ∀ (C : Chs), (∃ p, asc C a = some (Pl.at p)) → pends (setL C a (Pl.at o)) = pends C := by
 intro C
 induction C with
 | nil => rintro ⟨p, h⟩; cases h
 | cons c C ih =>
  rintro ⟨p, h⟩
  obtain ⟨i, pl⟩ := c
  unfold asc at h
  unfold setL
  by_cases e : i = a
  · rw [if_pos e] at h ⊢
    injection h with h
    simp only at h
    subst h
    unfold pends
    rw [List.filter_cons, List.filter_cons, if_neg (by simp [Pl.A]), if_neg (by simp [Pl.A])]
  · rw [if_neg e] at h ⊢
    have := ih ⟨p, h⟩
    unfold pends at this ⊢
    rw [List.filter_cons, List.filter_cons]
    by_cases hA : pl.A.isSome = true
    · simp only [if_pos hA, List.map_cons, this]
    · simp only [if_neg hA]
      exact this
theorem pends_updAll : ∀ (mv : Chs) (C : Chs), (∀ c ∈ mv, (∃ o, c.2 = Pl.at o) ∧ ∃ p, asc C c.1 = some (Pl.at p)) → pends (updAll C mv) = pends C := by
 intro mv
 induction mv with
 | nil => intro C _; rfl
 | cons c mv ih =>
  intro C h
  obtain ⟨⟨o, ho⟩, hp⟩ := h c (List.mem_cons_self ..)
  show pends (updAll (setL C c.1 c.2) mv) = _
  rw [ho, ih _ (fun d hd => ?_), pends_setAt C hp]
  obtain ⟨h1, h2⟩ := h d (List.mem_cons_of_mem _ hd)
  refine ⟨h1, ?_⟩
  rw [asc_setL]
  by_cases e : c.1 = d.1
  · rw [if_pos e]; exact ⟨o, rfl⟩
  · rw [if_neg e]; exact h2
theorem nameB_fresh {nm : ByteArray} (h : nameV nm = true) : nameB (freshN nm) = true := by
 unfold nameV okN_ at h
 simp only [Bool.and_eq_true, decide_eq_true_eq, List.all_eq_true] at h
 obtain ⟨⟨h1, h2⟩, h3⟩ := h
 have e : (freshN nm).data.toList = nm.data.toList ++ [46, 110, 101, 119] := by simp [freshN]
 have es : (freshN nm).size = nm.size + 4 := by
  unfold freshN
  rw [ByteArray.size_append]
  rfl
 unfold nameB okL
 rw [e, es, List.all_append]
 simp only [Bool.and_eq_true, decide_eq_true_eq, List.all_eq_true]
 exact ⟨⟨by omega, by omega⟩, fun c hc => okU_okW (h3 c hc), by decide⟩
theorem fresh_ne (nm : ByteArray) : freshN nm ≠ fileN nm := fun e => by
 have : (freshN nm).size = (fileN nm).size := by rw [e]
 unfold freshN fileN at this
 rw [ByteArray.size_append, ByteArray.size_append, ByteArray.size_append] at this
 have e1 : (⟨#[46, 110, 101, 119]⟩ : ByteArray).size = 4 := rfl
 have e2 : (⟨#[46]⟩ : ByteArray).size = 1 := rfl
 have e3 : (⟨#[49]⟩ : ByteArray).size = 1 := rfl
 omega
/-- The two operations are done. -/
theorem rq_ok {s : St} {nm : ByteArray} {n1 n2 : Nat} {bs : List UInt8} (hd : s.dn = false) (hf : s.f = 0) (hv : nameV nm = true) (hn : n1 ≤ 200) (hb : bs.length ≤ 1048576) :
 rqE s nm n1 n2 bs = 0 ∧ rqS s nm n1 n2 bs = { s with ops := s.ops ++ [crOp nm bs] ++ [rnOp nm] } := by
 obtain ⟨a1, a2⟩ := req_ok (gate_create hd (nameB_fresh hv) (by omega) (.inr (by omega)) : gate s n1 (crOp nm bs) = 0) hf
 have hnow : (St.now { s with ops := s.ops ++ [crOp nm bs] }) (freshN nm) = some bs := by
  rw [now_add]
  simp [applyF, FF.set]
 have hg : gate { s with ops := s.ops ++ [crOp nm bs] } n2 (rnOp nm) = 0 := by
  have h1 : nameB (freshN nm) = true := nameB_fresh hv
  have h2 : nameB (fileN nm) = true := nameB_file hv
  show (if s.dn then (303 : Int) else if nameB (freshN nm) && nameB (fileN nm) then (if (St.now { s with ops := s.ops ++ [crOp nm bs] } (freshN nm)).isSome then 0 else 301) else 300) = 0
  rw [hnow, h1, h2, hd]
  rfl
 obtain ⟨b1, b2⟩ := req_ok hg hf
 unfold rqE rqS
 rw [if_pos a1, if_pos a1, a2, b1, b2]
 exact ⟨rfl, rfl⟩
/-- The files after that. -/
theorem rn_now (s : St) (nm : ByteArray) (bs : List UInt8) (m : ByteArray) : St.now { s with ops := s.ops ++ [crOp nm bs] ++ [rnOp nm] } m = if freshN nm = m then none else if fileN nm = m then some bs else s.now m := by
 have h1 := now_add { s with ops := s.ops ++ [crOp nm bs] } (rnOp nm)
 have h2 := now_add s (crOp nm bs)
 simp only at h1
 rw [h1, h2]
 have hne := fresh_ne nm
 simp only [applyF, if_neg hne, FF.set]
 by_cases e : freshN nm = m
 · simp [e]
 · by_cases e2 : fileN nm = m
   · have e3 : ¬ freshN nm = fileN nm := hne
     subst e2
     simp [e3]
   · simp [e, e2]
end Go.Proofs.YteabgcollokgjaaGreatDoor
