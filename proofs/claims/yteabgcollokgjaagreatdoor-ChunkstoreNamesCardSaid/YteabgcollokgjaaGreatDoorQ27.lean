/- RH in one text. -/
import Derived.Test.YteabgcollokgjaaGreatDoorQ23
import Derived.Test.YteabgcollokgjaaGreatDoorQ26
namespace Go.Proofs.YteabgcollokgjaaGreatDoor
open Go.RowKit Go.MapKept Go.ChangeMaps Go.Shelf Go.Sort

/-- What the durable part of Remove leaves of a store. -/
inductive After (x : SR) (G : List (ID × Bool)) : SR → Prop where
  | none : anyAt x.C G = false → After x G x
  | del (n : Nat) (r : Rp) : anyAt x.C G = true → Cnt x.s.now n → reqE x.s n (delOp x.nm) = 0 → syncE (reqS x.s n (delOp x.nm)) = 0 → (∀ ys : List Ent, ys.Perm (durs x.C) → stays G ys = []) → After x G { x with r := r, s := syncS (reqS x.s n (delOp x.nm)), F := Option.none }
  | ren (n1 n2 : Nat) (r : Rp) (ys : List Ent) (done : Chs) (f : FR) : anyAt x.C G = true → ys.Perm (durs x.C) → ys.Pairwise (fun a b => a.2 ≤ b.2) → stays G ys ≠ [] → Cnt x.s.now n1 → Cnt (reqS x.s n1 (crOp x.nm (rfold (readB x.s (fileN x.nm)) [] (stays G ys)).2)).now n2 →
      rqE x.s x.nm n1 n2 (rfold (readB x.s (fileN x.nm)) [] (stays G ys)).2 = 0 → syncE (rqS x.s x.nm n1 n2 (rfold (readB x.s (fileN x.nm)) [] (stays G ys)).2) = 0 → done.Perm (rfold (readB x.s (fileN x.nm)) [] (stays G ys)).1 → f.len = entSum (stays G ys) → f.clean = true → f.T = [] →
      After x G { x with r := r, s := syncS (rqS x.s x.nm n1 n2 (rfold (readB x.s (fileN x.nm)) [] (stays G ys)).2), C := updAll x.C done, wait := x.wait - pdN x.C done, F := some f }
/-- What it leaves when the device refuses. -/
inductive Fails (x : SR) (G : List (ID × Bool)) : Int → SR → Prop where
  | req (n : Nat) (r : Rp) (E : Int) : anyAt x.C G = true → Cnt x.s.now n → E = reqE x.s n (delOp x.nm) → E ≠ 0 → Fails x G E { x with r := r, s := reqS x.s n (delOp x.nm), dead := E == 303 }
  | sync (n : Nat) (r : Rp) (E : Int) : anyAt x.C G = true → Cnt x.s.now n → reqE x.s n (delOp x.nm) = 0 → E = syncE (reqS x.s n (delOp x.nm)) → E ≠ 0 → Fails x G E { x with r := r, s := syncS (reqS x.s n (delOp x.nm)), dead := E == 303 }
  | rreq (n1 n2 : Nat) (r : Rp) (ys : List Ent) (E : Int) : anyAt x.C G = true → ys.Perm (durs x.C) → ys.Pairwise (fun a b => a.2 ≤ b.2) → Cnt x.s.now n1 → Cnt (reqS x.s n1 (crOp x.nm (rfold (readB x.s (fileN x.nm)) [] (stays G ys)).2)).now n2 →
      E = rqE x.s x.nm n1 n2 (rfold (readB x.s (fileN x.nm)) [] (stays G ys)).2 → E ≠ 0 → Fails x G E { x with r := r, s := rqS x.s x.nm n1 n2 (rfold (readB x.s (fileN x.nm)) [] (stays G ys)).2, dead := E == 303 }
  | rsync (n1 n2 : Nat) (r : Rp) (ys : List Ent) (E : Int) : anyAt x.C G = true → ys.Perm (durs x.C) → ys.Pairwise (fun a b => a.2 ≤ b.2) → Cnt x.s.now n1 → Cnt (reqS x.s n1 (crOp x.nm (rfold (readB x.s (fileN x.nm)) [] (stays G ys)).2)).now n2 →
      rqE x.s x.nm n1 n2 (rfold (readB x.s (fileN x.nm)) [] (stays G ys)).2 = 0 → E = syncE (rqS x.s x.nm n1 n2 (rfold (readB x.s (fileN x.nm)) [] (stays G ys)).2) → E ≠ 0 → Fails x G E { x with r := r, s := syncS (rqS x.s x.nm n1 n2 (rfold (readB x.s (fileN x.nm)) [] (stays G ys)).2), dead := E == 303 }
def PCPost (b : Nat) (w0 : World) (x : SR) (G : List (ID × Bool)) (l : List Ob) (e : Ending) (w' : World) : Prop :=
  ∃ E, e = .returned (.int .i64 E) ∧ ((E ≠ 0 ∧ ∃ x1, Fails x G E x1 ∧ SW b w0 (x1.obs l) w') ∨ (E = 0 ∧ ∃ x1, After x G x1 ∧ SW b w0 (x1.obs l) w'))
theorem entSum_perm {a b : List Ent} (h : a.Perm b) : entSum a = entSum b := by
  induction h with
  | nil => rfl
  | cons x _ ih => simp only [entSum, List.map_cons, List.sum_cons] at *; rw [ih]
  | swap x y l => simp only [entSum, List.map_cons, List.sum_cons]; omega
  | trans _ _ ih1 ih2 => exact ih1.trans ih2
theorem entSum_filter (p : Ent → Bool) (ys : List Ent) : entSum (ys.filter p) ≤ entSum ys := by
  induction ys with
  | nil => simp
  | cons y ys ih =>
    have h1 : entSum (y :: ys) = 28 + y.1.2.toNat + entSum ys := by simp [entSum]
    rw [List.filter_cons]
    split
    · have h2 : entSum (y :: ys.filter p) = 28 + y.1.2.toNat + entSum (ys.filter p) := by simp [entSum]
      omega
    · omega
theorem entSum_pos {ys : List Ent} (h : ys ≠ []) : entSum ys ≠ 0 := by
  cases ys with
  | nil => exact absurd rfl h
  | cons y ys =>
    have h1 : entSum (y :: ys) = 28 + y.1.2.toNat + entSum ys := by simp [entSum]
    omega
theorem stays_perm {G : List (ID × Bool)} {a b : List Ent} (h : a.Perm b) : (stays G a).Perm (stays G b) := h.filter _
theorem updAll_out (C : Chs) (done : Chs) (i : ID) (h : i ∉ done.map (·.1)) : Go.Proofs.YteabgcollokgjaaGreatDoor.asc (updAll C done) i = Go.Proofs.YteabgcollokgjaaGreatDoor.asc C i := by
  induction done generalizing C with
  | nil => rfl
  | cons c done ih =>
    rw [List.map_cons, List.mem_cons] at h
    show Go.Proofs.YteabgcollokgjaaGreatDoor.asc (updAll (setL C c.1 c.2) done) i = _
    rw [ih _ (fun hh => h (.inr hh)), asc_setL, if_neg (fun e => h (.inl e.symm))]
theorem ents_row {w : World} {v : Value} {ys : List Ent} (hne : ys ≠ []) (h : w.ownsRow 0 166 3 v ys.length (ys.flatMap encE)) : EntsAt w v ys := by
  rcases h.2 with ⟨hv, hx⟩ | ⟨g, cap, cur, hv, h0, hh, hc1, hcs, hcs2, htk⟩
  · exact absurd (List.eq_nil_of_length_eq_zero hx) hne
  · have hi : IsB w g 166 cur := hh
    refine ⟨fun e => absurd e hne, fun _ => ⟨g, cap, hv, (h.lt g (by rw [hv]; rfl)).2, fun j hj => ?_⟩⟩
    have e0 := flat_at encE_len ent0 ys j 0 hj (by omega)
    have e1 := flat_at encE_len ent0 ys j 1 hj (by omega)
    have e2 := flat_at encE_len ent0 ys j 2 hj (by omega)
    rw [← htk, List.getElem?_take_of_lt (by omega), Array.getElem?_toList] at e0 e1 e2
    refine ⟨(hi.cell _).trans ?_, (hi.cell _).trans ?_, (hi.cell _).trans ?_⟩
    · simpa [encE] using e0
    · simpa [encE] using e1
    · simpa [encE] using e2
/-- A row of entries, seen as entries that are only read. -/
theorem SW.rowEb {b : Nat} {w0 w : World} {v : Value} {ys : List Ent} {t : List Ob} (hne : ys ≠ []) (h : SW b w0 (rowOb 166 3 v ys.length (ys.flatMap encE) :: t) w) : ∃ A c, v = .slice A ys.length c ∧ SW b w0 (ebOb v ys :: t) w := by
  have hh : w.ownsRow 0 166 3 v ys.length (ys.flatMap encE) := h.get 0 (o := rowOb 166 3 v ys.length (ys.flatMap encE)) rfl
  have hE : EntsAt w v ys := ents_row hne hh
  have hv : ∃ A c, v = .slice A ys.length c := by
    obtain ⟨g, c, e, _⟩ := hE.2 hne
    exact ⟨_, _, e⟩
  obtain ⟨A, c, hv⟩ := hv
  have ha := List.pairwise_cons.1 h.1.apart
  refine ⟨A, c, hv, ⟨h.1.base, fun y hy => ?_, fun y hy i hi => ?_, fun y hy i hi => ?_, List.pairwise_cons.2 ⟨fun y hy => ⟨fun i hi => hi.elim, fun i hi hr => ?_⟩, ha.2⟩⟩, h.2⟩
  · rcases List.mem_cons.1 hy with rfl | hy
    · exact hE
    · exact h.1.holds y (List.mem_cons_of_mem _ hy)
  · rcases List.mem_cons.1 hy with rfl | hy
    · exact hi.elim
    · exact h.1.own y (List.mem_cons_of_mem _ hy) i hi
  · rcases List.mem_cons.1 hy with rfl | hy
    · exact (h.1.own _ (List.mem_cons_self ..) i hi).2
    · exact h.1.rd y (List.mem_cons_of_mem _ hy) i hi
  · exact ((ha.1 y hy).1 i hr).1 hi
theorem SW.newRi {b : Nat} {w0 w : World} {l : List Ob} (h : SW b w0 l w) : SW b w0 (riOb none [] :: l) w := by
  refine ⟨⟨h.1.base, fun y hy => ?_, fun y hy i hi => ?_, fun y hy i hi => ?_, List.pairwise_cons.2 ⟨fun y hy => ⟨fun i hi => hi.elim, fun i hi hi' => ?_⟩, h.1.apart⟩⟩, h.2⟩
  · rcases List.mem_cons.1 hy with rfl | hy
    · exact ⟨fun _ => rfl, fun _ e => by cases e⟩
    · exact h.1.holds y hy
  · rcases List.mem_cons.1 hy with rfl | hy
    · exact hi.elim
    · exact h.1.own y hy i hi
  · rcases List.mem_cons.1 hy with rfl | hy
    · cases hi
    · exact h.1.rd y hy i hi
  · cases hi'
/-- The slice that planRemove returned is carried. -/
theorem carryPlan_any {b : Nat} {w0 w w1 : World} {x : SR} {G : List (ID × Bool)} {l : List Ob} {v : Value} (h : SW b w0 (x.obs l) w) (hp : PRPost x G w (.returned v) w1) (hF : anyAt x.C G = true → ∃ f, x.F = some f)
    (hR : anyAt x.C G = true → readE x.s (fileN x.nm) = 0 ∧ (∀ y ∈ durs x.C, (y.2 : Int) + 28 + y.1.2 ≤ (readB x.s (fileN x.nm)).length) ∧ entSum (durs x.C) ≤ 1048576) (hid8 : ∀ c ∈ x.C, 1 ≤ c.1.2 ∧ c.1.2 ≤ 8192) (hCl : x.C.length ≤ 4096)
    (hnm : x.nm.size ≤ 1000) (hL : x.s.ops.length ≤ 999980) (hcn : ∀ n, Cnt x.s.now n → n ≤ 200) (hw0 : 0 ≤ x.wait) (hw1 : x.wait ≤ 1099511627776) :
    Calls Tryz.prog 88 #[vPtr x.ps, v] w1 (PCPost b w0 x G l) := by
  rcases hp with ⟨ha, hv, hb⟩ | ⟨ha, lg, cap, pc, sv, ys, hv, hys, hsrt, hs⟩
  · injection hv with hv
    subst hv
    refine (carry_nil _ _).mono ?_
    rintro e w' ⟨rfl, rfl⟩
    exact ⟨0, rfl, .inr ⟨rfl, x, .none ha, h.on hb⟩⟩
  · injection hv with hv
    subst hv
    have hj := Sep.join h.1 hs.2 hs.1 (fun o ho i hi => by
      simp only [List.mem_cons, List.not_mem_nil, or_false] at ho
      rcases ho with rfl | rfl | rfl
      · exact hi.elim
      · exact hi.elim
      · exact hi.elim)
    by_cases hst : stays G ys = []
    · rw [hst] at hj
      have hsw : SW b w0 ((⟨pc, sv, 0, [], lg, cap⟩ : RFS).obs (x.obs l)) w1 := ⟨hj, h.2.trans (hs.2.mono h.1.base)⟩
      have hst' : ∀ zs : List Ent, zs.Perm (durs x.C) → stays G zs = [] := fun zs hz => (by
        have := stays_perm (G := G) (hz.trans hys.symm)
        rw [hst] at this
        exact this.eq_nil)
      refine (carryDel_any hsw rfl (hF ha) hnm (by omega) hcn).mono ?_
      rintro e w' ⟨n, r', hn, E, rfl, h1 | h1 | h1⟩
      · exact ⟨E, rfl, .inl ⟨h1.1, _, .req n r' E ha hn h1.2.1 h1.1, h1.2.2⟩⟩
      · exact ⟨E, rfl, .inl ⟨h1.1, _, .sync n r' E ha hn h1.2.1 h1.2.2.1 h1.1, h1.2.2.2⟩⟩
      · exact ⟨E, rfl, .inr ⟨h1.1, _, .del n r' ha hn h1.2.1 h1.2.2.1 hst', h1.2.2.2⟩⟩
    · obtain ⟨hR1, hR2, hR3⟩ := hR ha
      have hsw0 : SW b w0 (cellOb pc 216 #[.int .i64 1, .bool true, sv, .slice none 0 0, .int .i64 (entSum (stays G ys) : Int)] :: rowOb 166 3 sv (stays G ys).length ((stays G ys).flatMap encE) :: rowOb 214 1 (.slice (some ⟨lg, 0, none⟩) 1 cap) 1 [vPtr pc] :: x.obs l) w1 := ⟨hj, h.2.trans (hs.2.mono h.1.base)⟩
      have hsw1 : SW b w0 (rowOb 166 3 sv (stays G ys).length ((stays G ys).flatMap encE) :: cellOb pc 216 #[.int .i64 1, .bool true, sv, .slice none 0 0, .int .i64 (entSum (stays G ys) : Int)] :: rowOb 214 1 (.slice (some ⟨lg, 0, none⟩) 1 cap) 1 [vPtr pc] :: x.obs l) w1 := SW.front (pre := [_, _]) (t := _ :: x.obs l) hsw0 [1, 0] (n := 2) rfl (by decide)
      obtain ⟨SA, sc, rfl, hsw2⟩ := SW.rowEb hst hsw1
      have hsw : SW b w0 ((⟨pc, SA, sc, none, 0, entSum (stays G ys), [], lg, cap, stays G ys⟩ : RCS).obs (x.obs l)) w1 := SW.front (pre := [_, _, _, _]) (t := x.obs l) hsw2.newRi [2, 0, 3, 1] (n := 4) rfl (by decide)
      have hmem : ∀ y ∈ stays G ys, (y.1, Pl.at y.2) ∈ x.C := fun y hy => durs_mem (hys.mem_iff.1 (List.mem_filter.1 hy).1)
      have hle : entSum (stays G ys) ≤ 1048576 := Nat.le_trans (entSum_filter _ ys) (by rw [entSum_perm hys]; exact hR3)
      have hyl : (stays G ys).length ≤ 1000000 := by
        refine Nat.le_trans (List.length_filter_le _ _) ?_
        rw [hys.length_eq]
        exact Nat.le_trans (durs_len _) (by omega)
      refine (carryR_any hsw (entSum_pos hst) (readB x.s (fileN x.nm)) hR1 rfl hnm (hF ha) (fun y hy => ?_) (fun i hi => by cases hi) (by simpa [frSum] using hle) hyl hL hcn hw0 hw1).mono ?_
      · have hm := hmem y hy
        have h8 := hid8 _ hm
        exact ⟨asc_mem h.1.sch.nodup hm, h.1.sch.oks _ hm, h8.1, h8.2, hR2 y (hys.mem_iff.1 (List.mem_filter.1 hy).1)⟩
      · rintro e w' ⟨n1, n2, r', hn1, hn2, E, rfl, h1 | h1 | h1⟩
        · exact ⟨E, rfl, .inl ⟨h1.1, _, .rreq n1 n2 r' ys E ha hys hsrt hn1 hn2 h1.2.1 h1.1, h1.2.2⟩⟩
        · exact ⟨E, rfl, .inl ⟨h1.1, _, .rsync n1 n2 r' ys E ha hys hsrt hn1 hn2 h1.2.1 h1.2.2.1 h1.1, h1.2.2.2⟩⟩
        · obtain ⟨h0, h2, h3, done, f, h4, h5, h6, h7, h8⟩ := h1
          exact ⟨E, rfl, .inr ⟨h0, _, .ren n1 n2 r' ys done f ha hys hsrt hst hn1 hn2 h2 h3 h4 h5 h6 h7, h8⟩⟩
/-- What is to go is where it was. -/
theorem After.asc {x x1 : SR} {G : List (ID × Bool)} (h : After x G x1) (hG : ∀ g ∈ G, Go.Proofs.YteabgcollokgjaaGreatDoor.asc G g.1 = some true) (hn : (x1.C.map (·.1)).Nodup) : ∀ g ∈ G, Go.Proofs.YteabgcollokgjaaGreatDoor.asc x1.C g.1 = Go.Proofs.YteabgcollokgjaaGreatDoor.asc x.C g.1 := by
  intro g hg
  cases h with
  | none _ => rfl
  | del _ _ _ _ _ _ _ => rfl
  | ren n1 n2 r ys done f _ _ _ _ _ _ _ _ hd _ _ _ =>
    have hk := nfold_keys (readB x.s (fileN x.nm)) x.C (stays G ys) []
    have hnk : g.1 ∉ done.map (·.1) := fun hi => by
      have h1 : g.1 ∈ (rfold (readB x.s (fileN x.nm)) [] (stays G ys)).1.map (·.1) := (hd.map _).mem_iff.1 hi
      rcases (hk.2.1 g.1).1 h1 with h2 | h2
      · obtain ⟨y, hy, e⟩ := List.mem_map.1 h2
        have h3 := (List.mem_filter.1 hy).2
        rw [e, hG g hg] at h3
        cases h3
      · cases h2
    exact updAll_out x.C done g.1 hnk
theorem After.wait {x x1 : SR} {G : List (ID × Bool)} (h : After x G x1) (hn : (x.C.map (·.1)).Nodup) : x1.wait = x.wait := by
  cases h with
  | none _ => rfl
  | del _ _ _ _ _ _ _ => rfl
  | ren n1 n2 r ys done f _ hys _ _ _ _ _ _ hd _ _ _ =>
    have hk := nfold_keys (readB x.s (fileN x.nm)) x.C (stays G ys) []
    have h0 : pdN x.C done = 0 := by
      unfold pdN
      rw [List.filter_eq_nil_iff.2 (fun c hc => ?_)]
      · rfl
      · have h1 : c.1 ∈ (rfold (readB x.s (fileN x.nm)) [] (stays G ys)).1.map (·.1) := (hd.map _).mem_iff.1 (List.mem_map.2 ⟨c, hc, rfl⟩)
        rcases (hk.2.1 c.1).1 h1 with h2 | h2
        · obtain ⟨y, hy, e⟩ := List.mem_map.1 h2
          have h3 := asc_mem hn (durs_mem (hys.mem_iff.1 (List.mem_filter.1 hy).1))
          rw [← e, h3]
          simp [Pl.isP]
        · cases h2
    simp [h0]
end Go.Proofs.YteabgcollokgjaaGreatDoor
