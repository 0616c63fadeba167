/- Contracts of the walk, part 22. -/
import Derived.Test.YtmiknfneeipkeaaGreatQ12
import Derived.Test.YtmiknfneeipkeaaGreatQ21
namespace Go.Proofs.YtmiknfneeipkeaaGreat
open Go.RowKit Go.MapKept Go.ChangeMaps Go.Shelf Go.Sort
/-- A manifest as it lies, and what it is. -/
abbrev MP := MR × Man
def keyM (m : Man) : ID := wholeP m.ids
def cnOf (p : MP) : CN := (keyM p.2, p.1)
/-- Two manifests of one whole ID have the same chunks. -/
def OneM (ms : List Man) : Prop := ∀ a ∈ ms, ∀ b ∈ ms, keyM a = keyM b → a.ids = b.ids
/-- The contents of manifests. -/
def ConM (ms ys : List Man) : Prop := ys.Pairwise (fun a b => ltID (keyM a) (keyM b) = true) ∧ ∀ m, m ∈ ys ↔ m ∈ ms
theorem conM_uniq {ms ys zs : List Man} (h : ConM ms ys) (h' : ConM ms zs) : ys = zs := by
  have key : ∀ {a b : List Man}, a.Pairwise (fun x y => ltID (keyM x) (keyM y) = true) → b.Pairwise (fun x y => ltID (keyM x) (keyM y) = true) → (∀ m, m ∈ a ↔ m ∈ b) → a = b := by
    intro a
    induction a with
    | nil =>
      intro b _ _ h
      cases b with
      | nil => rfl
      | cons x b => exact absurd ((h x).2 (.head _)) (by simp)
    | cons x a ih =>
      intro b ha hb h
      cases b with
      | nil => exact absurd ((h x).1 (.head _)) (by simp)
      | cons y b =>
        obtain ⟨a1, a2⟩ := List.pairwise_cons.1 ha
        obtain ⟨b1, b2⟩ := List.pairwise_cons.1 hb
        have hxy : x = y := by
          rcases List.mem_cons.1 ((h x).1 (.head _)) with e | hx
          · exact e
          · rcases List.mem_cons.1 ((h y).2 (.head _)) with e | hy
            · exact e.symm
            · have h1 := b1 x hx
              have h2 := a1 y hy
              have := swoID.trans (keyM x) (keyM y) (keyM x) (by rw [lt_cmpID]; exact h2) (by rw [lt_cmpID]; exact h1)
              rw [swoID.irrefl] at this
              cases this
        subst hxy
        have hn : ∀ (l : List Man), (∀ m ∈ l, ltID (keyM x) (keyM m) = true) → x ∉ l := fun l hl hx => by
          have := hl x hx
          rw [← lt_cmpID, swoID.irrefl] at this
          cases this
        rw [ih a2 b2 (fun m => ?_)]
        constructor
        · intro hm
          rcases List.mem_cons.1 ((h m).1 (List.mem_cons_of_mem _ hm)) with e | h1
          · exact absurd (e ▸ hm) (hn a a1)
          · exact h1
        · intro hm
          rcases List.mem_cons.1 ((h m).2 (List.mem_cons_of_mem _ hm)) with e | h1
          · exact absurd (e ▸ hm) (hn b b1)
          · exact h1
  exact key h.1 h'.1 (fun m => (h.2 m).trans (h'.2 m).symm)
theorem snocInd {α : Type} {P : List α → Prop} (h0 : P []) (h1 : ∀ l a, P l → P (l ++ [a])) (l : List α) : P l := by
  have : ∀ (n : Nat) (l : List α), l.length = n → P l := by
    intro n
    induction n with
    | zero => intro l hl; rw [List.eq_nil_of_length_eq_zero hl]; exact h0
    | succ n ih =>
      intro l hl
      rcases List.eq_nil_or_concat l with rfl | ⟨l', a, rfl⟩
      · exact h0
      · rw [List.concat_eq_append] at *
        exact h1 _ _ (ih l' (by simpa using hl))
  exact this _ l rfl
/-- Of several with one key the first one stays. -/
def ddStep (acc : List MP) (p : MP) : List MP := if (acc.getLast?.map fun q => keyM q.2) = some (keyM p.2) then acc else acc ++ [p]
def ddM (l : List MP) : List MP := l.foldl ddStep []
theorem ddM_snoc (l : List MP) (p : MP) : ddM (l ++ [p]) = ddStep (ddM l) p := by simp [ddM]
theorem ddM_nil : ddM [] = [] := rfl
theorem ddM_len (l : List MP) : (ddM l).length ≤ l.length := by
  refine snocInd (P := fun l => (ddM l).length ≤ l.length) (by simp [ddM_nil]) (fun l p ih => ?_) l
  rw [ddM_snoc, ddStep]
  split
  · simp; omega
  · simp; omega
theorem ddM_sub (l : List MP) : ∀ p ∈ ddM l, p ∈ l := by
  refine snocInd (P := fun l => ∀ p ∈ ddM l, p ∈ l) (fun p hp => by cases hp) (fun l p ih => ?_) l
  intro q hq
  rw [ddM_snoc, ddStep] at hq
  split at hq
  · exact List.mem_append_left _ (ih q hq)
  · rcases List.mem_append.1 hq with h | h
    · exact List.mem_append_left _ (ih q h)
    · exact List.mem_append_right _ h
theorem ddM_key (l : List MP) (p : MP) : ((ddM (l ++ [p])).getLast?.map fun q => keyM q.2) = some (keyM p.2) := by
  rw [ddM_snoc, ddStep]
  split
  · assumption
  · simp
theorem ddM_mem (l : List MP) : ∀ p ∈ l, ∃ q ∈ ddM l, keyM q.2 = keyM p.2 := by
  refine snocInd (P := fun l => ∀ p ∈ l, ∃ q ∈ ddM l, keyM q.2 = keyM p.2) (fun p hp => by cases hp) (fun l p ih => ?_) l
  intro r hr
  rcases List.mem_append.1 hr with h | h
  · obtain ⟨q, hq, e⟩ := ih r h
    refine ⟨q, ?_, e⟩
    rw [ddM_snoc, ddStep]
    split
    · exact hq
    · exact List.mem_append_left _ hq
  · rw [List.mem_singleton.1 h]
    have hk := ddM_key l p
    cases hl : (ddM (l ++ [p])).getLast? with
    | none =>
      rw [hl] at hk
      cases hk
    | some q =>
      rw [hl] at hk
      exact ⟨q, List.mem_of_getLast? hl, by simpa using hk⟩
theorem ltID_tot {x y : ID} (h1 : ltID x y = false) (h2 : ltID y x = false) : x = y := by
  simp only [ltID, decide_eq_false_iff_not] at h1 h2
  exact Prod.ext (by omega) (by omega)
theorem ltID_irr (x : ID) : ltID x x = false := by simp [ltID]
theorem ltID_tr {x y z : ID} (h1 : ltID x y = true) (h2 : ltID y z = true) : ltID x z = true := by
  simp only [ltID, decide_eq_true_eq] at *
  omega
/-- In order: none behind is less. -/
def SortM (l : List MP) : Prop := l.Pairwise (fun a b => ltID (keyM b.2) (keyM a.2) = false)
theorem ddM_asc (l : List MP) : SortM l → (ddM l).Pairwise (fun a b => ltID (keyM a.2) (keyM b.2) = true) := by
  refine snocInd (P := fun l => SortM l → (ddM l).Pairwise (fun a b => ltID (keyM a.2) (keyM b.2) = true)) (fun _ => .nil) (fun l p ih hs => ?_) l
  have hs1 := List.pairwise_append.1 hs
  have ha := ih hs1.1
  rw [ddM_snoc, ddStep]
  split
  · exact ha
  · rename_i hne
    refine List.pairwise_append.2 ⟨ha, List.pairwise_singleton _ _, fun q hq r hr => ?_⟩
    rw [List.mem_singleton.1 hr]
    have h1 := hs1.2.2 q (ddM_sub l q hq) p (.head _)
    cases hlt : ltID (keyM q.2) (keyM p.2) with
    | true => rfl
    | false =>
      have e := ltID_tot hlt h1
      exfalso
      have hnil : ddM l ≠ [] := List.ne_nil_of_mem hq
      have hd := List.dropLast_concat_getLast hnil
      have hlast := List.getLast?_eq_some_getLast hnil
      rw [hlast] at hne
      have hne' : keyM ((ddM l).getLast hnil).2 ≠ keyM p.2 := fun h => hne (by simp [h])
      rw [← hd] at hq
      rcases List.mem_append.1 hq with h | h
      · rw [← hd] at ha
        have h2 := (List.pairwise_append.1 ha).2.2 q h _ (.head _)
        have h3 := hs1.2.2 _ (ddM_sub l _ (List.getLast_mem hnil)) p (.head _)
        rw [e] at h2
        rw [h2] at h3
        cases h3
      · rw [List.mem_singleton.1 h] at e
        exact hne' e
/-- Elements of one key have the same chunks. -/
def GoodM (l : List MP) : Prop := ∀ p ∈ l, ∀ q ∈ ddM l, keyM q.2 = keyM p.2 → q.2.ids = p.2.ids
theorem good_same {l : List MP} {p q : MP} (hg : GoodM l) (hl : (ddM l).getLast? = some q) (hk : keyM q.2 = keyM p.2) (hi : q.2.ids = p.2.ids) : ddM (l ++ [p]) = ddM l ∧ GoodM (l ++ [p]) := by
  have e : ddM (l ++ [p]) = ddM l := by rw [ddM_snoc, ddStep, if_pos (by rw [hl]; simp [hk])]
  refine ⟨e, fun p' hp' q' hq' he => ?_⟩
  rw [e] at hq'
  rcases List.mem_append.1 hp' with h | h
  · exact hg p' h q' hq' he
  · rw [List.mem_singleton.1 h] at he ⊢
    rw [← hi]
    exact hg q (ddM_sub l q (List.mem_of_getLast? hl)) q' hq' (he.trans hk.symm)
theorem good_new {l : List MP} {p : MP} (hs : SortM (l ++ [p])) (hg : GoodM l) (hl : ∀ q, (ddM l).getLast? = some q → keyM q.2 ≠ keyM p.2) : ddM (l ++ [p]) = ddM l ++ [p] ∧ GoodM (l ++ [p]) := by
  have e : ddM (l ++ [p]) = ddM l ++ [p] := by
    rw [ddM_snoc, ddStep, if_neg]
    intro h
    cases hq : (ddM l).getLast? with
    | none => rw [hq] at h; cases h
    | some q =>
      rw [hq] at h
      exact hl q hq (by simpa using h)
  have ha := ddM_asc _ hs
  rw [e] at ha
  have hne : ∀ q ∈ ddM l, keyM q.2 ≠ keyM p.2 := fun q hq h => by
    have := (List.pairwise_append.1 ha).2.2 q hq p (.head _)
    rw [h, ltID_irr] at this
    cases this
  refine ⟨e, fun p' hp' q' hq' he => ?_⟩
  rw [e] at hq'
  rcases List.mem_append.1 hp' with h | h <;> rcases List.mem_append.1 hq' with h' | h'
  · exact hg p' h q' h' he
  · rw [List.mem_singleton.1 h'] at he
    obtain ⟨r, hr1, hr2⟩ := ddM_mem l p' h
    exact absurd (hr2.trans he.symm) (hne r hr1)
  · rw [List.mem_singleton.1 h] at he
    exact absurd he (hne q' h')
  · rw [List.mem_singleton.1 h, List.mem_singleton.1 h']
theorem con_of_sorted {ms : List Man} {Z : List MP} (hv : ∀ m ∈ ms, manE m = 0) (hp : (Z.map (·.2)).Perm ms) (hs : SortM Z) (hg : GoodM Z) : OneM ms ∧ ConM ms ((ddM Z).map (·.2)) := by
  have hin : ∀ m ∈ ms, ∃ p ∈ Z, p.2 = m := fun m hm => by
    have := hp.mem_iff.2 hm
    obtain ⟨p, h1, h2⟩ := List.mem_map.1 this
    exact ⟨p, h1, h2⟩
  have hout : ∀ p ∈ Z, p.2 ∈ ms := fun p h => hp.mem_iff.1 (List.mem_map.2 ⟨p, h, rfl⟩)
  have ha := ddM_asc Z hs
  refine ⟨fun a ha' b hb' he => ?_, List.pairwise_map.2 ha, fun m => ⟨fun hm => ?_, fun hm => ?_⟩⟩
  · obtain ⟨p, hp1, rfl⟩ := hin a ha'
    obtain ⟨q, hq1, rfl⟩ := hin b hb'
    obtain ⟨r, hr1, hr2⟩ := ddM_mem Z p hp1
    rw [← hg p hp1 r hr1 hr2, ← hg q hq1 r hr1 (hr2.trans he)]
  · obtain ⟨q, hq, rfl⟩ := List.mem_map.1 hm
    exact hout q (ddM_sub Z q hq)
  · obtain ⟨p, hp1, rfl⟩ := hin m hm
    obtain ⟨r, hr1, hr2⟩ := ddM_mem Z p hp1
    have he := hg p hp1 r hr1 hr2
    have h1 := (manE_zero (hv _ hm)).2.1
    have h2 := (manE_zero (hv _ (hout r (ddM_sub Z r hr1)))).2.1
    refine List.mem_map.2 ⟨r, hr1, ?_⟩
    show r.2 = p.2
    cases hr : r.2 with
    | mk rz ri =>
      cases hpp : p.2 with
      | mk pz pi =>
        rw [hr, hpp] at he
        rw [hpp] at h1
        rw [hr] at h2
        simp only at he h1 h2
        subst he
        rw [h1, h2]
theorem perm_map_inv {α β : Type} (f : α → β) {l l' : List β} (h : l.Perm l') : ∀ P : List α, P.map f = l → ∃ Z : List α, Z.Perm P ∧ Z.map f = l' := by
  induction h with
  | nil =>
    intro P hP
    exact ⟨P, List.Perm.refl _, hP⟩
  | cons x _ ih =>
    intro P hP
    cases P with
    | nil => simp at hP
    | cons p P =>
      simp only [List.map_cons, List.cons.injEq] at hP
      obtain ⟨Z, h1, h2⟩ := ih P hP.2
      exact ⟨p :: Z, h1.cons p, by simp [hP.1, h2]⟩
  | swap x y l =>
    intro P hP
    match P, hP with
    | p :: q :: P, hP =>
      simp only [List.map_cons, List.cons.injEq] at hP
      exact ⟨q :: p :: P, List.Perm.swap _ _ _, by simp [hP.1, hP.2.1, hP.2.2]⟩
  | trans _ _ ih1 ih2 =>
    intro P hP
    obtain ⟨Z, h1, h2⟩ := ih1 P hP
    obtain ⟨Y, h3, h4⟩ := ih2 Z h2
    exact ⟨Y, h3.trans h1, h4⟩
end Go.Proofs.YtmiknfneeipkeaaGreat
namespace Go.Proofs.YtmiknfneeipkeaaGreat
open Go.RowKit Go.MapKept Go.ChangeMaps Go.Shelf Go.Sort
attribute [local go_sem] wext_cell
theorem info85 : (Tryz.prog.info? 85).map (fun i => (i.zero, i.size, i.bytes)) = some (some (.agg #[.int .u64 0, .int .i64 0, .int .i64 0, .slice none 0 0]), 4, 48) := by kernel_rfl
theorem four_new (W : World) (x y z u : Value) (t : TypeId) (H : Nat) (hH : W.heap.size = H) : ∀ j v, [x, y, z, u][j]? = some v → (W.alloc (.cells #[x, y, z, u] t)).cell? ((⟨H, 0, none⟩ : Addr).add j) = some v := by
  subst hH
  intro j v hu
  have hc := fun i => (IsB.new W t #[x, y, z, u]).cell i
  match j, hu with
  | 0, hu => simp at hu; subst hu; simp [Addr.add, hc]
  | 1, hu => simp at hu; subst hu; simp [Addr.add, hc]
  | 2, hu => simp at hu; subst hu; simp [Addr.add, hc]
  | 3, hu => simp at hu; subst hu; simp [Addr.add, hc]
  | j + 4, hu => simp at hu
theorem Whole_ok (x : Nat) (m : Man) (A : Option Addr) (c : Nat) (w : World) (hr : RdID w x A m.ids) (hn : m.ids.length ≤ 9223372036854775807) (hok : ∀ i ∈ m.ids, okID i) (he : manE m = 0) :
    Calls Tryz.prog 31 #[.agg #[.int .i64 m.size, .slice A m.ids.length c]] w (Gives (.tuple #[.agg #[.int .u64 (keyM m).1, .int .i64 (keyM m).2], .int .i64 0]) w) :=
  (Whole_any x m A c w hr hn hok).mono (fun e w' ⟨h1, h2⟩ => ⟨by rw [h1, if_pos he, he]; rfl, h2⟩)
/-- The first k manifests with how they lie. -/
def mpOf (rs : List MR) (ms : List Man) (k : Nat) : List MP := (List.range k).map (fun j => (rs.getD j mr0, ms.getD j man0))
theorem mpOf_next (rs : List MR) (ms : List Man) (k : Nat) : mpOf rs ms (k + 1) = mpOf rs ms k ++ [(rs.getD k mr0, ms.getD k man0)] := by simp [mpOf, List.range_succ]
theorem mpOf_len (rs : List MR) (ms : List Man) (k : Nat) : (mpOf rs ms k).length = k := by simp [mpOf]
theorem mpOf_snd (rs : List MR) (ms : List Man) : (mpOf rs ms ms.length).map (·.2) = ms := by
  refine List.ext_getElem (by simp [mpOf]) (fun j h1 h2 => ?_)
  simp [mpOf, List.getD_eq_getElem?_getD, List.getElem?_eq_getElem h2]
section
variable {b : Nat} {w0 w w' : World} {l : List Ob}
theorem SW.sortCN {v : Value} {xs : List CN} (h : SW b w0 (rowOb 85 4 v xs.length (xs.flatMap encCN) :: l) w) (hn : xs.length < 20) :
    Calls Tryz.prog 84 #[v, .func (.func 85) #[] #[]] w (fun e w' => e = .returned (.tuple #[]) ∧ ∃ ys : List CN, ys.Perm xs ∧ ys.Pairwise (fun a b => ltOf cmpCN b a = false) ∧ SW b w0 (rowOb 85 4 v ys.length (ys.flatMap encCN) :: l) w') := by
  have hh : w.ownsRow 0 85 4 v xs.length (xs.flatMap encCN) := h.get 0 rfl
  by_cases h0 : v = .slice none 0 0
  · subst h0
    refine (sortCN_none none 0 w).mono ?_
    rintro e w' ⟨rfl, rfl⟩
    have hx : xs = [] := by
      rcases hh.2 with ⟨_, h2⟩ | ⟨g, cap, cur, hv, _⟩
      · exact List.eq_nil_of_length_eq_zero h2
      · cases hv
    subst hx
    exact ⟨rfl, [], List.Perm.refl _, List.Pairwise.nil, h⟩
  · obtain ⟨g, cap, rfl⟩ : ∃ g cap, v = .slice (some ⟨g, 0, none⟩) xs.length cap := by
      rcases hh.2 with ⟨hv, _⟩ | ⟨g, cap, cur, hv, _⟩
      · exact absurd hv h0
      · exact ⟨g, cap, hv⟩
    refine (sortCN_any 0 g _ cap xs w hh hn).mono ?_
    rintro e w' ⟨rfl, ys, hp, hs, hown, hg⟩
    refine ⟨rfl, ys, hp, hs, ?_⟩
    have := h.row (w' := w') 0 rfl hown hg (.inl rfl)
    rw [hp.length_eq]
    exact this
/-- What contentsOf returns. -/
abbrev ConP (ms : List Man) (b : Nat) (w0 : World) (l : List Ob) (e : Ending) (w' : World) : Prop :=
  (OneM ms ∧ ∃ (Y : List MP) (D : Option Addr) (d : Nat), ConM ms (Y.map (·.2)) ∧ e = .returned (.tuple #[.slice D Y.length d, .bool true]) ∧ SW b w0 (rowOb 85 4 (.slice D Y.length d) Y.length ((Y.map cnOf).flatMap encCN) :: msOb (Y.map (·.1)) (Y.map (·.2)) :: l) w') ∨
  (¬ OneM ms ∧ e = .returned (.tuple #[.slice none 0 0, .bool false]) ∧ SW b w0 l w')
set_option maxRecDepth 100000 in
set_option maxHeartbeats 8000000 in
theorem contentsOf_any (h : SW b w0 l w) {A : Option Addr} {rs : List MR} {ms : List Man} (hm : imOb A rs ms ∈ l) (hv : ∀ m ∈ ms, manE m = 0) (hn : ms.length < 20) (hok : ∀ m ∈ ms, ∀ i ∈ m.ids, okID i) (c : Nat) :
    Calls Tryz.prog 40 #[.slice A ms.length c] w (ConP ms b w0 l) := by
  have HM := Lib.hid hm
  have HV := Lib.hid hv
  have HOK := Lib.hid hok
  have S1 := Lib.hid (h.newRow 85 4)
  clear h hm hv hok
  obtain ⟨i1, gi, gz0, gz1, gz2⟩ := info_parts info85
  go_enter Tryz.func40, Tryz.ntmps40
  go_wp2_with fail
  go_loopw [4, 15] (fun s4 s15 wr => ∃ k : Nat, k ≤ ms.length ∧ s15 = .int .i64 (k : Int) ∧ SW b w0 (rowOb 85 4 s4 k (((mpOf rs ms k).map cnOf).flatMap encCN) :: l) wr) (fun _ s15 _ => ms.length - (intOf s15).toNat)
  case atStart => exact ⟨0, Nat.zero_le _, rfl, S1.out⟩
  case round =>
    obtain ⟨k, hk, rfl, hs⟩ := hrel
    have S2 := Lib.hid hs
    clear hs S1
    by_cases hlt : k < ms.length
    · obtain ⟨h1, h2, h3⟩ := S2.out.1.holds (imOb A rs ms) (List.mem_cons_of_mem _ HM.out)
      obtain ⟨g, o, rfl, hgB, _, hc⟩ := h1 (by omega)
      obtain ⟨l1, l2, l3, l4⟩ := h3 k hlt
      have hmem := getD_mem ms man0 k hlt
      have HP := Lib.hid (mpOf_next rs ms k)
      obtain ⟨m, HMK⟩ : ∃ m, Hid (ms.getD k man0 = m) := ⟨_, rfl⟩
      obtain ⟨⟨rz, rA, rl, rc⟩, HR⟩ : ∃ r, Hid (rs.getD k mr0 = r) := ⟨_, rfl⟩
      rw [HMK.out] at l1 l2 l4 hmem HP
      rw [HR.out] at l1 l2 l3 l4 HP
      simp only at l1 l2 l3 l4
      subst l1 l2
      have hvm := HV.out m hmem
      have hil : m.ids.length ≤ 9223372036854775807 := by have := manE_len hvm; omega
      have c0 : wr.cell? ⟨g, o + k * 2, none⟩ = some (.int .i64 m.size) := hc k (by omega) 0 _ (by rw [HR.out]; rfl)
      have c1 : wr.cell? ⟨g, o + k * 2 + 1, none⟩ = some (.slice rA m.ids.length rc) := hc k (by omega) 1 _ (by rw [HR.out]; rfl)
      have S3 := Lib.hid (S2.out.newCell 33 #[.int .i64 m.size, .slice rA m.ids.length rc])
      have HCK := Lib.hid (Whole_ok _ m rA rc _ (rd_top (l4.alloc (.cells #[.int .i64 m.size, .slice rA m.ids.length rc] 33))) hil (HOK.out m hmem) hvm)
      obtain ⟨k1, k2, HKM⟩ : ∃ k1 k2, Hid (keyM m = (k1, k2)) := ⟨_, _, rfl⟩
      rw [HKM.out] at HCK
      clear h1 h2 h3 hc l4 hmem S2 hvm
      go_wp2_with (go_at_call 31; (with_reducible refine HCK.out.mono ?_); refine halt_ ?_)
      rintro e w2 ⟨rfl, hb2⟩
      have S4 := Lib.hid (S3.out.on hb2)
      have d0 : w2.cell? ⟨wr.heap.size, 0, none⟩ = some (.int .i64 m.size) := (S4.out.cell 0 rfl).cell 0
      have d1 : w2.cell? ⟨wr.heap.size, 1, none⟩ = some (.slice rA m.ids.length rc) := (S4.out.cell 0 rfl).cell 1
      have hl2 : wr.heap.size < w2.heap.size := (S4.out.cell 0 rfl).lt
      clear hb2 HCK S3 c0 c1
      have S5 := Lib.hid ((S4.out.newCell 36 #[.int .u64 k1, .int .i64 k2]).alloc (.cells #[.int .u64 k1, .int .i64 k2, .int .i64 m.size, .slice rA m.ids.length rc] 85))
      go_wp2_with (at_builtin; (refine wpList_rowS (t := 78) (e := 85) (size := 4) (bytes := 48) (i := i1) S5.out 2 rfl (by rfl) (.tmp 24) (.tmp 28) (by rfl) Tryz.underlying78 gi gz0 gz1 gz2 rfl (by omega) (by rfl) ⟨w2.heap.size + 1, 0, none⟩ 1 [.int .u64 k1, .int .i64 k2, .int .i64 m.size, .slice rA m.ids.length rc] (by rfl) rfl (four_new _ _ _ _ _ _ _ (by simp)) (encCN_one ((k1, k2), ⟨m.size, rA, m.ids.length, rc⟩)) (by unfold maxLen; omega) (by omega) ?_); refine halt_ ?_)
      intro v4 w4 s4
      have S6 : Hid (SW b w0 (rowOb 85 4 v4 (k + 1) (((mpOf rs ms (k + 1)).map cnOf).flatMap encCN) :: l) w4) := by
        rw [Hid, HP.out, List.map_append, List.flatMap_append]
        have := s4.tail.tail
        simp only [List.map_cons, List.map_nil, List.flatMap_cons, List.flatMap_nil, List.append_nil, cnOf, HKM.out, encCN]
        exact this
      clear s4 S4 S5 d0 d1
      go_wp2_with fail
      go_roundw
      case rel => exact ⟨k + 1, by omega, by go_num, S6.out⟩
      case measure => simp [intOf]; omega
    · obtain rfl : k = ms.length := by omega
      obtain ⟨D, dc, rfl⟩ := own_slL (S2.out.get 0 rfl)
      have hxl : ((mpOf rs ms ms.length).map cnOf).length = ms.length := by rw [List.length_map, mpOf_len]
      have HSO := Lib.hid (SW.sortCN (v := .slice D ms.length dc) (xs := (mpOf rs ms ms.length).map cnOf) (by rw [hxl]; exact S2.out) (by omega))
      clear S2
      go_wp2_with (go_at_call 84; (with_reducible refine HSO.out.mono ?_); refine halt_ ?_)
      rintro e w2 ⟨rfl, ys, hp, hso, s3⟩
      obtain ⟨Z, hz1, rfl⟩ := perm_map_inv cnOf hp.symm _ rfl
      have hzl : Z.length = ms.length := by rw [hz1.length_eq, mpOf_len]
      have HZS : Hid (SortM Z) := by
        have := List.pairwise_map.1 hso
        refine this.imp (fun {a b} h => ?_)
        rw [← lt_cmpID]
        exact h
      have HZP : Hid ((Z.map (·.2)).Perm ms) := by
        have := hz1.map (·.2)
        rw [mpOf_snd] at this
        exact this
      have HZM : Hid (∀ p ∈ Z, ∃ j, j < ms.length ∧ p = (rs.getD j mr0, ms.getD j man0)) := fun p hp => by
        obtain ⟨j, hj, e⟩ := List.mem_map.1 (hz1.mem_iff.1 hp)
        exact ⟨j, List.mem_range.1 hj, e.symm⟩
      rw [List.length_map, hzl] at s3
      have S3 := Lib.hid (SW.front (pre := [_, _]) (s3.newRow 85 4) [0, 1] (n := 2) rfl (by decide))
      clear s3 HSO hp hso hz1 hxl
      rw [← hzl] at S3 ⊢
      have hzn : Z.length < 20 := by omega
      clear hzl
      go_wp2_with fail
      go_loopw [9, 35] (fun s9 s35 wr => ∃ (k : Nat) (B : Option Addr) (bc : Nat), k ≤ Z.length ∧ s35 = .int .i64 (k : Int) ∧ s9 = .slice B (ddM (Z.take k)).length bc ∧ Hid (GoodM (Z.take k)) ∧ SW b w0 (rowOb 85 4 (.slice B (ddM (Z.take k)).length bc) (ddM (Z.take k)).length (((ddM (Z.take k)).map cnOf).flatMap encCN) :: rowOb 85 4 (.slice D Z.length dc) Z.length ((Z.map cnOf).flatMap encCN) :: l) wr) (fun _ s35 _ => Z.length - (intOf s35).toNat)
      case atStart => exact ⟨0, none, 0, Nat.zero_le _, rfl, rfl, (fun p hp => by simp at hp), S3.out⟩
      case round =>
        obtain ⟨k, B, bc, hk, rfl, rfl, HG, hs⟩ := hrel
        have S4 := Lib.hid hs
        clear hs S3
        have hdl := ddM_len (Z.take k)
        rw [List.length_take] at hdl
        by_cases hlt : k < Z.length
        · obtain ⟨p, HPK⟩ : ∃ p, Hid (Z.getD k (mr0, man0) = p) := ⟨_, rfl⟩
          have HTK : Hid (Z.take (k + 1) = Z.take k ++ [p]) := by rw [Hid, take_snoc _ (mr0, man0) _ hlt, HPK.out]
          have hpz : p ∈ Z := by rw [← HPK.out]; exact getD_mem _ _ _ hlt
          obtain ⟨j, hj, hpj⟩ := HZM.out p hpz
          have hM := S4.out.1.holds (imOb A rs ms) (.tail _ (.tail _ HM.out))
          obtain ⟨l1, l2, l3, l4⟩ := hM.2.2 j hj
          have hmem := getD_mem ms man0 j hj
          have hm2 : rs.getD j mr0 = p.1 := by rw [hpj]
          have hm3 : ms.getD j man0 = p.2 := by rw [hpj]
          rw [hm2] at l1 l2 l3 l4
          rw [hm3] at l1 l2 l4 hmem
          obtain ⟨⟨rz, rA, rl, rc⟩, m⟩ := p
          simp only at l1 l2 l3 l4 hmem
          subst l1 l2
          have hsp : SortM (Z.take k ++ [(⟨m.size, rA, m.ids.length, rc⟩, m)]) := by rw [← HTK.out]; exact HZS.out.sublist (List.take_sublist _ _)
          have HSP := Lib.hid hsp
          have hil : m.ids.length ≤ 9223372036854775807 := by have := manE_len (HV.out m hmem); omega
          obtain ⟨k1, k2, HKM⟩ : ∃ k1 k2, Hid (keyM m = (k1, k2)) := ⟨_, _, rfl⟩
          obtain ⟨gD, cD, e7⟩ := own_some (S4.out.get 1 rfl) (by omega)
          injection e7 with e7 e8 e9
          clear e8 e9
          subst e7
          have hrow : wr.ownsRow 0 85 4 (.slice (some ⟨gD, 0, none⟩) Z.length dc) Z.length ((Z.map cnOf).flatMap encCN) := S4.out.get 1 rfl
          have hcn : (Z.map cnOf).getD k cn0 = ((k1, k2), ⟨m.size, rA, m.ids.length, rc⟩) := by
            have : (Z.map cnOf).getD k cn0 = cnOf (Z.getD k (mr0, man0)) := by simp [List.getD_eq_getElem?_getD, List.getElem?_eq_getElem hlt]
            rw [this, HPK.out, cnOf, HKM.out]
          have cell : ∀ a v, a < 4 → (encCN ((k1, k2), (⟨m.size, rA, m.ids.length, rc⟩ : MR)))[a]? = some v → wr.cell? ⟨gD, k * 4 + a, none⟩ = some v := fun a v ha hv => by
            rw [hrow.cellAt (k * 4 + a) (by omega), flat_at encCN_len cn0 _ k a (by rw [List.length_map]; exact hlt) ha, hcn]
            exact hv
          have c0 : wr.cell? ⟨gD, k * 4, none⟩ = some (.int .u64 k1) := cell 0 _ (by omega) rfl
          have c1 : wr.cell? ⟨gD, k * 4 + 1, none⟩ = some (.int .i64 k2) := cell 1 _ (by omega) rfl
          have c2 : wr.cell? ⟨gD, k * 4 + 2, none⟩ = some (.int .i64 m.size) := cell 2 _ (by omega) rfl
          have c3 : wr.cell? ⟨gD, k * 4 + 3, none⟩ = some (.slice rA m.ids.length rc) := cell 3 _ (by omega) rfl
          have S5 := Lib.hid (S4.out.newCell 85 #[.int .u64 k1, .int .i64 k2, .int .i64 m.size, .slice rA m.ids.length rc])
          have HRP : Hid (RdID wr wr.heap.size rA m.ids) := l4
          have HMEM := Lib.hid hmem
          clear hM hm2 hm3 l4 cell hrow hcn hmem hsp
          go_upto_region 14 with fail
          obtain ⟨Dk, HDK⟩ : ∃ x, Hid (ddM (Z.take k) = x) := ⟨_, rfl⟩
          rw [HDK.out] at S5 hdl ⊢
          obtain ⟨q, HQ⟩ : ∃ x, Hid (Dk.length = x) := ⟨_, rfl⟩
          rw [HQ.out] at S5 hdl ⊢
          obtain ⟨w3, HW3⟩ : ∃ W, Hid (wr.alloc (.cells #[.int .u64 k1, .int .i64 k2, .int .i64 m.size, .slice rA m.ids.length rc] 85) = W) := ⟨_, rfl⟩
          have HRP3 : Hid (RdID w3 wr.heap.size rA m.ids) := by rw [Hid, ← HW3.out]; exact HRP.out.alloc _
          rw [HW3.out] at S5 ⊢
          have b0 := (S5.out.cell 0 rfl).cell 0
          have b1 := (S5.out.cell 0 rfl).cell 1
          have hlX := (S5.out.cell 0 rfl).lt
          clear HW3 S4 c0 c1 c2 c3 HRP
          have HDIR := Lib.hid True.intro
          by_cases hq : 0 < q
          · have hqd : decide (0 < q) = true := decide_eq_true hq
            obtain ⟨gB, cB, e7⟩ := own_some (S5.out.get 1 rfl) (by omega)
            injection e7 with e7 e8 e9
            clear e8 e9
            subst e7
            have hrowB : w3.ownsRow 0 85 4 (.slice (some ⟨gB, 0, none⟩) q bc) q ((Dk.map cnOf).flatMap encCN) := S5.out.get 1 rfl
            obtain ⟨pl, HPL⟩ : ∃ x, Hid (Dk.getD (q - 1) (mr0, man0) = x) := ⟨_, rfl⟩
            have hlast : Dk.getLast? = some pl := by
              rw [List.getLast?_eq_getElem?, HQ.out, ← HPL.out, List.getD_eq_getElem?_getD, List.getElem?_eq_getElem (by rw [HQ.out]; omega)]
              rfl
            have HLAST := Lib.hid hlast
            have hplz : pl ∈ Z := List.mem_of_mem_take (ddM_sub (Z.take k) pl (by rw [HDK.out]; exact List.mem_of_getLast? hlast))
            obtain ⟨j2, hj2, hpj2⟩ := HZM.out pl hplz
            have hM := S5.out.1.holds (imOb A rs ms) (.tail _ (.tail _ (.tail _ HM.out)))
            obtain ⟨l1, l2, l3', l4⟩ := hM.2.2 j2 hj2
            have hmem := getD_mem ms man0 j2 hj2
            have hm2 : rs.getD j2 mr0 = pl.1 := by rw [hpj2]
            have hm3 : ms.getD j2 man0 = pl.2 := by rw [hpj2]
            rw [hm2] at l1 l2 l3' l4
            rw [hm3] at l1 l2 l4 hmem
            obtain ⟨⟨sz, sA, sl, sc⟩, m'⟩ := pl
            simp only at l1 l2 l3' l4 hmem
            subst l1 l2
            have hil' : m'.ids.length ≤ 9223372036854775807 := by have := manE_len (HV.out m' hmem); omega
            obtain ⟨a1, a2, HKA⟩ : ∃ a1 a2, Hid (keyM m' = (a1, a2)) := ⟨_, _, rfl⟩
            have hcn : (Dk.map cnOf).getD (q - 1) cn0 = ((a1, a2), ⟨m'.size, sA, m'.ids.length, sc⟩) := by
              have : (Dk.map cnOf).getD (q - 1) cn0 = cnOf (Dk.getD (q - 1) (mr0, man0)) := by simp [List.getD_eq_getElem?_getD, List.getElem?_eq_getElem (show q - 1 < Dk.length by rw [HQ.out]; omega)]
              rw [this, HPL.out, cnOf, HKA.out]
            have cellB : ∀ a v, a < 4 → (encCN ((a1, a2), (⟨m'.size, sA, m'.ids.length, sc⟩ : MR)))[a]? = some v → w3.cell? ⟨gB, (q - 1) * 4 + a, none⟩ = some v := fun a v ha hv => by
              rw [hrowB.cellAt ((q - 1) * 4 + a) (by omega), flat_at encCN_len cn0 _ (q - 1) a (by rw [List.length_map, HQ.out]; omega) ha, hcn]
              exact hv
            have p0 : w3.cell? ⟨gB, (q - 1) * 4, none⟩ = some (.int .u64 a1) := cellB 0 _ (by omega) rfl
            have p1 : w3.cell? ⟨gB, (q - 1) * 4 + 1, none⟩ = some (.int .i64 a2) := cellB 1 _ (by omega) rfl
            have p3 : w3.cell? ⟨gB, (q - 1) * 4 + 3, none⟩ = some (.slice sA m'.ids.length sc) := cellB 3 _ (by omega) rfl
            have P3 := Lib.hid p3
            have hlB : gB < w3.heap.size := (hrowB.lt gB rfl).2
            have ek : ((q : Int) - 1).toNat = q - 1 := by omega
            have HRQ : Hid (RdID w3 w3.heap.size sA m'.ids) := l4
            have HMEM2 := Lib.hid hmem
            clear hM hm2 hm3 l4 cellB hcn hmem hlast p3
            by_cases h1 : a1 = k1
            · have h1 := h1.symm
              subst h1
              by_cases h2 : a2 = k2
              · have h2 := h2.symm
                subst h2
                refine wp_region_ext (by kernel_rfl) (by kernel_rfl) ?_
                repeat (go_big_quiet_step (fail))
                refine wpQuiet_nil ?_
                intro w4 hb4
                have S6 := Lib.hid (S5.out.on hb4)
                have hlX4 := (S6.out.cell 0 rfl).lt
                have hlB4 : gB < w4.heap.size := Nat.lt_of_lt_of_le hlB hb4.size
                have p3 : w4.cell? ⟨gB, (q - 1) * 4 + 3, none⟩ = some (.slice sA m'.ids.length sc) := (hb4.cell hlB).trans P3.out
                have b3 := (S6.out.cell 0 rfl).cell 3
                have HEQ := Lib.hid (fun (W : World) (hb : Below w4.heap.size w4 W) => Equal_any _ _ m'.ids m.ids sA rA sc rc W ((HRQ.out.on hb4).on hb) ((HRP3.out.on hb4).on hb) hil' hil)
                have HKK : Hid (keyM m' = keyM m) := HKA.out.trans HKM.out.symm
                clear hb4 S5 b0 b1 p0 p1 hlX hlB
                obtain ⟨v, hv⟩ : ∃ v, decide (m'.ids = m.ids) = v := ⟨_, rfl⟩
                rw [hv] at HEQ
                go_upto_region 15 with fail
                refine wp_region_ext (by kernel_rfl) (by kernel_rfl) ?_
                repeat (go_big_quiet_step ((go_at_call 86; exact ext_call (HEQ.out _ (wext_below _)))))
                refine wpQuiet_nil ?_
                intro w5 hb5
                have S7 := Lib.hid (S6.out.on hb5)
                clear hb5 S6 p3 b3 HEQ
                cases v with
                | true =>
                  have hids := of_decide_eq_true hv
                  have HNEW := Lib.hid (good_same (p := (⟨m.size, rA, m.ids.length, rc⟩, m)) HG.out (by rw [HDK.out]; exact HLAST.out) HKK.out hids)
                  have HL8 : Hid (ddM (Z.take (k + 1)) = Dk) := by rw [Hid, HTK.out, HNEW.out.1, HDK.out]
                  clear hv hids
                  go_wp2_with fail
                  go_roundw
                  case rel => exact ⟨k + 1, some ⟨gB, 0, none⟩, bc, by omega, by go_num, by rw [HL8.out, HQ.out], by rw [HTK.out]; exact HNEW.out.2, by rw [HL8.out, HQ.out]; exact S7.out.tail⟩
                  case measure => simp [intOf]; omega
                | false =>
                  have HNO : Hid (¬ OneM ms) := fun ho => of_decide_eq_false hv (ho m' HMEM2.out m HMEM.out HKK.out)
                  clear hv
                  go_wp2_with fail
                  go_ret2
                  exact .inr ⟨HNO.out, rfl, S7.out.tail.tail.tail⟩
              · have hne : (a2 == k2) = false := by rw [beq_eq_false_iff_ne]; exact h2
                have HNK : Hid (keyM m' ≠ keyM m) := by rw [Hid, HKA.out, HKM.out]; exact fun h => h2 (by injection h)
                clear h2
                refine wp_region_ext (by kernel_rfl) (by kernel_rfl) ?_
                repeat (go_big_quiet_step (fail))
                refine wpQuiet_nil ?_
                intro w4 hb4
                clear b0 b1 hlX p0 p1 hlB
                have S6 := Lib.hid (S5.out.on hb4)
                clear hb4 S5 HDIR
                have b0 := (S6.out.cell 0 rfl).cell 0
                have b1 := (S6.out.cell 0 rfl).cell 1
                have b2 := (S6.out.cell 0 rfl).cell 2
                have b3 := (S6.out.cell 0 rfl).cell 3
                have HNEW := Lib.hid (good_new HSP.out HG.out (fun q' hq' => by rw [HDK.out, HLAST.out] at hq'; injection hq' with hq'; subst hq'; exact HNK.out))
                have S7 := Lib.hid (S6.out.alloc (.cells #[.int .u64 k1, .int .i64 k2, .int .i64 m.size, .slice rA m.ids.length rc] 85))
                go_wp2_with (at_builtin; (refine wpList_rowS (t := 78) (e := 85) (size := 4) (bytes := 48) (i := i1) S7.out 1 rfl (by rfl) (.tmp 66) (.tmp 68) (by rfl) Tryz.underlying78 gi gz0 gz1 gz2 rfl (by omega) (by rfl) ⟨w4.heap.size, 0, none⟩ 1 [.int .u64 k1, .int .i64 k2, .int .i64 m.size, .slice rA m.ids.length rc] (by rfl) rfl (four_new _ _ _ _ _ _ _ rfl) (encCN_one ((k1, k2), ⟨m.size, rA, m.ids.length, rc⟩)) (by unfold maxLen; omega) (by omega) ?_); refine halt_ ?_)
                intro v8 w8 s8
                obtain ⟨g8, c8, rfl⟩ := own_some (s8.get 1 rfl) (by omega)
                have HL8 : Hid ((ddM (Z.take (k + 1))).length = q + 1) := by rw [Hid, HTK.out, HNEW.out.1, List.length_append, HDK.out, HQ.out]; rfl
                have S8 : Hid (SW b w0 (rowOb 85 4 (.slice (some ⟨g8, 0, none⟩) (ddM (Z.take (k + 1))).length c8) (ddM (Z.take (k + 1))).length (((ddM (Z.take (k + 1))).map cnOf).flatMap encCN) :: rowOb 85 4 (.slice (some ⟨gD, 0, none⟩) Z.length dc) Z.length ((Z.map cnOf).flatMap encCN) :: l) w8) := by
                  rw [Hid, HL8.out, HTK.out, HNEW.out.1, List.map_append, List.flatMap_append, HDK.out]
                  have := s8.tail
                  simp only [List.map_cons, List.map_nil, List.flatMap_cons, List.flatMap_nil, List.append_nil, cnOf, HKM.out, encCN]
                  exact this
                clear s8 S6 S7 b0 b1 b2 b3
                go_wp2_with fail
                go_roundw
                case rel => exact ⟨k + 1, some ⟨g8, 0, none⟩, c8, by omega, by go_num, by rw [HL8.out], by rw [HTK.out]; exact HNEW.out.2, S8.out⟩
                case measure => simp [intOf]; omega
            · have hne : (a1 == k1) = false := by rw [beq_eq_false_iff_ne]; exact h1
              have HNK : Hid (keyM m' ≠ keyM m) := by rw [Hid, HKA.out, HKM.out]; exact fun h => h1 (by injection h)
              clear h1
              refine wp_region_ext (by kernel_rfl) (by kernel_rfl) ?_
              repeat (go_big_quiet_step (fail))
              refine wpQuiet_nil ?_
              intro w4 hb4
              clear b0 b1 hlX p0 p1 hlB
              have S6 := Lib.hid (S5.out.on hb4)
              clear hb4 S5 HDIR
              have b0 := (S6.out.cell 0 rfl).cell 0
              have b1 := (S6.out.cell 0 rfl).cell 1
              have b2 := (S6.out.cell 0 rfl).cell 2
              have b3 := (S6.out.cell 0 rfl).cell 3
              have HNEW := Lib.hid (good_new HSP.out HG.out (fun q' hq' => by rw [HDK.out, HLAST.out] at hq'; injection hq' with hq'; subst hq'; exact HNK.out))
              have S7 := Lib.hid (S6.out.alloc (.cells #[.int .u64 k1, .int .i64 k2, .int .i64 m.size, .slice rA m.ids.length rc] 85))
              go_wp2_with (at_builtin; (refine wpList_rowS (t := 78) (e := 85) (size := 4) (bytes := 48) (i := i1) S7.out 1 rfl (by rfl) (.tmp 66) (.tmp 68) (by rfl) Tryz.underlying78 gi gz0 gz1 gz2 rfl (by omega) (by rfl) ⟨w4.heap.size, 0, none⟩ 1 [.int .u64 k1, .int .i64 k2, .int .i64 m.size, .slice rA m.ids.length rc] (by rfl) rfl (four_new _ _ _ _ _ _ _ rfl) (encCN_one ((k1, k2), ⟨m.size, rA, m.ids.length, rc⟩)) (by unfold maxLen; omega) (by omega) ?_); refine halt_ ?_)
              intro v8 w8 s8
              obtain ⟨g8, c8, rfl⟩ := own_some (s8.get 1 rfl) (by omega)
              have HL8 : Hid ((ddM (Z.take (k + 1))).length = q + 1) := by rw [Hid, HTK.out, HNEW.out.1, List.length_append, HDK.out, HQ.out]; rfl
              have S8 : Hid (SW b w0 (rowOb 85 4 (.slice (some ⟨g8, 0, none⟩) (ddM (Z.take (k + 1))).length c8) (ddM (Z.take (k + 1))).length (((ddM (Z.take (k + 1))).map cnOf).flatMap encCN) :: rowOb 85 4 (.slice (some ⟨gD, 0, none⟩) Z.length dc) Z.length ((Z.map cnOf).flatMap encCN) :: l) w8) := by
                rw [Hid, HL8.out, HTK.out, HNEW.out.1, List.map_append, List.flatMap_append, HDK.out]
                have := s8.tail
                simp only [List.map_cons, List.map_nil, List.flatMap_cons, List.flatMap_nil, List.append_nil, cnOf, HKM.out, encCN]
                exact this
              clear s8 S6 S7 b0 b1 b2 b3
              go_wp2_with fail
              go_roundw
              case rel => exact ⟨k + 1, some ⟨g8, 0, none⟩, c8, by omega, by go_num, by rw [HL8.out], by rw [HTK.out]; exact HNEW.out.2, S8.out⟩
              case measure => simp [intOf]; omega
          · have hq0 : q = 0 := by omega
            have hqd : decide (0 < q) = false := by simp [hq0]
            have hnil : Dk = [] := List.eq_nil_of_length_eq_zero (by rw [HQ.out, hq0])
            have HNIL := Lib.hid hnil
            clear hq hq0 hnil
            refine wp_region_ext (by kernel_rfl) (by kernel_rfl) ?_
            repeat (go_big_quiet_step (fail))
            refine wpQuiet_nil ?_
            intro w4 hb4
            clear b0 b1 hlX
            have S6 := Lib.hid (S5.out.on hb4)
            clear hb4 S5 HDIR
            have b0 := (S6.out.cell 0 rfl).cell 0
            have b1 := (S6.out.cell 0 rfl).cell 1
            have b2 := (S6.out.cell 0 rfl).cell 2
            have b3 := (S6.out.cell 0 rfl).cell 3
            have HNEW := Lib.hid (good_new HSP.out HG.out (fun q' hq' => by rw [HDK.out, HNIL.out] at hq'; cases hq'))
            have S7 := Lib.hid (S6.out.alloc (.cells #[.int .u64 k1, .int .i64 k2, .int .i64 m.size, .slice rA m.ids.length rc] 85))
            go_wp2_with (at_builtin; (refine wpList_rowS (t := 78) (e := 85) (size := 4) (bytes := 48) (i := i1) S7.out 1 rfl (by rfl) (.tmp 66) (.tmp 68) (by rfl) Tryz.underlying78 gi gz0 gz1 gz2 rfl (by omega) (by rfl) ⟨w4.heap.size, 0, none⟩ 1 [.int .u64 k1, .int .i64 k2, .int .i64 m.size, .slice rA m.ids.length rc] (by rfl) rfl (four_new _ _ _ _ _ _ _ rfl) (encCN_one ((k1, k2), ⟨m.size, rA, m.ids.length, rc⟩)) (by unfold maxLen; omega) (by omega) ?_); refine halt_ ?_)
            intro v8 w8 s8
            obtain ⟨g8, c8, rfl⟩ := own_some (s8.get 1 rfl) (by omega)
            have HL8 : Hid ((ddM (Z.take (k + 1))).length = q + 1) := by rw [Hid, HTK.out, HNEW.out.1, List.length_append, HDK.out, HQ.out]; rfl
            have S8 : Hid (SW b w0 (rowOb 85 4 (.slice (some ⟨g8, 0, none⟩) (ddM (Z.take (k + 1))).length c8) (ddM (Z.take (k + 1))).length (((ddM (Z.take (k + 1))).map cnOf).flatMap encCN) :: rowOb 85 4 (.slice (some ⟨gD, 0, none⟩) Z.length dc) Z.length ((Z.map cnOf).flatMap encCN) :: l) w8) := by
              rw [Hid, HL8.out, HTK.out, HNEW.out.1, List.map_append, List.flatMap_append, HDK.out]
              have := s8.tail
              simp only [List.map_cons, List.map_nil, List.flatMap_cons, List.flatMap_nil, List.append_nil, cnOf, HKM.out, encCN]
              exact this
            clear s8 S6 S7 b0 b1 b2 b3
            go_wp2_with fail
            go_roundw
            case rel => exact ⟨k + 1, some ⟨g8, 0, none⟩, c8, by omega, by go_num, by rw [HL8.out], by rw [HTK.out]; exact HNEW.out.2, S8.out⟩
            case measure => simp [intOf]; omega
        · obtain rfl : k = Z.length := by omega
          rw [List.take_length] at S4 HG hdl ⊢
          have hcon := con_of_sorted HV.out HZP.out HZS.out HG.out
          have HCON := Lib.hid hcon
          have hM := S4.out.1.holds (imOb A rs ms) (.tail _ (.tail _ HM.out))
          have S5 : Hid (SW b w0 (rowOb 85 4 (.slice B (ddM Z).length bc) (ddM Z).length (((ddM Z).map cnOf).flatMap encCN) :: msOb ((ddM Z).map (·.1)) ((ddM Z).map (·.2)) :: l) wr) := by
            have hlk : ∀ j, j < (ddM Z).length → ∃ i, i < ms.length ∧ (ddM Z).getD j (mr0, man0) = (rs.getD i mr0, ms.getD i man0) := fun j hj => HZM.out _ (ddM_sub Z _ (getD_mem _ _ _ hj))
            have e1 : ∀ j, j < (ddM Z).length → ((ddM Z).map (·.1)).getD j mr0 = ((ddM Z).getD j (mr0, man0)).1 := fun j hj => by simp [List.getD_eq_getElem?_getD, List.getElem?_eq_getElem hj]
            have e2 : ∀ j, j < (ddM Z).length → ((ddM Z).map (·.2)).getD j man0 = ((ddM Z).getD j (mr0, man0)).2 := fun j hj => by simp [List.getD_eq_getElem?_getD, List.getElem?_eq_getElem hj]
            refine SW.front (pre := [_, _]) (SW.again (o' := msOb ((ddM Z).map (·.1)) ((ddM Z).map (·.2))) (SW.sub S4.out (l' := rowOb 85 4 (.slice B (ddM Z).length bc) (ddM Z).length (((ddM Z).map cnOf).flatMap encCN) :: l) (.cons_cons _ (.cons _ (List.Sublist.refl _)))) (.tail _ HM.out) (fun _ h => h) ⟨by simp, fun j hj => ?_⟩ (fun _ h => h) (fun i hi => ?_)) [1, 0] (n := 2) rfl (by decide)
            · have hj : j < (ddM Z).length := by simpa using hj
              obtain ⟨i, hi, e⟩ := hlk j hj
              rw [e1 j hj, e2 j hj, e]
              exact hM.2.2 i hi
            · obtain ⟨j, hj, hp, o, ho⟩ := hi
              have hj : j < (ddM Z).length := by simpa using hj
              obtain ⟨i', hi', e⟩ := hlk j hj
              rw [e2 j hj, e] at hp
              rw [e1 j hj, e] at ho
              exact .inr ⟨i', hi', hp, o, ho⟩
          clear S4 hM hcon
          go_wp2_with fail
          go_ret2
          exact .inl ⟨HCON.out.1, ddM Z, B, bc, HCON.out.2, rfl, S5.out⟩
end
end Go.Proofs.YtmiknfneeipkeaaGreat
