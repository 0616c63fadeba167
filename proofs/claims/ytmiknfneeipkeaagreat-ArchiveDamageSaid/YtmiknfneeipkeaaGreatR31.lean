/- Contracts of the walk, part 31. -/
import Derived.Deep.CutRange
import Derived.Test.YtmiknfneeipkeaaGreatR29
import Derived.Test.YtmiknfneeipkeaaGreatR30
namespace Go.Proofs.YtmiknfneeipkeaaGreat
open Go.RowKit Go.MapKept Go.ChangeMaps Go.Shelf Go.Sort
theorem take_from (pre s : List UInt8) (x : Nat) (hx : x < 18446744073709551616) {bs : List UInt8} {k : Nat} (hb : bs = pre ++ (putU x ++ s)) (hk : k = pre.length) : takeU 0 0 (bs.drop k) = some (x, (putU x).length) := by
  subst hb hk
  rw [List.drop_left]
  exact take_put0 x hx s
theorem numD_put (pre s : List UInt8) (x most : Nat) (hx : x < 18446744073709551616) (hm : x ≤ most) {bs : List UInt8} {k : Nat} (hb : bs = pre ++ (putU x ++ s)) (hk : k = pre.length) : numD bs k false most = (x, k + (putU x).length, false) := by
  unfold numD
  rw [if_neg (by simp), take_from pre s x hx hb hk]
  simp only
  rw [if_neg (by omega)]
def idB (i : ID) : List UInt8 := putU i.2.toNat ++ putU i.1.toNat
def okI (i : ID) : Prop := 0 ≤ i.2 ∧ i.2 ≤ 8192 ∧ 0 ≤ i.1 ∧ i.1 < 2305843009213693951
theorem stepD_put (pre s : List UInt8) (i : ID) (h : okI i) {bs : List UInt8} {k : Nat} (acc : List ID) (hb : bs = pre ++ (idB i ++ s)) (hk : k = pre.length) : stepD bs (acc, k, false) = (acc ++ [i], k + (idB i).length, false) := by
  obtain ⟨h1, h2, h3, h4⟩ := h
  have e1 := numD_put pre (putU i.1.toNat ++ s) i.2.toNat 8192 (by omega) (by omega) (bs := bs) (k := k) (by rw [hb, idB, List.append_assoc]) hk
  have e2 := numD_put (pre ++ putU i.2.toNat) s i.1.toNat 2305843009213693951 (by omega) (by omega) (bs := bs) (k := k + (putU i.2.toNat).length) (by rw [hb, idB]; simp only [List.append_assoc]) (by rw [hk, List.length_append])
  unfold stepD
  rw [if_neg (by simp)]
  simp only [e1, e2]
  rw [if_neg (by simp)]
  have e3 : (((i.1.toNat : Nat) : Int), ((i.2.toNat : Nat) : Int)) = i := by
    obtain ⟨a, c⟩ := i
    simp only at *
    rw [Int.toNat_of_nonneg h3, Int.toNat_of_nonneg h1]
  rw [e3, idB, List.length_append, Nat.add_assoc]
theorem idsD_put (pre s : List UInt8) (ids : List ID) (h : ∀ i ∈ ids, okI i) {bs : List UInt8} (hb : bs = pre ++ (ids.flatMap idB ++ s)) {k : Nat} (hk : k = pre.length) : ∀ n, n ≤ ids.length → idsD bs ([], k, false) n = (ids.take n, k + ((ids.take n).flatMap idB).length, false) := by
  intro n
  induction n with
  | zero => intro _; simp [idsD]
  | succ n ih =>
    intro hn
    have hlt : n < ids.length := by omega
    have e1 : ids.take (n + 1) = ids.take n ++ [ids[n]] := by rw [List.take_succ_eq_append_getElem hlt]
    rw [idsD, ih (by omega)]
    rw [stepD_put (pre ++ (ids.take n).flatMap idB) ((ids.drop (n + 1)).flatMap idB ++ s) ids[n] (h _ (List.getElem_mem hlt)) _ ?_ (by rw [hk, List.length_append])]
    · rw [e1, List.flatMap_append, List.length_append, List.flatMap_singleton, Nat.add_assoc]
    · have e2 : ids = ids.take n ++ (ids[n] :: ids.drop (n + 1)) := by rw [← List.drop_eq_getElem_cons hlt, List.take_append_drop]
      have e3 : ids.flatMap idB = (ids.take n).flatMap idB ++ (idB ids[n] ++ (ids.drop (n + 1)).flatMap idB) := by
        conv => lhs; rw [e2]
        rw [List.flatMap_append, List.flatMap_cons]
      rw [hb, e3]
      simp only [List.append_assoc]
theorem manB_eq (m : Man) : manB m = putU m.size.toNat ++ (putU m.ids.length ++ m.ids.flatMap idB) := by
  have key : ∀ l : List ID, (l.flatMap (fun i => [i.2, i.1])).flatMap (fun n : Int => putU n.toNat) = l.flatMap idB := fun l => by
    induction l with
    | nil => rfl
    | cons a l ih =>
      rw [List.flatMap_cons, List.flatMap_append, ih, List.flatMap_cons]
      simp [idB]
  rw [manB, numsM, List.flatMap_append, key]
  simp
theorem okI_of {m : Man} (h : ManOk m) : ∀ i ∈ m.ids, okI i := fun i hi => by
  have h1 := List.all_eq_true.1 (manE_zero h.1).1 i hi
  have h2 := chunkB_sound h1
  have h3 : 0 ≤ i.1 := okID_pos (i1 := i.1) (i2 := i.2) (h.2 i hi)
  simp only [chunkB, validB, Bool.and_eq_true, decide_eq_true_eq] at h1
  exact ⟨by omega, by omega, h3, by omega⟩
theorem man_size {m : Man} (h : ManOk m) : 0 ≤ m.size ∧ m.size ≤ 1048576 := by
  have hv := manE_zero h.1
  have h1 := sum_take_bd (l := m.ids) (k := m.ids.length) (by rw [List.take_length]; exact hv.1)
  rw [List.take_length] at h1
  exact ⟨by rw [hv.2.1]; exact h1.1, hv.2.2⟩
theorem decM_put {m : Man} (h : ManOk m) : decM (manB m) = some m := by
  have hs := man_size h
  have hl := manE_len h.1
  have e0 := manB_eq m
  have e1 : headD (manB m) = (m.size.toNat, (putU m.size.toNat).length, false) := by
    have := numD_put [] (putU m.ids.length ++ m.ids.flatMap idB) m.size.toNat 1048576 (by omega) (by omega) (bs := manB m) (k := 0) (by rw [e0]; rfl) rfl
    rw [headD, this, Nat.zero_add]
  have e2 : cntD (manB m) = (m.ids.length, (putU m.size.toNat).length + (putU m.ids.length).length, false) := by
    have := numD_put (putU m.size.toNat) (m.ids.flatMap idB) m.ids.length 1024 (by omega) (by omega) (bs := manB m) (k := (putU m.size.toNat).length) e0 rfl
    rw [cntD, e1]
    exact this
  have e3 : allD (manB m) = (m.ids, (manB m).length, false) := by
    have := idsD_put (putU m.size.toNat ++ putU m.ids.length) [] m.ids (okI_of h) (bs := manB m) (by rw [e0, List.append_nil, List.append_assoc]) (k := (putU m.size.toNat).length + (putU m.ids.length).length) (by rw [List.length_append]) m.ids.length (Nat.le_refl _)
    rw [allD, e2]
    simp only
    rw [this, List.take_length]
    congr 2
    rw [e0]
    simp only [List.length_append]
    omega
  have e4 : (⟨((m.size.toNat : Nat) : Int), m.ids⟩ : Man) = m := by
    obtain ⟨z, ids⟩ := m
    simp only at *
    rw [Int.toNat_of_nonneg hs.1]
  unfold decM
  rw [e3, e1]
  simp only
  rw [e4, if_neg]
  rintro (h1 | h1 | h1)
  · cases h1
  · exact h1 rfl
  · exact h1 h.1
theorem oneM_put {m : Man} (h : ManOk m) (s : List UInt8) : oneM (partB m ++ s) = some (m, (partB m).length) := by
  have hl := manB_len h.1 h.2
  have e1 : partB m ++ s = putU (manB m).length ++ (manB m ++ s) := by rw [partB, List.append_assoc]
  unfold oneM
  rw [e1, take_put0 _ (by omega)]
  simp only
  rw [List.drop_left, if_neg (by rw [List.length_append]; omega), List.take_left, decM_put h]
  simp [partB]
theorem mansL_put {s : List UInt8} : ∀ (ys : List Man) (pre bs : List UInt8) (k : Nat), (∀ m ∈ ys, ManOk m) → bs = pre ++ (ys.flatMap partB ++ s) → k = pre.length → mansL bs ys.length k = some (ys, k + (ys.flatMap partB).length) := by
  intro ys
  induction ys with
  | nil => intro pre bs k _ _ _; simp [mansL]
  | cons m ys ih =>
    intro pre bs k h hb hk
    have e1 : bs.drop k = partB m ++ (ys.flatMap partB ++ s) := by rw [hb, hk, List.drop_left, List.flatMap_cons, List.append_assoc]
    rw [List.length_cons, mansL, e1, oneM_put (h m (.head _))]
    simp only
    rw [ih (pre ++ partB m) bs (k + (partB m).length) (fun x hx => h x (.tail _ hx)) (by rw [hb, List.flatMap_cons]; simp only [List.append_assoc]) (by rw [hk, List.length_append])]
    simp [Nat.add_assoc]
theorem rdMans_put (ys : List Man) (s : List UInt8) (h : ∀ m ∈ ys, ManOk m) (hn : ys.length < 18446744073709551616) : rdMans (volH ys.length ys ++ s) = some (ys, (volH ys.length ys).length) := by
  have e1 : volH ys.length ys ++ s = [83, 89, 65, 82] ++ (putU ys.length ++ (ys.flatMap partB ++ s)) := by rw [volH]; simp only [List.append_assoc]
  unfold rdMans
  rw [if_pos (by rw [e1]; exact List.prefix_append _ _), take_from [83, 89, 65, 82] (ys.flatMap partB ++ s) ys.length hn (k := 4) e1 rfl]
  simp only
  rw [mansL_put (s := s) ys ([83, 89, 65, 82] ++ putU ys.length) _ _ h (by rw [e1]; simp only [List.append_assoc]) (by simp; omega)]
  congr 2
  rw [volH]
  simp only [List.length_append, List.length_cons, List.length_nil]
theorem opnV_put (ys : List Man) (X : List UInt8) (h : ∀ m ∈ ys, ManOk m) (hn : ys.length < 18446744073709551616) : opnV (volH ys.length ys ++ X) = (decP X).map (fun cs => (ys, cs)) := by
  unfold opnV
  rw [rdMans_put ys X h hn]
  simp only
  rw [List.drop_left]
theorem frP_gen (pre cs s : List UInt8) (sz sm : Nat) (last : Option ID) (hc : cs.length = sz) (h1 : 1 ≤ sz) (h2 : sz ≤ 8192) (h3 : sm < 18446744073709551616) {bs : List UInt8} {k : Nat} (hb : bs = pre ++ (putU sz ++ (putU sm ++ (cs ++ s)))) (hk : k = pre.length) :
    frP bs k last = if fpOf cs ≠ ((sm : Int), (sz : Int)) then none else if last.any (fun x => decide (0 ≤ cmpID x ((sm : Int), (sz : Int)))) = true then none else some (((((sm : Int), (sz : Int)) : ID), cs), k + (putU sz).length + (putU sm).length + sz) := by
  have e1 := take_from pre _ sz (by omega) hb hk
  have e2 := take_from (pre ++ putU sz) (cs ++ s) sm h3 (bs := bs) (k := k + (putU sz).length) (by rw [hb]; simp only [List.append_assoc]) (by rw [hk, List.length_append])
  have e3 : bs.drop (k + (putU sz).length + (putU sm).length) = cs ++ s := by
    have : bs = (pre ++ putU sz ++ putU sm) ++ (cs ++ s) := by rw [hb]; simp only [List.append_assoc]
    rw [this, show k + (putU sz).length + (putU sm).length = (pre ++ putU sz ++ putU sm).length by rw [hk, List.length_append, List.length_append], List.drop_left]
  have e4 : (cs ++ s).take sz = cs := by rw [← hc, List.take_left]
  have e5 : bs.length = k + (putU sz).length + (putU sm).length + sz + s.length := by
    rw [hb, hk]
    simp only [List.length_append]
    omega
  unfold frP
  rw [e1]
  simp only
  rw [e2]
  simp only
  rw [if_neg (by omega), e3, e4]
theorem okCH_id {e : CH} (h : okCH e = true) : (((fpSum e.2.bs : Nat) : Int), ((e.2.bs.length : Nat) : Int)) = e.1 ∧ 1 ≤ e.2.bs.length ∧ e.2.bs.length ≤ 8192 := by
  obtain ⟨⟨i1, i2⟩, e⟩ := e
  obtain ⟨h1, h2, h3, h4⟩ := okCH_eq h
  exact ⟨by rw [h1, h2], h3, h4⟩
theorem getD_from (pre s : List UInt8) (x : UInt8) : (pre ++ x :: s).getD pre.length 0 = x := by simp [List.getD_eq_getElem?_getD]
theorem sum_small (bs : List UInt8) : fpSum bs < 18446744073709551616 := Nat.lt_trans (fpSum_lt bs) (by decide)
theorem last_any {acc : List PC} {c : PC} (h : AscI ((acc ++ [c]).map (·.1))) : (acc.getLast?.map (·.1)).any (fun x => decide (0 ≤ cmpID x c.1)) = false := by
  rcases List.eq_nil_or_concat acc with rfl | ⟨l, a, rfl⟩
  · rfl
  · rw [List.concat_eq_append] at h ⊢
    rw [List.getLast?_append, List.getLast?_singleton]
    have h1 := (List.pairwise_append.1 (by simpa only [List.map_append] using h)).2.2 a.1 (by simp) c.1 (by simp)
    have h2 := cmpID_lt h1
    simp only [Option.some_or, Option.map_some, Option.any_some, decide_eq_false_iff_not]
    omega
theorem frsP_put {s bs : List UInt8} : ∀ (T : List CH) (pre : List UInt8) (k f : Nat) (acc : List PC), (∀ e ∈ T, okCH e = true) → AscI ((acc ++ pcs T).map (·.1)) → T.length ≤ f → bs = pre ++ (T.flatMap frameP ++ s) → k = pre.length → frsP bs f k acc = frsP bs (f - T.length) (k + (T.flatMap frameP).length) (acc ++ pcs T) := by
  intro T
  induction T with
  | nil => intro pre k f acc _ _ _ _ _; simp [pcs]
  | cons e T ih =>
    intro pre k f acc hok ha hf hb hk
    obtain ⟨hid, hl1, hl2⟩ := okCH_id (hok e (.head _))
    have hpc : pcs (e :: T) = (e.1, e.2.bs) :: pcs T := rfl
    have ha1 : AscI ((acc ++ [((e.1, e.2.bs) : PC)]).map (·.1)) := by
      rw [hpc, show acc ++ (e.1, e.2.bs) :: pcs T = (acc ++ [((e.1, e.2.bs) : PC)]) ++ pcs T by simp, List.map_append] at ha
      exact (List.pairwise_append.1 ha).1
    have hlast := last_any ha1
    rw [List.length_cons] at hf
    obtain ⟨f, rfl⟩ : ∃ f', f = f' + 1 := ⟨f - 1, by omega⟩
    have eb : bs = pre ++ ((1 : UInt8) :: (putU e.2.bs.length ++ (putU (fpSum e.2.bs) ++ (e.2.bs ++ (T.flatMap frameP ++ s))))) := by
      rw [hb, List.flatMap_cons, frameP]
      simp
    have eb1 : bs = (pre ++ [(1 : UInt8)]) ++ (putU e.2.bs.length ++ (putU (fpSum e.2.bs) ++ (e.2.bs ++ (T.flatMap frameP ++ s)))) := by
      rw [eb]
      simp
    have e1 := frP_gen (pre ++ [(1 : UInt8)]) e.2.bs (T.flatMap frameP ++ s) e.2.bs.length (fpSum e.2.bs) (acc.getLast?.map (·.1)) rfl hl1 hl2 (sum_small _) eb1 (k := k + 1) (by rw [hk, List.length_append]; rfl)
    rw [hid, if_neg (by simp only [ne_eq, Decidable.not_not]; exact hid), if_neg (by rw [hlast]; simp)] at e1
    have eg : bs.getD k 0 = 1 := by rw [eb, hk]; exact getD_from _ _ _
    have efl : (frameP e).length = 1 + (putU e.2.bs.length).length + (putU (fpSum e.2.bs)).length + e.2.bs.length := by
      rw [frameP]
      simp only [List.length_append, List.length_cons, List.length_nil]
    rw [frsP, if_neg (by rw [eb, hk, List.length_append, List.length_cons]; omega), if_neg (by rw [eg]; decide), if_pos eg, e1]
    simp only
    rw [ih (pre ++ frameP e) _ f (acc ++ [(e.1, e.2.bs)]) (fun x hx => hok x (.tail _ hx)) (by rw [hpc] at ha; simpa using ha) (by omega) (by rw [hb, List.flatMap_cons]; simp only [List.append_assoc]) (by rw [hk, List.length_append, efl]; omega)]
    rw [List.length_cons, List.flatMap_cons, List.length_append, efl, hpc, show f + 1 - (T.length + 1) = f - T.length by omega]
    congr 1
    · omega
    · simp
theorem frames_le (T : List CH) : T.length ≤ (T.flatMap frameP).length := by
  induction T with
  | nil => exact Nat.le_refl _
  | cons e T ih =>
    rw [List.flatMap_cons, List.length_append, List.length_cons]
    have : 1 ≤ (frameP e).length := by
      rw [frameP]
      simp only [List.length_append, List.length_cons, List.length_nil]
      omega
    omega
theorem decP_spoilt {T : List CH} (hok : ∀ e ∈ T, okCH e = true) (ha : AscI (T.map (·.1))) {cs s : List UInt8} {sz sm : Nat} (hc : cs.length = sz) (h1 : 1 ≤ sz) (h2 : sz ≤ 8192) (h3 : sm < 18446744073709551616) (hne : fpOf cs ≠ ((sm : Int), (sz : Int))) {bs : List UInt8} (hb : bs = packM ++ (T.flatMap frameP ++ ([1] ++ (putU sz ++ (putU sm ++ (cs ++ s)))))) : decP bs = none := by
  have hfl := frames_le T
  have hln : bs.length = 4 + (T.flatMap frameP).length + 1 + (putU sz ++ (putU sm ++ (cs ++ s))).length := by
    rw [hb, packM]
    simp only [List.length_append, List.length_cons, List.length_nil]
    omega
  have hasc : AscI ((([] : List PC) ++ pcs T).map (·.1)) := by
    rw [List.nil_append, pcs, List.map_map]
    exact ha
  have e1 := frsP_put (s := [1] ++ (putU sz ++ (putU sm ++ (cs ++ s)))) (bs := bs) T packM 4 (bs.length + 1) [] hok hasc (by omega) hb rfl
  obtain ⟨f, hf⟩ : ∃ f, bs.length + 1 - T.length = f + 1 := ⟨bs.length - T.length, by omega⟩
  have eb : bs = (packM ++ T.flatMap frameP) ++ ((1 : UInt8) :: (putU sz ++ (putU sm ++ (cs ++ s)))) := by rw [hb]; simp
  have hk4 : 4 + (T.flatMap frameP).length = (packM ++ T.flatMap frameP).length := by rw [List.length_append]; rfl
  have eg : bs.getD (4 + (T.flatMap frameP).length) 0 = 1 := by
    conv => lhs; rw [eb, hk4]
    exact getD_from _ _ _
  have e2 := frP_gen (packM ++ T.flatMap frameP ++ [1]) cs s sz sm ((pcs T).getLast?.map (·.1)) hc h1 h2 h3 (bs := bs) (k := 4 + (T.flatMap frameP).length + 1) (by rw [eb]; simp) (by rw [List.length_append, List.length_append]; rfl)
  rw [if_pos hne] at e2
  have e3 : frsP bs (f + 1) (4 + (T.flatMap frameP).length) (pcs T) = none := by rw [frsP, if_neg (by omega), if_neg (by rw [eg]; decide), if_pos eg, e2]
  rw [hf, List.nil_append, e3] at e1
  unfold decP
  split
  · rfl
  · split
    · rw [e1]
    · rfl
theorem frP_last {bs : List UInt8} {k j : Nat} {last : Option ID} {c : PC} (h : frP bs k last = some (c, j)) : last.any (fun x => decide (0 ≤ cmpID x c.1)) = false := by
  unfold frP at h
  split at h
  · cases h
  · split at h
    · cases h
    · split at h
      · cases h
      · split at h
        · cases h
        · split at h
          · cases h
          · rename_i hl
            injection h with h
            injection h with h1 _
            rw [← h1]
            simpa using hl
theorem asc_snocP {acc : List PC} {c : PC} (ha : AscI (acc.map (·.1))) (h : (acc.getLast?.map (·.1)).any (fun x => decide (0 ≤ cmpID x c.1)) = false) : AscI ((acc ++ [c]).map (·.1)) := by
  rw [List.map_append]
  refine List.pairwise_append.2 ⟨ha, by simp, fun x hx y hy => ?_⟩
  rw [List.map_singleton, List.mem_singleton] at hy
  subst hy
  rcases List.eq_nil_or_concat acc with rfl | ⟨l, a, rfl⟩
  · cases hx
  · rw [List.concat_eq_append] at h ha hx
    rw [List.getLast?_append, List.getLast?_singleton] at h
    simp only [Option.some_or, Option.map_some, Option.any_some, decide_eq_false_iff_not] at h
    have h1 : ltID a.1 c.1 = true := by
      cases hc : ltID a.1 c.1 with
      | true => rfl
      | false => exact absurd (cmpID_ge hc) h
    rw [List.map_append, List.mem_append, List.map_singleton, List.mem_singleton] at hx
    rcases hx with hx | rfl
    · rw [List.map_append] at ha
      exact ltI_trans ((List.pairwise_append.1 ha).2.2 x hx a.1 (by simp)) h1
    · exact h1
theorem frsP_asc {bs : List UInt8} : ∀ (f k : Nat) (acc l : List PC) (j : Nat), frsP bs f k acc = some (l, j) → AscI (acc.map (·.1)) → AscI (l.map (·.1)) := by
  intro f
  induction f with
  | zero => intro k acc l j h; cases h
  | succ f ih =>
    intro k acc l j h ha
    rw [frsP] at h
    split at h
    · cases h
    · split at h
      · injection h with h
        injection h with h1 _
        rw [← h1]
        exact ha
      · split at h
        · split at h
          · rename_i c j' hfr
            exact ih _ _ _ _ h (asc_snocP ha (frP_last hfr))
          · cases h
        · cases h
theorem decP_asc {bs : List UInt8} {S : List CH} (h : decP bs = some (pcs S)) : AscI (S.map (·.1)) := by
  unfold decP at h
  split at h
  · cases h
  · split at h
    · split at h
      · rename_i l k hfr
        split at h
        · injection h with h
          subst h
          have := frsP_asc _ _ _ _ _ hfr List.Pairwise.nil
          rw [pcs, List.map_map] at this
          exact this
        · cases h
      · cases h
    · cases h
theorem opnV_asc {bs : List UInt8} {ms : List Man} {S : List CH} (h : opnV bs = some (ms, pcs S)) : AscI (S.map (·.1)) ∧ ∀ m ∈ ms, ManOk m := by
  unfold opnV at h
  split at h
  · rename_i ms' k hr
    obtain ⟨x, h1, e⟩ := Option.map_eq_some_iff.1 h
    injection e with e1 e2
    subst e1 e2
    exact ⟨decP_asc h1, rdMans_ok hr⟩
  · cases h
end Go.Proofs.YtmiknfneeipkeaaGreat
namespace Go.Proofs.YtmiknfneeipkeaaGreat
open Go.RowKit Go.MapKept Go.ChangeMaps Go.Shelf Go.Sort
attribute [local go_sem] wext_cell
theorem row_id {w : World} {g q d : Nat} {L : List ID} (hr : w.ownsRow 0 36 2 (.slice (some ⟨g, 0, none⟩) q d) q (L.flatMap encID)) (hq : L.length = q) {k : Nat} (hk : k < q) {x : ID} (hx : L.getD k id0 = x) :
    w.cell? ⟨g, k * 2, none⟩ = some (.int .u64 x.1) ∧ w.cell? ⟨g, k * 2 + 1, none⟩ = some (.int .i64 x.2) := by
  subst hx
  have key : ∀ i, i < 2 → w.cell? ⟨g, k * 2 + i, none⟩ = (encID (L.getD k id0))[i]? := fun i hi => by
    rw [hr.cellAt (k * 2 + i) (by omega), flat_at encID_len id0 L k i (by omega) hi]
  exact ⟨key 0 (by omega), key 1 (by omega)⟩
theorem cx_cell {w : World} {g o : Nat} {T : List CH} (h : (cxOb (some ⟨g, o, none⟩) T).holds w) {j : Nat} (hj : j < T.length) {i : ID} {e : BS} (he : T.getD j ch0 = (i, e)) : g < w.heap.size ∧ w.cell? ⟨g, o + j * 3 + 2, none⟩ = some (.slice e.d.A e.bs.length e.d.cap) := by
  obtain ⟨g', o', hA, h1, _, _, h2, _⟩ := cx_at h hj he
  injection hA with hA
  injection hA with e1 e2
  subst e1 e2
  exact ⟨h1, h2⟩
theorem find_at {S : List CH} (ha : AscI (S.map (·.1))) {i : ID} {k : Nat} (hk : k < S.length) (hi : (S.map (·.1)).getD k id0 = i) (hs : (firstR S i).isSome = true) : firstR S i = some (S.getD k ch0) := by
  obtain ⟨x, hx⟩ := Option.isSome_iff_exists.1 hs
  obtain ⟨h1, _, hm⟩ := firstR_id hx
  obtain ⟨j, hj, rfl⟩ := List.mem_iff_getElem.1 hm
  have e1 : ∀ n (hn : n < S.length), (S.map (·.1)).getD n id0 = S[n].1 := fun n hn => by simp [List.getD_eq_getElem?_getD, hn]
  have hjk : j = k := by
    rcases Nat.lt_trichotomy j k with h | h | h
    · have := asc_getD ha (by rw [List.length_map]; exact hk) h
      rw [e1 j hj, h1, hi] at this
      simp [ltID] at this
    · exact h
    · have := asc_getD ha (by rw [List.length_map]; exact hj) h
      rw [e1 j hj, h1, hi] at this
      simp [ltID] at this
  subst hjk
  rw [hx]
  simp [List.getD_eq_getElem?_getD, hj]
section
variable {b : Nat} {w0 w w' : World} {l : List Ob}
abbrev RstP (bs : List UInt8) (i : ID) (b : Nat) (w0 : World) (l : List Ob) (e : Ending) (w' : World) : Prop :=
  (∃ (ms ys : List Man) (S : List CH) (m : Man) (rA : Option Addr) (rc : Nat) (T : List CH) (C : Option Addr) (cc : Nat), VolOk bs ∧ opnV bs = some (ms, pcs S) ∧ ConM ms ys ∧ m ∈ ys ∧ keyM m = i ∧ T.map (·.1) = firsts m.ids ∧ (∀ e ∈ T, ∃ x, firstR S e.1 = some x ∧ x.2.bs = e.2.bs) ∧ e = .returned (.tuple #[.agg #[.int .i64 m.size, .slice rA m.ids.length rc], .slice C T.length cc, .int .i64 0]) ∧ SW b w0 (rowOb 42 3 (.slice C T.length cc) T.length (T.flatMap encCH) :: bsOb T :: msOb [⟨m.size, rA, m.ids.length, rc⟩] [m] :: l) w') ∨
  (∃ (ms ys : List Man) (S : List CH), VolOk bs ∧ opnV bs = some (ms, pcs S) ∧ ConM ms ys ∧ (∀ m ∈ ys, keyM m ≠ i) ∧ e = .returned (.tuple #[.agg #[.int .i64 0, .slice none 0 0], .slice none 0 0, .int .i64 413]) ∧ SW b w0 l w') ∨
  (¬ VolOk bs ∧ e = .returned (.tuple #[.agg #[.int .i64 0, .slice none 0 0], .slice none 0 0, .int .i64 412]) ∧ SW b w0 l w')
set_option maxRecDepth 100000 in
set_option maxHeartbeats 16000000 in
theorem Restore_any (h : SW b w0 l w) {A : Option Addr} {c : Nat} {bs : List UInt8} (hr : rsOb A bs ∈ l) (hv : (A = none → c = 0) ∧ bs.length ≤ c ∧ bs.length ≤ 9223372036854775807) (hbl : bs.length ≤ 1000000000) (hS : ∀ ms k, rdMans bs = some (ms, k) → ms.length < 20) (hP : ∀ ms S, opnV bs = some (ms, pcs S) → AllR (setR (idsOf ms)) S → (packP (selR (setR (idsOf ms)) S)).length ≤ 1048576) (s z : Int) :
    Calls Tryz.prog 22 #[.slice A bs.length c, .agg #[.int .u64 s, .int .i64 z]] w (RstP bs (s, z) b w0 l) := by
  have S0 := Lib.hid ((h.newCell 36 #[.int .u64 s, .int .i64 z]).newCellAt 33 #[.int .i64 0, .slice none 0 0] (H := w.heap.size + 1) (by simp))
  obtain ⟨gR, HGR⟩ : ∃ x, Hid (w.heap.size + 1 = x) := ⟨_, rfl⟩
  obtain ⟨gb, HGB⟩ : ∃ x, Hid (w.heap.size = x) := ⟨_, rfl⟩
  obtain ⟨W0, HW0⟩ : ∃ W, Hid ((w.alloc (.cells #[.int .u64 s, .int .i64 z] 36)).alloc (.cells #[.int .i64 0, .slice none 0 0] 33) = W) := ⟨_, rfl⟩
  rw [HGR.out, HGB.out, HW0.out] at S0
  have HM := Lib.hid (read_any S0.out (.tail _ (.tail _ hr)) hv hbl hS hP)
  have HLM : Hid (∀ ms S, opnV bs = some (ms, pcs S) → ms.length < 20) := fun ms S h => by
    unfold opnV at h
    split at h
    · rename_i ms' k' h1
      obtain ⟨x, _, e⟩ := Option.map_eq_some_iff.1 h
      injection e with e1 _
      subst e1
      exact hS _ _ h1
    · cases h
  clear h hr hv hS hP
  obtain ⟨ii, gi, gz0, gz1, gz2⟩ := info_parts info42
  go_enter Tryz.func22, Tryz.ntmps22
  go_upto_region 1 with fail
  rw [HW0.out, HGR.out, HGB.out]
  clear HGR HGB HW0
  go_wp2_with (go_at_call 61; (with_reducible refine HM.out.mono ?_); refine halt_ ?_)
  rintro e w1 (⟨ms, S, Y, D, C, d, dc, hvo, hop, hcon, hok, hSl, rfl, t1⟩ | ⟨hno, ⟨v1, v2, rfl⟩, t1⟩)
  · have HVO := Lib.hid hvo
    have HOP := Lib.hid hop
    have HCO := Lib.hid hcon
    have HOK := Lib.hid hok
    have hSl2 : S.length ≤ 1000000000 := by omega
    have hY : Y.length < 20 := by
      have h1 := conM_len hcon
      have h2 := HLM.out _ _ hop
      rw [List.length_map] at h1
      omega
    have S1 := Lib.hid t1
    have HIX : Hid (Calls Tryz.prog 63 #[.slice D Y.length d, .func (.func 64) #[] #[vPtr gb]] w1 (IxC (Y.map cnOf) (s, z) b w0 (rowOb 85 4 (.slice D Y.length d) Y.length ((Y.map cnOf).flatMap encCN) :: msOb (Y.map (·.1)) (Y.map (·.2)) :: cxOb C S :: cellOb gR 33 #[.int .i64 0, .slice none 0 0] :: cellOb gb 36 #[.int .u64 s, .int .i64 z] :: l))) := by
      have h1 := IndexC_any (L := Y.map cnOf) (D := D) (d := d) (gb := gb) (s := s) (z := z) S1.out (.tail _ (.tail _ (.tail _ (.tail _ (.head _))))) (by rw [List.length_map]; exact .head _) (by rw [List.length_map]; omega)
      rw [List.length_map] at h1
      exact h1
    clear hvo hop hcon hok t1 HM S0 hSl
    go_wp2_with (go_at_call 63; (with_reducible refine HIX.out.mono ?_); refine halt_ ?_)
    rintro e w2 ⟨t2, ⟨k, hk, rfl, hkx⟩ | ⟨hall, rfl⟩⟩
    · rw [List.length_map] at hk
      obtain ⟨⟨⟨rz, rA, rl, rc⟩, m⟩, HPK⟩ : ∃ p, Hid (Y.getD k (mr0, man0) = p) := ⟨_, rfl⟩
      have hcn : (Y.map cnOf).getD k cn0 = cnOf (⟨rz, rA, rl, rc⟩, m) := by
        rw [← HPK.out]
        simp [List.getD_eq_getElem?_getD, List.getElem?_eq_getElem hk]
      have HKEY : Hid (keyM m = (s, z)) := by rw [hcn] at hkx; exact hkx
      have hg1 : (Y.map (·.1)).getD k mr0 = ⟨rz, rA, rl, rc⟩ := by
        have : (Y.map (·.1)).getD k mr0 = (Y.getD k (mr0, man0)).1 := by simp [List.getD_eq_getElem?_getD, List.getElem?_eq_getElem hk]
        rw [this, HPK.out]
      have hg2 : (Y.map (·.2)).getD k man0 = m := by
        have : (Y.map (·.2)).getD k man0 = (Y.getD k (mr0, man0)).2 := by simp [List.getD_eq_getElem?_getD, List.getElem?_eq_getElem hk]
        rw [this, HPK.out]
      have hmem : m ∈ Y.map (·.2) := by rw [← hg2]; exact getD_mem _ _ _ (by rw [List.length_map]; exact hk)
      have hmo := (opnV_asc HOP.out).2 m ((HCO.out.2 m).1 hmem)
      have HASC := Lib.hid (opnV_asc HOP.out).1
      have HMO := Lib.hid hmo
      have HMEM := Lib.hid hmem
      have HAL := Lib.hid (volOk_at HVO.out HOP.out HCO.out).2.1
      have HIN : Hid (∀ i ∈ firsts m.ids, (firstR S i).isSome = true) := fun i hi => HAL.out i ((setR_mem _ _).2 (List.mem_flatMap.2 ⟨m, (HCO.out.2 m).1 hmem, (firsts_mem _ _).1 hi⟩))
      have hml := manE_len hmo.1
      have hfl := firsts_len m.ids
      have S2 := Lib.hid t2
      obtain ⟨hm1, hm2⟩ := S2.out.get 1 (o := msOb (Y.map (·.1)) (Y.map (·.2))) rfl
      obtain ⟨l1, l2, l3, _⟩ := hm2 k (by rw [List.length_map]; exact hk)
      rw [hg1, hg2] at l1 l2
      rw [hg1] at l3
      simp only at l1 l2 l3
      subst l1 l2
      have hrow := S2.out.get 0 (o := rowOb 85 4 (.slice D Y.length d) Y.length ((Y.map cnOf).flatMap encCN)) rfl
      obtain ⟨gD, d9, hD⟩ := own_some hrow (by omega)
      injection hD with e1 e2 e3
      subst e1
      subst e3
      clear e2
      obtain ⟨q0, q1, q2, q3⟩ := row_cn hrow (by simp) hk hcn
      simp only [cnOf] at q0 q1 q2 q3
      have S3 : Hid (SW b w0 (cellOb w2.heap.size 33 #[.int .i64 m.size, .slice rA m.ids.length rc] :: msOb (Y.map (·.1)) (Y.map (·.2)) :: cxOb C S :: cellOb gR 33 #[.int .i64 0, .slice none 0 0] :: l) (w2.alloc (.cells #[.int .i64 m.size, .slice rA m.ids.length rc] 33))) := SW.few (pre := [_, _, _, _, _, _]) (S2.out.newCell 33 #[.int .i64 m.size, .slice rA m.ids.length rc]) [0, 2, 3, 4] (n := 6) rfl (by decide) (by decide)
      have HG1 := Lib.hid hg1
      have HG2 := Lib.hid hg2
      have hk2 : k < (Y.map (·.2)).length := by rw [List.length_map]; exact hk
      clear hcn hkx hmem hmo hrow hm1 hm2 S1 S2 t2 HIX hg1 hg2 q0 q1
      go_upto_region 8 with fail
      obtain ⟨w3, HW3⟩ : ∃ W, Hid (w2.alloc (.cells #[.int .i64 m.size, .slice rA m.ids.length rc] 33) = W) := ⟨_, rfl⟩
      obtain ⟨gm, HGM⟩ : ∃ x, Hid (w2.heap.size = x) := ⟨_, rfl⟩
      rw [HW3.out, HGM.out] at S3 ⊢
      clear HW3 HGM q2 q3
      have c0 := (S3.out.cell 0 rfl).cell 0
      have c1 := (S3.out.cell 0 rfl).cell 1
      have HMI := Lib.hid (Missing_any S3.out (.tail _ (.head _)) hk2 HG2.out HG1.out HMO.out.1 HMO.out.2)
      go_wp2_with (go_at_call 65; (with_reducible refine HMI.out.mono ?_); refine halt_ ?_)
      rintro e w4 ⟨D2, d2, rfl, t4⟩
      obtain ⟨F, HF⟩ : ∃ F, Hid (firsts m.ids = F) := ⟨_, rfl⟩
      rw [HF.out] at t4 HIN hfl ⊢
      have S4 : Hid (SW b w0 (rowOb 42 3 (.slice none 0 0) 0 [] :: bsOb [] :: rowOb 36 2 (.slice D2 F.length d2) F.length (F.flatMap encID) :: cellOb gm 33 #[.int .i64 m.size, .slice rA m.ids.length rc] :: msOb (Y.map (·.1)) (Y.map (·.2)) :: cxOb C S :: cellOb gR 33 #[.int .i64 0, .slice none 0 0] :: l) w4) := SW.front (pre := [_, _]) (SW.bufsBs (SW.noBufs (t4.newRow 42 3)) (fun e he => by cases he)) [1, 0] (n := 2) rfl (by decide)
      clear t4 HMI S3 c0 c1
      go_wp2_with fail
      go_loopw [14, 49] (fun s14 s49 wr => ∃ (j : Nat) (T : List CH) (B : Option Addr) (bc : Nat), j ≤ F.length ∧ s49 = .int .i64 (j : Int) ∧ s14 = .slice B j bc ∧ Hid (T.map (·.1) = F.take j) ∧ Hid (∀ e ∈ T, ∃ x, firstR S e.1 = some x ∧ x.2.bs = e.2.bs) ∧ SW b w0 (rowOb 42 3 (.slice B j bc) j (T.flatMap encCH) :: bsOb T :: rowOb 36 2 (.slice D2 F.length d2) F.length (F.flatMap encID) :: cellOb gm 33 #[.int .i64 m.size, .slice rA m.ids.length rc] :: msOb (Y.map (·.1)) (Y.map (·.2)) :: cxOb C S :: cellOb gR 33 #[.int .i64 0, .slice none 0 0] :: l) wr) (fun _ s49 _ => F.length - (intOf s49).toNat)
      case atStart => exact ⟨0, [], none, 0, Nat.zero_le _, rfl, rfl, rfl, (fun e he => by cases he), S4.out⟩
      case round =>
        obtain ⟨j, T, B, bc, hj, rfl, rfl, HT, HTX, hs⟩ := hrel
        have S5 := Lib.hid hs
        clear hs S4
        by_cases hlt : j < F.length
        · obtain ⟨⟨i1, i2⟩, HI⟩ : ∃ x, Hid (F.getD j id0 = x) := ⟨_, rfl⟩
          have hrow := S5.out.get 2 (o := rowOb 36 2 (.slice D2 F.length d2) F.length (F.flatMap encID)) rfl
          obtain ⟨gF, d9, hD⟩ := own_some hrow (by omega)
          injection hD with e1 e2 e3
          subst e1
          subst e3
          clear e2
          obtain ⟨q0, q1⟩ := row_id hrow rfl hlt HI.out
          simp only at q0 q1
          have HSM := HIN.out (i1, i2) (by rw [← HI.out]; exact getD_mem _ _ _ hlt)
          have HSOME := Lib.hid HSM
          have HTK : Hid (F.take (j + 1) = F.take j ++ [(i1, i2)]) := by rw [Hid, take_id hlt, HI.out]
          have S6 := Lib.hid (S5.out.newCell 36 #[.int .u64 i1, .int .i64 i2])
          clear hrow HSM S5
          go_upto_region 15 with fail
          obtain ⟨w5, HW5⟩ : ∃ W, Hid (wr.alloc (.cells #[.int .u64 i1, .int .i64 i2] 36) = W) := ⟨_, rfl⟩
          obtain ⟨gX, HGX⟩ : ∃ x, Hid (wr.heap.size = x) := ⟨_, rfl⟩
          rw [HW5.out, HGX.out] at S6 ⊢
          clear HW5 HGX q0 q1
          have b0 := (S6.out.cell 0 rfl).cell 0
          have b1 := (S6.out.cell 0 rfl).cell 1
          have HB := Lib.hid (BsC_any w5.heap.size S C dc i1 i2 w5 (S6.out.get 6 (o := cxOb C S) rfl).1 HASC.out (by omega))
          go_wp2_with (go_at_call 66; (with_reducible refine HB.out.mono ?_); refine halt_ ?_)
          rintro e w6 ⟨hb6, ⟨n, hn, hnx, rfl⟩ | ⟨n, hnx, rfl⟩⟩
          · rw [List.length_map] at hn
            obtain ⟨⟨si, ev⟩, HSN⟩ : ∃ x, Hid (S.getD n ch0 = x) := ⟨_, rfl⟩
            have HFI := Lib.hid (find_at HASC.out hn hnx HSOME.out)
            have S7 := Lib.hid (S6.out.on hb6)
            obtain ⟨gT, o, rfl, hgT, _, _, c2, _⟩ := cx_at (S7.out.get 6 (o := cxOb C S) rfl) hn HSN.out
            have hS7d := S7.out.drew
            obtain ⟨gT', o', hA', _, _, _, _, hbs⟩ := cx_at (hS7d.get 6 (o := cxOb (some ⟨gT, o, none⟩) S) rfl) hn HSN.out
            clear hA' hS7d hnx b0 b1 HB S6 hb6
            have hel : ev.bs.length ≤ 8192 := by
              obtain ⟨h1, h2, _⟩ := firstR_id HFI.out
              have h3 := (firsts_mem m.ids (i1, i2)).1 (by rw [HF.out, ← HI.out]; exact getD_mem _ _ _ hlt)
              have h4 := okI_of HMO.out _ h3
              rw [HSN.out] at h2
              have h5 : ((ev.bs.length : Nat) : Int) = i2 := congrArg Prod.snd h2
              have h6 := h4.2.1
              simp only at h6
              omega
            have HCL := Lib.hid (CloneB_any ev.d.A ev.d.cap ev.bs w6.drew hbs.1.sb (by omega))
            have HEL : Hid (ev.bs.length = ev.bs.length) := rfl
            clear hbs HEL
            go_upto_region 16 with fail
            refine wp_region_held_tail [(0, true), (1, true), (2, true), (3, true), (4, true), (5, true), (6, true), (7, false), (8, true), (9, false)] (fun w' => SW b w0 (cellOb gX 36 #[.int .u64 i1, .int .i64 i2] :: rowOb 42 3 (.slice B j bc) j (T.flatMap encCH) :: bsOb T :: rowOb 36 2 (.slice (some ⟨gF, 0, none⟩) F.length d2) F.length (F.flatMap encID) :: cellOb gm 33 #[.int .i64 m.size, .slice rA m.ids.length rc] :: msOb (Y.map (·.1)) (Y.map (·.2)) :: cxOb (some ⟨gT, o, none⟩) S :: cellOb gR 33 #[.int .i64 0, .slice none 0 0] :: l) w') (by kernel_rfl) (fun _ _ d _ _ h => by cases d <;> exact h) (by kernel_rfl) (S7.out.drew) ?_
            simp only [picked, List.map_cons, List.map_nil, List.getD_cons_succ, List.getD_cons_zero]
            (refine wpHeld_take (v := ?_) (Or.inl ⟨by rfl, ?_⟩) ?_
             rotate_left
             · (intro w' hSw; have v0 : w'.cell? ⟨gX, 0, none⟩ = some (.int .u64 i1) := (hSw.cell 0 rfl).cell 0; have v1 : w'.cell? ⟨gX, 1, none⟩ = some (.int .i64 i2) := (hSw.cell 0 rfl).cell 1; have v2 := cx_cell (hSw.get 6 (o := cxOb (some ⟨gT, o, none⟩) S) rfl) hn HSN.out; have v3 := v2.1; have v4 := v2.2; go_simp; try with_reducible rfl)
             try simp only [Act.put, List.setIfInBounds_toArray, List.set])
            (refine wpHeld_take (v := ?_) (Or.inl ⟨by rfl, ?_⟩) ?_
             rotate_left
             · (intro w' hSw; have v0 : w'.cell? ⟨gX, 0, none⟩ = some (.int .u64 i1) := (hSw.cell 0 rfl).cell 0; have v1 : w'.cell? ⟨gX, 1, none⟩ = some (.int .i64 i2) := (hSw.cell 0 rfl).cell 1; have v2 := cx_cell (hSw.get 6 (o := cxOb (some ⟨gT, o, none⟩) S) rfl) hn HSN.out; have v3 := v2.1; have v4 := v2.2; go_simp; try with_reducible rfl)
             try simp only [Act.put, List.setIfInBounds_toArray, List.set])
            (refine wpHeld_take (v := ?_) (Or.inl ⟨by rfl, ?_⟩) ?_
             rotate_left
             · (intro w' hSw; have v0 : w'.cell? ⟨gX, 0, none⟩ = some (.int .u64 i1) := (hSw.cell 0 rfl).cell 0; have v1 : w'.cell? ⟨gX, 1, none⟩ = some (.int .i64 i2) := (hSw.cell 0 rfl).cell 1; have v2 := cx_cell (hSw.get 6 (o := cxOb (some ⟨gT, o, none⟩) S) rfl) hn HSN.out; have v3 := v2.1; have v4 := v2.2; go_simp; try with_reducible rfl)
             try simp only [Act.put, List.setIfInBounds_toArray, List.set])
            (refine wpHeld_take (v := ?_) (Or.inl ⟨by rfl, ?_⟩) ?_
             rotate_left
             · (intro w' hSw; have v0 : w'.cell? ⟨gX, 0, none⟩ = some (.int .u64 i1) := (hSw.cell 0 rfl).cell 0; have v1 : w'.cell? ⟨gX, 1, none⟩ = some (.int .i64 i2) := (hSw.cell 0 rfl).cell 1; have v2 := cx_cell (hSw.get 6 (o := cxOb (some ⟨gT, o, none⟩) S) rfl) hn HSN.out; have v3 := v2.1; have v4 := v2.2; go_simp; try with_reducible rfl)
             try simp only [Act.put, List.setIfInBounds_toArray, List.set])
            (refine wpHeld_take (v := ?_) (Or.inl ⟨by rfl, ?_⟩) ?_
             rotate_left
             · (intro w' hSw; have v0 : w'.cell? ⟨gX, 0, none⟩ = some (.int .u64 i1) := (hSw.cell 0 rfl).cell 0; have v1 : w'.cell? ⟨gX, 1, none⟩ = some (.int .i64 i2) := (hSw.cell 0 rfl).cell 1; have v2 := cx_cell (hSw.get 6 (o := cxOb (some ⟨gT, o, none⟩) S) rfl) hn HSN.out; have v3 := v2.1; have v4 := v2.2; go_simp; try with_reducible rfl)
             try simp only [Act.put, List.setIfInBounds_toArray, List.set])
            (refine wpHeld_take (v := ?_) (Or.inl ⟨by rfl, ?_⟩) ?_
             rotate_left
             · (intro w' hSw; have v0 : w'.cell? ⟨gX, 0, none⟩ = some (.int .u64 i1) := (hSw.cell 0 rfl).cell 0; have v1 : w'.cell? ⟨gX, 1, none⟩ = some (.int .i64 i2) := (hSw.cell 0 rfl).cell 1; have v2 := cx_cell (hSw.get 6 (o := cxOb (some ⟨gT, o, none⟩) S) rfl) hn HSN.out; have v3 := v2.1; have v4 := v2.2; go_simp; try with_reducible rfl)
             try simp only [Act.put, List.setIfInBounds_toArray, List.set])
            (refine wpHeld_take (v := ?_) (Or.inl ⟨by rfl, ?_⟩) ?_
             rotate_left
             · (intro w' hSw; have v0 : w'.cell? ⟨gX, 0, none⟩ = some (.int .u64 i1) := (hSw.cell 0 rfl).cell 0; have v1 : w'.cell? ⟨gX, 1, none⟩ = some (.int .i64 i2) := (hSw.cell 0 rfl).cell 1; have v2 := cx_cell (hSw.get 6 (o := cxOb (some ⟨gT, o, none⟩) S) rfl) hn HSN.out; have v3 := v2.1; have v4 := v2.2; go_simp; try with_reducible rfl)
             try simp only [Act.put, List.setIfInBounds_toArray, List.set])
            refine wpHeld_run (fun K hK => ?_)
            go_simp
            go_at_call 68
            (with_reducible refine HCL.out.mono ?_)
            rintro e w7 ⟨⟨dA, dl, dk⟩, rfl, hrb, hfr, hb7⟩
            have S8 := Lib.hid (SW.newBuT S7.out.drew hb7 hrb hfr)
            clear hrb hfr hb7 HCL
            try simp only [vB]
            go_wp2_with fail
            refine hK.out _ _ S8.out.tail ?_
            clear hK K
            try simp only [Act.put, List.setIfInBounds_toArray, List.set]
            (refine wpHeld_take (v := ?_) (Or.inl ⟨by rfl, ?_⟩) ?_
             rotate_left
             · (intro w' hSw; have v0 : w'.cell? ⟨gX, 0, none⟩ = some (.int .u64 i1) := (hSw.cell 0 rfl).cell 0; have v1 : w'.cell? ⟨gX, 1, none⟩ = some (.int .i64 i2) := (hSw.cell 0 rfl).cell 1; have v2 := cx_cell (hSw.get 6 (o := cxOb (some ⟨gT, o, none⟩) S) rfl) hn HSN.out; have v3 := v2.1; have v4 := v2.2; go_simp; try with_reducible rfl)
             try simp only [Act.put, List.setIfInBounds_toArray, List.set])
            refine wpHeld_run (fun K hK => ?_)
            have S9 := Lib.hid (S8.out.newCell 42 #[.int .u64 i1, .int .i64 i2, .slice dA dl dk])
            go_simp
            refine hK.out _ _ S9.out.tail.tail ?_
            clear hK K
            try simp only [Act.put, List.setIfInBounds_toArray, List.set]
            refine wpHeld_nil ?_
            simp only [List.length_cons, List.length_nil, List.drop_succ_cons, List.drop_zero]
            have SB := Lib.hid S9.out
            go_wp2_with (at_builtin; (refine wpList_rowS (t := 23) (e := 42) (size := 3) (bytes := 40) (i := ii) SB.out 3 rfl (by rfl) (.tmp 59) (.tmp 68) (by rfl) Tryz.underlying23 gi gz0 gz1 gz2 rfl (by omega) (by rfl) ⟨w7.heap.size, 0, none⟩ 1 [.int .u64 i1, .int .i64 i2, .slice dA dl dk] (by rfl) rfl (mthree_new _ _ _ _ _ _ rfl) (encCH_one ((i1, i2), ⟨⟨dA, dl, dk⟩, ev.bs⟩)) (by unfold maxLen; omega) (by omega) ?_); refine halt_ ?_)
            intro v8 w8 s8
            obtain ⟨g8, c8, rfl⟩ := own_some (s8.get 3 rfl) (by omega)
            have SC : Hid (SW b w0 (rowOb 42 3 (.slice (some ⟨g8, 0, none⟩) (j + 1) c8) (j + 1) ((T ++ [((i1, i2), (⟨⟨dA, dl, dk⟩, ev.bs⟩ : BS))]).flatMap encCH) :: bsOb (T ++ [((i1, i2), (⟨⟨dA, dl, dk⟩, ev.bs⟩ : BS))]) :: rowOb 36 2 (.slice (some ⟨gF, 0, none⟩) F.length d2) F.length (F.flatMap encID) :: cellOb gm 33 #[.int .i64 m.size, .slice rA m.ids.length rc] :: msOb (Y.map (·.1)) (Y.map (·.2)) :: cxOb (some ⟨gT, o, none⟩) S :: cellOb gR 33 #[.int .i64 0, .slice none 0 0] :: l) w8) := by
              have h1 := SW.few (pre := [_, _, _, _, _]) s8 [1, 4, 3] (n := 5) rfl (by decide) (by decide)
              have h2 := SW.front (pre := [_, _]) (SW.bsSnoc h1 (i1, i2)) [1, 0] (n := 2) rfl (by decide)
              rw [Hid, List.flatMap_append]
              exact h2
            have HT2 : Hid ((T ++ [((i1, i2), (⟨⟨dA, dl, dk⟩, ev.bs⟩ : BS))]).map (·.1) = F.take (j + 1)) := by rw [Hid, HTK.out, List.map_append, HT.out]; rfl
            have HTX2 : Hid (∀ e ∈ T ++ [((i1, i2), (⟨⟨dA, dl, dk⟩, ev.bs⟩ : BS))], ∃ x, firstR S e.1 = some x ∧ x.2.bs = e.2.bs) := fun e he => by
              rcases List.mem_append.1 he with he | he
              · exact HTX.out e he
              · rw [List.mem_singleton] at he
                rw [he]
                exact ⟨_, HFI.out, by rw [HSN.out]⟩
            clear s8 SB S9 S8 S7
            go_wp2_with fail
            go_roundw
            case rel => exact ⟨j + 1, _, some ⟨g8, 0, none⟩, c8, by omega, by go_num, rfl, HT2.out, HTX2.out, SC.out⟩
            case measure => simp [intOf]; omega
          · exfalso
            obtain ⟨x, hx⟩ := Option.isSome_iff_exists.1 HSOME.out
            obtain ⟨h1, _, h2⟩ := firstR_id hx
            exact hnx (List.mem_map.2 ⟨x, h2, h1⟩)
        · obtain rfl : j = F.length := by omega
          rw [List.take_length] at HT
          have htl : T.length = F.length := by rw [← HT.out, List.length_map]
          have c0 := (S5.out.cell 3 rfl).cell 0
          have c1 := (S5.out.cell 3 rfl).cell 1
          have z0 := (S5.out.cell 6 rfl).cell 0
          have z1 := (S5.out.cell 6 rfl).cell 1
          have f0 := (S5.out.cell 6 rfl).frozen 0
          have f1 := (S5.out.cell 6 rfl).frozen 1
          have S9 := Lib.hid ((S5.out.setAt 6 rfl 0 (.int .i64 m.size)).setAt 6 rfl 1 (.slice rA m.ids.length rc))
          go_wp2_with fail
          have e0 := (S9.out.cell 6 rfl).cell 0
          have e1 := (S9.out.cell 6 rfl).cell 1
          have HSW : Hid (SW b w0 (rowOb 42 3 (.slice B T.length bc) T.length (T.flatMap encCH) :: bsOb T :: msOb [⟨m.size, rA, m.ids.length, rc⟩] [m] :: l) ((wr.setCell ⟨gR, 0, none⟩ (.int .i64 m.size)).setCell ⟨gR, 1, none⟩ (.slice rA m.ids.length rc))) := by
            rw [Hid, htl]
            have hM := S9.out.get 4 (o := msOb (Y.map (·.1)) (Y.map (·.2))) rfl
            have hL := hM.2 k hk2
            rw [HG1.out, HG2.out] at hL
            have h1 := SW.again (o' := msOb [⟨m.size, rA, m.ids.length, rc⟩] [m]) S9.out (o := msOb (Y.map (·.1)) (Y.map (·.2))) (.tail _ (.tail _ (.tail _ (.tail _ (.head _))))) (fun _ h => h) ⟨rfl, fun j hj => by
              obtain rfl : j = 0 := by simpa using hj
              exact hL⟩ (fun _ h => h) (fun i hi => by
              obtain ⟨j, hj, hp, o, ho⟩ := hi
              obtain rfl : j = 0 := by simpa using hj
              exact ⟨k, hk2, by rw [HG2.out]; exact hp, o, by rw [HG1.out]; exact ho⟩)
            exact SW.few (pre := [_, _, _, _, _, _, _, _]) h1 [1, 2, 0] (n := 8) rfl (by decide) (by decide)
          refine bodyPost_ret (v := .tuple #[.agg #[.int .i64 m.size, .slice rA m.ids.length rc], .slice B F.length bc, .int .i64 0]) (by simp [results, Tryz.results22, go_sem, e0, e1, Result.andThen]) rfl ?_
          exact .inl ⟨ms, Y.map (·.2), S, m, rA, rc, T, B, bc, HVO.out, HOP.out, HCO.out, HMEM.out, HKEY.out, by rw [HT.out, HF.out], HTX.out, by rw [htl], HSW.out⟩
    · have HN : Hid (∀ m ∈ Y.map (·.2), keyM m ≠ (s, z)) := fun m hm => by
        obtain ⟨p, hp, rfl⟩ := List.mem_map.1 hm
        exact hall (cnOf p) (List.mem_map.2 ⟨p, hp, rfl⟩)
      have S1 := Lib.hid t2
      clear hall t2 HIX
      have z0 := (S1.out.cell 3 rfl).cell 0
      have z1 := (S1.out.cell 3 rfl).cell 1
      have f0 := (S1.out.cell 3 rfl).frozen 0
      have f1 := (S1.out.cell 3 rfl).frozen 1
      have S9 := Lib.hid ((S1.out.setAt 3 rfl 0 (.int .i64 0)).setAt 3 rfl 1 (.slice none 0 0))
      go_wp2_with fail
      have e0 := (S9.out.cell 3 rfl).cell 0
      have e1 := (S9.out.cell 3 rfl).cell 1
      refine bodyPost_ret (v := .tuple #[.agg #[.int .i64 0, .slice none 0 0], .slice none 0 0, .int .i64 413]) (by simp [results, Tryz.results22, go_sem, e0, e1, Result.andThen]) rfl ?_
      exact .inr (.inl ⟨ms, _, S, HVO.out, HOP.out, HCO.out, HN.out, rfl, S9.out.tail.tail.tail.tail.tail⟩)
  · have HNO := Lib.hid hno
    have S1 := Lib.hid t1
    clear hno t1 HM S0
    have z0 := (S1.out.cell 0 rfl).cell 0
    have z1 := (S1.out.cell 0 rfl).cell 1
    have f0 := (S1.out.cell 0 rfl).frozen 0
    have f1 := (S1.out.cell 0 rfl).frozen 1
    have S9 := Lib.hid ((S1.out.setAt 0 rfl 0 (.int .i64 0)).setAt 0 rfl 1 (.slice none 0 0))
    go_wp2_with fail
    have e0 := (S9.out.cell 0 rfl).cell 0
    have e1 := (S9.out.cell 0 rfl).cell 1
    refine bodyPost_ret (v := .tuple #[.agg #[.int .i64 0, .slice none 0 0], .slice none 0 0, .int .i64 412]) (by simp [results, Tryz.results22, go_sem, e0, e1, Result.andThen]) rfl ?_
    exact .inr (.inr ⟨HNO.out, rfl, S9.out.tail.tail⟩)
end
end Go.Proofs.YtmiknfneeipkeaaGreat
namespace Go.Proofs.YtmiknfneeipkeaaGreat
open Go.RowKit Go.MapKept Go.ChangeMaps Go.Shelf Go.Sort
section
variable {b : Nat} {w0 w w' : World} {l : List Ob}
end
end Go.Proofs.YtmiknfneeipkeaaGreat
namespace Go.Proofs.YtmiknfneeipkeaaGreat
open Go.RowKit Go.MapKept Go.ChangeMaps Go.Shelf Go.Sort
section
variable {b : Nat} {w0 w w' : World} {l : List Ob}
end
end Go.Proofs.YtmiknfneeipkeaaGreat
namespace Go.Proofs.YtmiknfneeipkeaaGreat
open Go.RowKit Go.MapKept Go.ChangeMaps Go.Shelf Go.Sort
attribute [local go_sem] wext_cell
section
variable {b : Nat} {w0 w w' : World} {l : List Ob}
end
end Go.Proofs.YtmiknfneeipkeaaGreat
namespace Go.Proofs.YtmiknfneeipkeaaGreat
open Go.RowKit Go.MapKept Go.ChangeMaps Go.Shelf Go.Sort
section
variable {b : Nat} {w0 w w' : World} {l : List Ob}
end
end Go.Proofs.YtmiknfneeipkeaaGreat
