/- Contracts: slices.Clone at ranges, Normalize. -/
import Derived.Test.YtahlccihjjhgfaaJ
namespace Go.Proofs.Ytahlccihjjhgfaa
open Go.RowKit Go.Shelf Go.Sort

def ClonePost (xs : RL) (w : World) (e : Ending) (w' : World) : Prop :=
  ∃ A c, e = .returned (.slice A xs.length c) ∧ w'.ownsRow w.heap.size 29 2 (.slice A xs.length c) xs.length (flatR xs) ∧ Below w.heap.size w w'

theorem flatR_all (xs : RL) : ∀ u ∈ flatR xs, u.oneCell' = true := by
  intro u hu
  obtain ⟨x, hx, hu⟩ := List.mem_flatMap.1 hu
  exact flatR_one x u hu
theorem RdR.flat {w : World} {B b o : Nat} {xs : RL} (h : RdR w B (some ⟨b, o, none⟩) xs) : ∀ j u, (flatR xs)[j]? = some u → w.cell? ((⟨b, o, none⟩ : Addr).add j) = some u := by
  intro j u hu
  have hj : j < xs.length * 2 := by
    have := (List.getElem?_eq_some_iff.1 hu).1
    rwa [flatR_length] at this
  obtain ⟨b', o', e, hb, hc⟩ := h (by omega)
  injection e with e
  injection e with e1 e2
  subst e1 e2
  have hq : j / 2 < xs.length := by omega
  have hadd : (⟨b, o, none⟩ : Addr).add j = ⟨b, o + j, none⟩ := by unfold Addr.add; split <;> simp_all
  rw [hadd, ← hu]
  have h2 : j % 2 = 0 ∨ j % 2 = 1 := by omega
  rcases h2 with h2 | h2
  · have h3 := flatR_fst xs (j / 2) hq
    have h4 := (hc (j / 2) hq).1
    rw [show j / 2 * 2 = j by omega] at h3 h4
    rw [h3, h4]
  · have h3 := flatR_snd xs (j / 2) hq
    have h4 := (hc (j / 2) hq).2
    rw [show o + j / 2 * 2 + 1 = o + j by omega] at h4
    rw [show j / 2 * 2 + 1 = j by omega] at h3
    rw [h3, h4]

set_option maxHeartbeats 1000000 in
theorem Clone_any (A : Option Addr) (c : Nat) (xs : RL) (w : World) (hr : RdR w w.heap.size A xs) (hn : xs.length ≤ 4294967296) :
    Calls Try.prog 32 #[.slice A xs.length c] w (ClonePost xs w) := by
  obtain ⟨i0, hi, hz0, hz1, hz2⟩ := info_parts info29
  have q22 : ∀ (w : World) (a : Option Addr) (n c n' c' : Nat), (binOp .eql 22 (.slice a n c) (.slice none n' c')).run Try.prog w = .ok (.bool a.isNone) w := fun w a n c n' c' => Lib.run_eql_slice_nil w _ _ a n c n' c' Try.underlying22
  cases A with
  | none =>
    have h0 : xs = [] := by
      rcases xs with _ | ⟨x, xs⟩
      · rfl
      · obtain ⟨b, o, e, _⟩ := hr (by simp)
        cases e
    subst h0
    clear hr
    go_enter Try.func32, Try.ntmps32
    go_wp2
    go_ret
    exact ⟨none, 0, rfl, World.ownsRow_nil _ _ _ _, Below.refl _ _⟩
  | some ad =>
    have hcells : ∀ j u, (flatR xs)[j]? = some u → w.cell? (ad.add j) = some u := by
      intro j u hu
      have hj : j < xs.length * 2 := by
        have := (List.getElem?_eq_some_iff.1 hu).1
        rwa [flatR_length] at this
      obtain ⟨b, o, e, hb, hc⟩ := hr (by omega)
      injection e with e
      subst e
      exact hr.flat j u hu
    have hlt : ∀ j u, (flatR xs)[j]? = some u → (ad.add j).block < w.heap.size := by
      intro j u hu
      have hj : j < xs.length * 2 := by
        have := (List.getElem?_eq_some_iff.1 hu).1
        rwa [flatR_length] at this
      obtain ⟨b, o, e, hb, hc⟩ := hr (by omega)
      injection e with e
      subst e
      have : ((⟨b, o, none⟩ : Addr).add j).block = b := by unfold Addr.add; split <;> rfl
      omega
    have Hc := Lib.hid hcells
    have Hlt := Lib.hid hlt
    clear hcells hlt hr
    go_enter Try.func32, Try.ntmps32
    go_wp2_with (at_builtin; refine wpList_append_own _ rfl _ _ _ rfl w.heap.size 29 i0 _ 2 16 Try.underlying22 hi hz0 hz1 hz2 rfl (by decide) _ 0 [] rfl ?c0 ad xs.length c (flatR xs) rfl ?c1 ?c2 ?c3 ?c4 ?c5 ?c6 ?_)
    case c0 => exact World.ownsRow_made w #[] 0 (Nat.le_refl _) (Nat.zero_le _) rfl
    case c1 => exact flatR_length xs
    case c2 => exact fun j u hu => by rw [World.cell?_alloc_lt w _ _ (Hlt.out j u hu)]; exact Hc.out j u hu
    case c3 => exact flatR_all xs
    case c4 => unfold maxLen; omega
    case c5 => omega
    case c6 => simp
    intro v' w1 hown' hgrow _
    have Hown := Lib.hid hown'
    have Hgrow := Lib.hid hgrow
    clear hown' hgrow
    go_wp2
    go_ret
    have hb : Below w.heap.size w w1 := ((Below.refl _ w).alloc (Nat.le_refl _) _).grown Hgrow.out (by simp) (fun k hk => by simp [Value.ownBlock] at hk; omega)
    rcases Hown.out.2 with ⟨hv, h0⟩ | ⟨g, cap, cur, hv, _⟩
    · subst hv
      have : xs = [] := List.eq_nil_of_length_eq_zero h0
      subst this
      exact ⟨none, 0, rfl, Hown.out, hb⟩
    · subst hv
      exact ⟨_, cap, rfl, Hown.out, hb⟩

/-- All ranges are sound. -/
def allSound (xs : RL) : Bool := xs.all fun x => soundB x.1 x.2

/-- The set of the numbers of ranges. -/
def normR (xs : RL) : RL := (sortR xs).foldl ext []

theorem ext_bound {S : RL} {r : Int × Int} (hS : ∀ x ∈ S, 0 ≤ x.2 ∧ x.2 ≤ 4294967296) (hr : 0 ≤ r.2 ∧ r.2 ≤ 4294967296) : ∀ x ∈ ext S r, 0 ≤ x.2 ∧ x.2 ≤ 4294967296 := by
  intro x hx
  by_cases h0 : 0 < S.length
  · obtain ⟨T, l, rfl⟩ := snoc_of h0
    by_cases hf : 2 ≤ r.1 - l.2
    · rw [ext_far _ _ _ hf] at hx
      rcases List.mem_append.1 hx with h | h
      · exact hS x h
      · simp at h; subst h; exact hr
    · rw [ext_near _ _ _ hf] at hx
      rcases List.mem_append.1 hx with h | h
      · exact hS x (by simp [h])
      · simp at h; subst h
        have := hS l (by simp)
        simp only
        omega
  · have : S = [] := List.eq_nil_of_length_eq_zero (by omega)
    subst this
    rw [ext_nil] at hx
    simp at hx
    subst hx
    exact hr
theorem ext_len (S : RL) (r : Int × Int) : (ext S r).length ≤ S.length + 1 := by
  by_cases h0 : 0 < S.length
  · obtain ⟨T, l, rfl⟩ := snoc_of h0
    by_cases hf : 2 ≤ r.1 - l.2
    · rw [ext_far _ _ _ hf]; simp
    · rw [ext_near _ _ _ hf]; simp
  · have : S = [] := List.eq_nil_of_length_eq_zero (by omega)
    subst this
    rw [ext_nil]; simp

def NormPost (T : RL) (w : World) (e : Ending) (w' : World) : Prop :=
  ∃ A c, e = .returned (.tuple #[.slice A T.length c, .int .i64 0]) ∧ RdR w' w'.heap.size A T ∧ Below w.heap.size w w'

theorem mem_sortR {xs : RL} {x : Int × Int} : x ∈ sortR xs ↔ x ∈ xs := (List.mergeSort_perm xs _).mem_iff
theorem sortR_length (xs : RL) : (sortR xs).length = xs.length := (List.mergeSort_perm xs _).length_eq
theorem allSound_at {xs : RL} {k : Nat} (h : allSound xs = true) (hk : k < xs.length) : soundB (xs.getD k (0, 0)).1 (xs.getD k (0, 0)).2 = true := by
  rw [List.getD_eq_getElem?_getD, List.getElem?_eq_getElem hk]
  exact List.all_eq_true.1 h _ (List.getElem_mem hk)
theorem allSound_sort {xs : RL} (h : allSound xs = true) : allSound (sortR xs) = true :=
  List.all_eq_true.2 fun x hx => List.all_eq_true.1 h x (mem_sortR.1 hx)

/-- The set of the first k ranges. -/
def extTo (ys : RL) (k : Nat) : RL := (ys.take k).foldl ext []
theorem extTo_succ {ys : RL} {k : Nat} (hk : k < ys.length) : extTo ys (k + 1) = ext (extTo ys k) (ys.getD k (0, 0)) := by
  unfold extTo
  rw [List.take_succ_eq_append_getElem hk, List.foldl_append, List.getD_eq_getElem?_getD, List.getElem?_eq_getElem hk]
  rfl
theorem extTo_bound {ys : RL} (h : allSound ys = true) : ∀ k, k ≤ ys.length → (∀ x ∈ extTo ys k, 0 ≤ x.2 ∧ x.2 ≤ 4294967296) ∧ (extTo ys k).length ≤ k
  | 0, _ => ⟨fun x hx => by simp [extTo] at hx, by simp [extTo]⟩
  | k + 1, hk => by
    have ih := extTo_bound h k (by omega)
    rw [extTo_succ (by omega)]
    have hs := soundB_iff.1 (allSound_at h (show k < ys.length by omega))
    refine ⟨ext_bound ih.1 (by omega), ?_⟩
    have := ext_len (extTo ys k) (ys.getD k (0, 0))
    omega

set_option maxHeartbeats 1000000 in
/-- The second part of Normalize: the ranges of ys, in order, put into a set. -/
theorem Normalize_bad (A : Option Addr) (c : Nat) (xs : RL) (w : World) (hr : RdR w w.heap.size A xs) (hn : xs.length ≤ 4294967296) (h : allSound xs = false) :
    Calls Try.prog 13 #[.slice A xs.length c] w fun e w' => e = .returned (.tuple #[.slice none 0 0, .int .i64 120]) ∧ Below w.heap.size w w' := by
  have Hr := Lib.hid hr
  have H := Lib.hid h
  clear hr h
  go_enter Try.func13, Try.ntmps13
  go_wp2_with fail
  go_loopw [12] (fun i wr => ∃ k : Nat, k ≤ xs.length ∧ i = .int .i64 k ∧ Hid (∀ j, j < k → soundB (xs.getD j (0, 0)).1 (xs.getD j (0, 0)).2 = true) ∧ Below w.heap.size w wr) (fun i _ => xs.length - (intOf i).toNat)
  case atStart => exact ⟨0, Nat.zero_le _, rfl, fun j hj => absurd hj (by omega), Below.refl _ _⟩
  case round =>
    obtain ⟨k, hk, rfl, HK, hb⟩ := hrel
    by_cases hlt : k < xs.length
    · obtain ⟨b, o, rfl, hbB, hc⟩ := Hr.out (by omega)
      have hsz := hb.size
      obtain ⟨a1, a2, HA⟩ : ∃ a1 a2, Hid (xs.getD k (0, 0) = (a1, a2)) := ⟨_, _, rfl⟩
      have hc0 : wr.cell? ⟨b, o + k * 2, none⟩ = some (.int .i64 a1) := by rw [hb.cell (p := ⟨b, o + k * 2, none⟩) hbB, (hc k hlt).1, HA.out]
      have hc1 : wr.cell? ⟨b, o + k * 2 + 1, none⟩ = some (.int .i64 a2) := by rw [hb.cell (p := ⟨b, o + k * 2 + 1, none⟩) hbB, (hc k hlt).2, HA.out]
      clear hc
      cases hs : soundB a1 a2 with
      | false =>
        have Hs := Lib.hid hs
        clear hs
        go_wp2_with (go_at_call 31; refine (sound_no a1 a2 _ Hs.out).mono ?_; rintro e w' ⟨rfl, rfl⟩)
        go_ret2
        exact ⟨rfl, (hb.alloc hb.size _).alloc (by simp; omega) _⟩
      | true =>
        have Hs := Lib.hid hs
        clear hs
        go_wp2_with (go_at_call 31; refine (sound_yes a1 a2 _ Hs.out).mono ?_; rintro e w' ⟨rfl, rfl⟩)
        go_roundw
        case rel =>
          refine ⟨k + 1, by omega, by go_num, fun j hj => ?_, (hb.alloc hb.size _).alloc (by simp; omega) _⟩
          by_cases hjk : j = k
          · subst hjk; rw [HA.out]; exact Hs.out
          · exact HK.out j (by omega)
        case measure => simp [intOf]; omega
    · obtain rfl : k = xs.length := by omega
      exfalso
      have h := H.out
      have : allSound xs = true := List.all_eq_true.2 fun x hx => by
        obtain ⟨i, hi, rfl⟩ := List.mem_iff_getElem.1 hx
        have := HK.out i hi
        rwa [List.getD_eq_getElem?_getD, List.getElem?_eq_getElem hi] at this
      rw [this] at h
      cases h
end Go.Proofs.Ytahlccihjjhgfaa
