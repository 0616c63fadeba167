/- Contracts: Normalize of sound ranges; awake. -/
import Derived.Test.YtahlccihjjhgfaaK
namespace Go.Proofs.Ytahlccihjjhgfaa
open Go.RowKit Go.Shelf Go.Sort

def SortedPost (base : Nat) (A : Option Addr) (ys : RL) (w : World) (e : Ending) (w' : World) : Prop :=
  e = .returned (.tuple #[]) ∧ RdR w' w'.heap.size A ys ∧ Below base w w'

theorem sorted_any (base : Nat) (A : Option Addr) (cap : Nat) (xs : RL) (w : World) (h : w.ownsRow base 29 2 (.slice A xs.length cap) xs.length (flatR xs)) (hn : xs.length ≤ 4294967296) :
    Calls Try.prog 33 #[.slice A xs.length cap, .func (.func 34) #[] #[]] w (SortedPost base A (sortR xs) w) := by
  by_cases h0 : 0 < xs.length
  · obtain ⟨g, c2, hv, hb, hlt⟩ := h.form h0
    injection hv with h1 h2 h3
    subst h1
    exact (sort_any base g xs.length cap xs w h hn).mono fun _ _ ⟨he, hr, hb, _⟩ => ⟨he, hr, hb⟩
  · have : xs = [] := List.eq_nil_of_length_eq_zero (by omega)
    subst this
    exact (AnyF.slices_SortFunc_none Try.lay33 A cap (.func (.func 34) #[] #[]) w).mono fun _ _ ⟨he, hw⟩ => ⟨he, fun hp => by simp [sortR] at hp, hw ▸ Below.refl _ _⟩

set_option maxHeartbeats 2000000 in
theorem Normalize_ok (A : Option Addr) (c : Nat) (xs : RL) (w : World) (hr : RdR w w.heap.size A xs) (hn : xs.length ≤ 4294967296) (h : allSound xs = true) :
    Calls Try.prog 13 #[.slice A xs.length c] w (NormPost (normR xs) w) := by
  have Hr := Lib.hid hr
  have H := Lib.hid h
  clear hr h
  go_enter Try.func13, Try.ntmps13
  go_wp2_with fail
  go_loopw [12] (fun i wr => ∃ k : Nat, k ≤ xs.length ∧ i = .int .i64 k ∧ Below w.heap.size w wr) (fun i _ => xs.length - (intOf i).toNat)
  case atStart => exact ⟨0, Nat.zero_le _, rfl, Below.refl _ _⟩
  case round =>
    obtain ⟨k, hk, rfl, hb⟩ := hrel
    by_cases hlt : k < xs.length
    · obtain ⟨b, o, rfl, hbB, hc⟩ := Hr.out (by omega)
      have hsz := hb.size
      have Hs := Lib.hid (allSound_at H.out hlt)
      obtain ⟨a1, a2, HA⟩ : ∃ a1 a2, Hid (xs.getD k (0, 0) = (a1, a2)) := ⟨_, _, rfl⟩
      rw [HA.out] at Hs
      have hc0 : wr.cell? ⟨b, o + k * 2, none⟩ = some (.int .i64 a1) := by rw [hb.cell (p := ⟨b, o + k * 2, none⟩) hbB, (hc k hlt).1, HA.out]
      have hc1 : wr.cell? ⟨b, o + k * 2 + 1, none⟩ = some (.int .i64 a2) := by rw [hb.cell (p := ⟨b, o + k * 2 + 1, none⟩) hbB, (hc k hlt).2, HA.out]
      clear hc
      go_wp2_with (go_at_call 31; refine (sound_yes a1 a2 _ Hs.out).mono ?_; rintro e w' ⟨rfl, rfl⟩)
      go_roundw
      case rel => exact ⟨k + 1, by omega, by go_num, (hb.alloc hb.size _).alloc (by simp; omega) _⟩
      case measure => simp [intOf]; omega
    · obtain rfl : k = xs.length := by omega
      go_wp2_with fail
      refine (Clone_any _ _ xs wr (Hr.out.on hb) hn).mono ?_
      rintro e w1 ⟨A1, c1, rfl, hown1, hb1⟩
      have Hown1 := Lib.hid hown1
      clear hown1
      go_wp2_with fail
      refine (sorted_any _ _ _ xs w1 Hown1.out hn).mono ?_
      rintro e w2 ⟨rfl, hr2, hb2⟩
      have hb02 : Below w.heap.size w w2 := (hb.trans (hb1.mono hb.size)).trans (hb2.mono hb.size)
      have Hall := Lib.hid (allSound_sort H.out)
      have HN : Hid ((sortR xs).foldl ext [] = normR xs) := rfl
      rw [show xs.length = (sortR xs).length from (sortR_length xs).symm] at *
      clear hb hb1 hb2
      generalize sortR xs = ys at *
      have Hr2 := Lib.hid hr2
      clear hr2
      go_wp2_with fail
      go_loopw [7, 26] (fun v i w3 => ∃ (k : Nat) (A3 : Option Addr) (n3 c3 : Nat), k ≤ ys.length ∧ i = .int .i64 k ∧ v = .slice A3 n3 c3 ∧ w3.ownsRow w2.heap.size 29 2 (.slice A3 n3 c3) n3 (flatR (extTo ys k)) ∧ Below w2.heap.size w2 w3) (fun _ i _ => ys.length - (intOf i).toNat)
      case atStart => exact ⟨0, none, 0, 0, Nat.zero_le _, rfl, rfl, World.ownsRow_nil _ _ _ _, Below.refl _ _⟩
      case round =>
        obtain ⟨k, A3, n3, c3, hk, rfl, rfl, hown3, hb3⟩ := hrel
        obtain ⟨S, HS⟩ : ∃ S, Hid (extTo ys k = S) := ⟨_, rfl⟩
        rw [HS.out] at hown3
        have hn3 : n3 = S.length := (RdR.of_own hown3).1
        subst hn3
        have Hown3 := Lib.hid hown3
        clear hown3
        have hsz3 := hb3.size
        by_cases hlt : k < ys.length
        · obtain ⟨b, o, rfl, hbB, hc⟩ := Hr2.out (by omega)
          have Hs := Lib.hid (soundB_iff.1 (allSound_at Hall.out hlt))
          have Hbd := Lib.hid (extTo_bound Hall.out k hk)
          obtain ⟨a1, a2, HA⟩ : ∃ a1 a2, Hid (ys.getD k (0, 0) = (a1, a2)) := ⟨_, _, rfl⟩
          have HN2 := Lib.hid (extTo_succ hlt)
          rw [HA.out] at Hs HN2
          rw [HS.out] at Hbd HN2
          have hc0 : wr.cell? ⟨b, o + k * 2, none⟩ = some (.int .i64 a1) := by rw [hb3.cell (p := ⟨b, o + k * 2, none⟩) hbB, (hc k hlt).1, HA.out]
          have hc1 : wr.cell? ⟨b, o + k * 2 + 1, none⟩ = some (.int .i64 a2) := by rw [hb3.cell (p := ⟨b, o + k * 2 + 1, none⟩) hbB, (hc k hlt).2, HA.out]
          clear hc
          go_wp2_with fail
          refine (extend_any w2.heap.size A3 c3 S a1 a2 _ (Hown3.out.alloc _) (by simp; omega) (by have := Hbd.out.2; omega) Hbd.out.1 (by have h5 : 1 ≤ a1 ∧ a1 ≤ a2 ∧ a2 ≤ 1073741824 := Hs.out; omega)).mono ?_
          rintro e w4 ⟨A4, c4, rfl, hown4, hg4⟩
          have Hown4 := Lib.hid hown4
          have Hg4 := Lib.hid hg4
          clear hown4 hg4
          go_wp2_with fail
          go_roundw
          case rel =>
            refine ⟨k + 1, A4, _, c4, by omega, by go_num, rfl, ?_, (hb3.alloc hb3.size _).grown Hg4.out (by simp; omega) (fun q hq => (Hown3.out.lt q hq).1)⟩
            rw [HN2.out]
            exact Hown4.out
          case measure => simp [intOf]; omega
        · obtain rfl : k = ys.length := by omega
          go_wp2_with fail
          go_ret2
          have e : S = normR xs := by
            rw [← HS.out, ← HN.out, extTo, List.take_length]
          rw [← e]
          exact ⟨A3, c3, rfl, (RdR.of_own Hown3.out).2, hb02.trans (hb3.mono hb02.size)⟩

/-- The document's example. -/
theorem norm_known : normR [(5, 7), (1, 2), (3, 3), (6, 9)] = [(1, 3), (5, 9)] := by
  have e : sortR [(5, 7), (1, 2), (3, 3), (6, 9)] = [(1, 2), (3, 3), (5, 7), (6, 9)] := by
    simp [sortR, ltR, List.mergeSort, List.MergeSort.Internal.splitInTwo, List.merge]
  unfold normR
  rw [e]
  decide +kernel

theorem IsB.rd (w : World) (t : TypeId) (xs : RL) (B H : Nat) (hH : w.heap.size = H) (hB : H < B) : RdR (w.alloc (.cells (flatR xs).toArray t)) B (some ⟨H, 0, none⟩) xs := by
  subst hH
  intro _
  refine ⟨w.heap.size, 0, rfl, hB, fun j hj => ?_⟩
  rw [(IsB.new w t (flatR xs).toArray).cell, (IsB.new w t (flatR xs).toArray).cell]
  simp only [List.getElem?_toArray, Nat.zero_add]
  exact ⟨flatR_fst xs j hj, flatR_snd xs j hj⟩

set_option maxHeartbeats 1000000 in
theorem awake_any (w : World) : Calls Try.prog 12 #[] w fun e w' => e = .returned (.bool true) ∧ Below w.heap.size w w' := by
  have h1 := Normalize_ok (some ⟨w.heap.size, 0, none⟩) 4 [(5, 7), (1, 2), (3, 3), (6, 9)] (w.alloc (.cells (flatR [(5, 7), (1, 2), (3, 3), (6, 9)]).toArray 29)) (IsB.rd w 29 _ _ _ rfl (by simp)) (by decide) (by decide)
  rw [norm_known] at h1
  have H1 := Lib.hid h1
  clear h1
  go_enter Try.func12, Try.ntmps12
  go_wp2_with fail
  refine H1.out.mono ?_
  rintro e w1 ⟨A1, c1, rfl, hr1, hb1⟩
  have Hr1 := Lib.hid hr1
  clear hr1
  go_wp2_with fail
  have hs := Same_any A1 (some ⟨w1.heap.size, 0, none⟩) c1 2 [(1, 3), (5, 9)] [(1, 3), (5, 9)] (w1.alloc (.cells (flatR [(1, 3), (5, 9)]).toArray 29)) (Hr1.out.alloc _) (IsB.rd w1 29 _ _ _ rfl (by simp)) (by decide) (by decide)
  refine hs.mono ?_
  rintro e w2 ⟨rfl, hb2⟩
  go_wp2_with fail
  go_ret
  exact ⟨rfl, ((((Below.refl _ w).alloc (Nat.le_refl _) _).trans (hb1.mono (by simp))).alloc (Nat.le_trans (by simp) hb1.size) _).trans (hb2.mono (by have := hb1.size; simp at this ⊢; omega))⟩
end Go.Proofs.Ytahlccihjjhgfaa
