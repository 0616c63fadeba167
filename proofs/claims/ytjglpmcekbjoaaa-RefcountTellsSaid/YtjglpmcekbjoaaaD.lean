/- Contracts: Valid (both), Check of a manifest (both). -/
import Derived.Test.YtjglpmcekbjoaaaC
namespace Go.Proofs.Ytjglpmcekbjoaaa
open Go.RowKit
attribute [local go_sem] wext_cell

def Gives (v : Value) (w : World) (e : Ending) (w' : World) : Prop := e = .returned v ∧ Below w.heap.size w w'
abbrev vID (i : ID) : Value := .agg #[.int .u64 i.1, .int .i64 i.2]

def validB (i : ID) : Bool := decide (0 ≤ i.2) && decide (i.2 ≤ 1048576) && decide (i.1 < 2305843009213693951) && (decide (0 < i.2) || i.1 == 0)

theorem gv {a r : Int} {w W : World} (h : a = r) (hb : Below w.heap.size w W) : Gives (.int .i64 a) w (.returned (.int .i64 r)) W := ⟨by rw [h], hb⟩
theorem bel1 (w : World) (o : Obj) : Below w.heap.size w (w.alloc o) := (Below.refl _ _).alloc (Nat.le_refl _) o

set_option maxHeartbeats 1000000 in
theorem Valid_any (s z : Int) (w : World) : Calls Try.prog 54 #[.agg #[.int .u64 s, .int .i64 z]] w (Gives (.bool (validB (s, z))) w) := by
  have fin : ∀ b : Bool, validB (s, z) = b → ∀ W, W = w.alloc (.cells #[.int .u64 s, .int .i64 z] 43) → Gives (.bool (validB (s, z))) w (.returned (.bool b)) W := by
    rintro b h W rfl
    exact ⟨by rw [h], bel1 _ _⟩
  by_cases h1 : 0 ≤ z
  · by_cases h2 : z ≤ 1048576
    · by_cases h3 : s < 2305843009213693951
      · by_cases h4 : 0 < z
        · go_enter Try.func54, Try.ntmps54
          go_wp2_with fail
          go_ret
          exact fin _ (by simp [validB]; omega) _ rfl
        · by_cases h5 : s = 0
          · subst h5
            have V : Hid (validB (0, z) = true) := by simp [Hid, validB]; omega
            go_enter Try.func54, Try.ntmps54
            go_wp2_with fail
            go_ret
            exact fin _ V.out _ rfl
          · have hb : (s == 0) = false := by rw [beq_eq_false_iff_ne]; exact h5
            go_enter Try.func54, Try.ntmps54
            go_wp2_with fail
            go_ret
            exact fin _ (by simp [validB]; omega) _ rfl
      · go_enter Try.func54, Try.ntmps54
        go_wp2_with fail
        go_ret
        exact fin _ (by simp [validB]; omega) _ rfl
    · go_enter Try.func54, Try.ntmps54
      go_wp2_with fail
      go_ret
      exact fin _ (by simp [validB]; omega) _ rfl
  · go_enter Try.func54, Try.ntmps54
    go_wp2_with fail
    go_ret
    exact fin _ (by simp [validB]; omega) _ rfl

set_option maxHeartbeats 1000000 in
theorem rValid_any (s z : Int) (w : World) : Calls Try.prog 55 #[.agg #[.int .u64 s, .int .i64 z]] w (Gives (.bool (validB (s, z))) w) := by
  have fin : ∀ b : Bool, validB (s, z) = b → ∀ W, W = w.alloc (.cells #[.int .u64 s, .int .i64 z] 43) → Gives (.bool (validB (s, z))) w (.returned (.bool b)) W := by
    rintro b h W rfl
    exact ⟨by rw [h], bel1 _ _⟩
  by_cases h1 : 0 ≤ z
  · by_cases h2 : z ≤ 1048576
    · by_cases h3 : s < 2305843009213693951
      · by_cases h4 : 0 < z
        · go_enter Try.func55, Try.ntmps55
          go_wp2_with fail
          go_ret
          exact fin _ (by simp [validB]; omega) _ rfl
        · by_cases h5 : s = 0
          · subst h5
            have V : Hid (validB (0, z) = true) := by simp [Hid, validB]; omega
            go_enter Try.func55, Try.ntmps55
            go_wp2_with fail
            go_ret
            exact fin _ V.out _ rfl
          · have hb : (s == 0) = false := by rw [beq_eq_false_iff_ne]; exact h5
            go_enter Try.func55, Try.ntmps55
            go_wp2_with fail
            go_ret
            exact fin _ (by simp [validB]; omega) _ rfl
      · go_enter Try.func55, Try.ntmps55
        go_wp2_with fail
        go_ret
        exact fin _ (by simp [validB]; omega) _ rfl
    · go_enter Try.func55, Try.ntmps55
      go_wp2_with fail
      go_ret
      exact fin _ (by simp [validB]; omega) _ rfl
  · go_enter Try.func55, Try.ntmps55
    go_wp2_with fail
    go_ret
    exact fin _ (by simp [validB]; omega) _ rfl

def chunkB (i : ID) : Bool := validB i && decide (1 ≤ i.2) && decide (i.2 ≤ 8192)
def manE (m : Man) : Int := if 1024 < m.ids.length then 251 else if m.ids.all chunkB = false then 250 else if m.size = sumZ m.ids ∧ m.size ≤ 1048576 then 0 else 252

theorem getD_mem {α : Type} (l : List α) (d : α) (k : Nat) (h : k < l.length) : l.getD k d ∈ l := by
  rw [List.getD_eq_getElem?_getD, List.getElem?_eq_getElem h]
  exact List.getElem_mem h
theorem take_snoc {α : Type} (l : List α) (d : α) (k : Nat) (h : k < l.length) : l.take (k + 1) = l.take k ++ [l.getD k d] := by
  rw [List.take_add_one, List.getD_eq_getElem?_getD, List.getElem?_eq_getElem h]
  rfl
theorem chunkB_sound {i : ID} (h : chunkB i = true) : 1 ≤ i.2 ∧ i.2 ≤ 8192 := by
  simp [chunkB] at h
  omega
theorem sum_take_bd {l : List ID} : ∀ {k : Nat}, (l.take k).all chunkB = true → 0 ≤ sumZ (l.take k) ∧ sumZ (l.take k) ≤ 8192 * k := by
  have key : ∀ (l : List ID), l.all chunkB = true → 0 ≤ sumZ l ∧ sumZ l ≤ 8192 * l.length := by
    intro l
    induction l with
    | nil => intro _; simp [sumZ]
    | cons i l ih =>
      intro h
      rw [List.all_cons, Bool.and_eq_true] at h
      have h1 := chunkB_sound h.1
      have h2 := ih h.2
      simp only [sumZ, List.map_cons, List.sum_cons, List.length_cons] at *
      omega
  intro k h
  have := key _ h
  have hl : (l.take k).length ≤ k := by rw [List.length_take]; omega
  omega

theorem manE_bad {m : Man} {k : Nat} (hl : m.ids.length ≤ 1024) (hk : k < m.ids.length) (h : chunkB (m.ids.getD k (0, 0)) = false) : manE m = 250 := by
  unfold manE
  rw [if_neg (by omega), if_pos]
  rw [List.all_eq_false]
  exact ⟨_, getD_mem _ _ _ hk, by rw [h]; simp⟩
theorem manE_end {m : Man} (hl : m.ids.length ≤ 1024) (h : m.ids.all chunkB = true) : manE m = if m.size = sumZ m.ids ∧ m.size ≤ 1048576 then 0 else 252 := by
  unfold manE
  rw [if_neg (by omega), if_neg (by simp [h])]

set_option maxHeartbeats 2000000 in
theorem manCheck_any (x : Nat) (m : Man) (A : Option Addr) (c : Nat) (w : World) (hr : RdID w x A m.ids) (hn : m.ids.length ≤ 9223372036854775807) :
    Calls Try.prog 59 #[.agg #[.int .i64 m.size, .slice A m.ids.length c]] w (Gives (.int .i64 (manE m)) w) := by
  have Hr := Lib.hid hr
  clear hr
  by_cases hl : m.ids.length ≤ 1024
  · go_enter Try.func59, Try.ntmps59
    go_wp2_with fail
    go_loopw [3, 13] (fun n i wr => ∃ k : Nat, k ≤ m.ids.length ∧ i = .int .i64 k ∧ n = .int .i64 (sumZ (m.ids.take k)) ∧ (m.ids.take k).all chunkB = true ∧ IsB wr w.heap.size 38 #[.int .i64 m.size, .slice A m.ids.length c] ∧ Below w.heap.size w wr) (fun _ i _ => m.ids.length - (intOf i).toNat)
    case atStart => exact ⟨0, Nat.zero_le _, rfl, by simp [sumZ], by simp, IsB.new _ _ _, bel1 _ _⟩
    case round =>
      obtain ⟨k, hk, rfl, rfl, hall, hB, hb⟩ := hrel
      have hsz := hb.size
      have hbd := sum_take_bd hall
      have HB := Lib.hid hB
      have Hall := Lib.hid hall
      clear hB hall
      obtain ⟨S, HS⟩ : ∃ S, Hid (sumZ (m.ids.take k) = S) := ⟨_, rfl⟩
      rw [HS.out] at hbd ⊢
      by_cases hlt : k < m.ids.length
      · obtain ⟨b, o, rfl, hbB, _, hc⟩ := Hr.out (by omega)
        obtain ⟨s, z, HI⟩ : ∃ s z, Hid (m.ids.getD k (0, 0) = (s, z)) := ⟨_, _, rfl⟩
        have hc0 : wr.cell? ⟨b, o + k * 2, none⟩ = some (.int .u64 s) := by rw [hb.cell (p := ⟨b, o + k * 2, none⟩) hbB]; exact hc k hlt 0 _ (by rw [HI.out]; rfl)
        have hc1 : wr.cell? ⟨b, o + k * 2 + 1, none⟩ = some (.int .i64 z) := by rw [hb.cell (p := ⟨b, o + k * 2 + 1, none⟩) hbB]; exact hc k hlt 1 _ (by rw [HI.out]; rfl)
        clear hc
        go_wp2_with fail
        refine (Valid_any s z _).mono ?_
        rintro e w1 ⟨rfl, hb1⟩
        have hn0 : w1.cell? ⟨wr.heap.size, 0, none⟩ = some (.int .u64 s) := by rw [hb1.cell (p := ⟨wr.heap.size, 0, none⟩) (by simp)]; exact new_cell _ _ _ _ rfl 0
        have hn1 : w1.cell? ⟨wr.heap.size, 1, none⟩ = some (.int .i64 z) := by rw [hb1.cell (p := ⟨wr.heap.size, 1, none⟩) (by simp)]; exact new_cell _ _ _ _ rfl 1
        have hbw : Hid (Below w.heap.size w w1) := (hb.alloc hb.size _).trans (hb1.mono (by simp; omega))
        have HB1 : Hid (IsB w1 w.heap.size 38 #[.int .i64 m.size, .slice (some ⟨b, o, none⟩) m.ids.length c]) := (HB.out.alloc _).on hb1
        clear hb1
        cases hv : validB (s, z) with
        | false =>
          have HE : Hid (manE m = 250) := manE_bad hl hlt (by rw [HI.out]; simp [chunkB, hv])
          clear hv
          go_wp2_with fail
          go_ret
          exact gv HE.out (hbw.out)
        | true =>
          by_cases h1 : z < 1
          · have HE : Hid (manE m = 250) := manE_bad hl hlt (by rw [HI.out]; simp [chunkB]; omega)
            clear hv
            go_wp2_with fail
            go_ret
            exact gv HE.out (hbw.out)
          · by_cases h2 : 8192 < z
            · have HE : Hid (manE m = 250) := manE_bad hl hlt (by rw [HI.out]; simp [chunkB]; omega)
              clear hv
              go_wp2_with fail
              go_ret
              exact gv HE.out (hbw.out)
            · have HC : Hid (chunkB (s, z) = true) := by simp [Hid, chunkB, hv]; omega
              clear hv
              go_wp2_with fail
              go_roundw
              case rel => exact ⟨k + 1, by omega, by go_num, by rw [take_snoc _ (0, 0) _ hlt, sumZ_snoc, HS.out, HI.out], by rw [take_snoc _ (0, 0) _ hlt, List.all_append, Hall.out, HI.out]; simp [HC.out], HB1.out, hbw.out⟩
              case measure => simp [intOf]; omega
      · obtain rfl : k = m.ids.length := by omega
        rw [List.take_length] at Hall HS
        have hE := manE_end hl Hall.out
        rw [HS.out] at hE
        have hc0 : wr.cell? ⟨w.heap.size, 0, none⟩ = some (.int .i64 m.size) := by rw [HB.out.cell]; rfl
        by_cases h1 : m.size = S
        · subst h1
          by_cases h2 : m.size ≤ 1048576
          · rw [if_pos ⟨rfl, h2⟩] at hE
            have HE := Lib.hid hE
            clear hE
            go_wp2_with fail
            go_ret
            exact gv HE.out (hb)
          · rw [if_neg (by omega)] at hE
            have HE := Lib.hid hE
            clear hE
            go_wp2_with fail
            go_ret
            exact gv HE.out (hb)
        · have hbe : (m.size != S) = true := by rw [bne_iff_ne]; exact h1
          rw [if_neg (by omega)] at hE
          have HE := Lib.hid hE
          clear hE h1
          go_wp2_with fail
          go_ret
          exact gv HE.out (hb)
  · have HE : Hid (manE m = 251) := by unfold Hid manE; rw [if_pos (by omega)]
    go_enter Try.func59, Try.ntmps59
    go_wp2_with fail
    go_ret
    exact gv HE.out (bel1 _ _)

set_option maxHeartbeats 2000000 in
theorem rmanCheck_any (x : Nat) (m : Man) (A : Option Addr) (c : Nat) (w : World) (hr : RdID w x A m.ids) (hn : m.ids.length ≤ 9223372036854775807) :
    Calls Try.prog 47 #[.agg #[.int .i64 m.size, .slice A m.ids.length c]] w (Gives (.int .i64 (manE m)) w) := by
  have Hr := Lib.hid hr
  clear hr
  by_cases hl : m.ids.length ≤ 1024
  · go_enter Try.func47, Try.ntmps47
    go_wp2_with fail
    go_loopw [3, 4] (fun n i wr => ∃ k : Nat, k ≤ m.ids.length ∧ i = .int .i64 k ∧ n = .int .i64 (sumZ (m.ids.take k)) ∧ (m.ids.take k).all chunkB = true ∧ IsB wr w.heap.size 38 #[.int .i64 m.size, .slice A m.ids.length c] ∧ Below w.heap.size w wr) (fun _ i _ => m.ids.length - (intOf i).toNat)
    case atStart => exact ⟨0, Nat.zero_le _, rfl, by simp [sumZ], by simp, IsB.new _ _ _, bel1 _ _⟩
    case round =>
      obtain ⟨k, hk, rfl, rfl, hall, hB, hb⟩ := hrel
      have hsz := hb.size
      have hbd := sum_take_bd hall
      have hm0 : wr.cell? ⟨w.heap.size, 0, none⟩ = some (.int .i64 m.size) := by rw [hB.cell]; rfl
      have hm1 : wr.cell? ⟨w.heap.size, 1, none⟩ = some (.slice A m.ids.length c) := by rw [hB.cell]; rfl
      have hBlt := hB.lt
      have HB := Lib.hid hB
      have Hall := Lib.hid hall
      clear hB hall
      obtain ⟨S, HS⟩ : ∃ S, Hid (sumZ (m.ids.take k) = S) := ⟨_, rfl⟩
      rw [HS.out] at hbd ⊢
      by_cases hlt : k < m.ids.length
      · obtain ⟨b, o, rfl, hbB, _, hc⟩ := Hr.out (by omega)
        obtain ⟨s, z, HI⟩ : ∃ s z, Hid (m.ids.getD k (0, 0) = (s, z)) := ⟨_, _, rfl⟩
        have hc0 : wr.cell? ⟨b, o + k * 2, none⟩ = some (.int .u64 s) := by rw [hb.cell (p := ⟨b, o + k * 2, none⟩) hbB]; exact hc k hlt 0 _ (by rw [HI.out]; rfl)
        have hc1 : wr.cell? ⟨b, o + k * 2 + 1, none⟩ = some (.int .i64 z) := by rw [hb.cell (p := ⟨b, o + k * 2 + 1, none⟩) hbB]; exact hc k hlt 1 _ (by rw [HI.out]; rfl)
        clear hc
        go_wp2_with fail
        refine (rValid_any s z _).mono ?_
        rintro e w1 ⟨rfl, hb1⟩
        have hn0 : w1.cell? ⟨wr.heap.size, 0, none⟩ = some (.int .u64 s) := by rw [hb1.cell (p := ⟨wr.heap.size, 0, none⟩) (by simp)]; exact new_cell _ _ _ _ rfl 0
        have hn1 : w1.cell? ⟨wr.heap.size, 1, none⟩ = some (.int .i64 z) := by rw [hb1.cell (p := ⟨wr.heap.size, 1, none⟩) (by simp)]; exact new_cell _ _ _ _ rfl 1
        have hbw : Hid (Below w.heap.size w w1) := (hb.alloc hb.size _).trans (hb1.mono (by simp; omega))
        have HB1 : Hid (IsB w1 w.heap.size 38 #[.int .i64 m.size, .slice (some ⟨b, o, none⟩) m.ids.length c]) := (HB.out.alloc _).on hb1
        clear hb1
        cases hv : validB (s, z) with
        | false =>
          have HE : Hid (manE m = 250) := manE_bad hl hlt (by rw [HI.out]; simp [chunkB, hv])
          clear hv
          go_wp2_with fail
          go_ret
          exact gv HE.out (hbw.out)
        | true =>
          by_cases h1 : z < 1
          · have HE : Hid (manE m = 250) := manE_bad hl hlt (by rw [HI.out]; simp [chunkB]; omega)
            clear hv
            go_wp2_with fail
            go_ret
            exact gv HE.out (hbw.out)
          · by_cases h2 : 8192 < z
            · have HE : Hid (manE m = 250) := manE_bad hl hlt (by rw [HI.out]; simp [chunkB]; omega)
              clear hv
              go_wp2_with fail
              go_ret
              exact gv HE.out (hbw.out)
            · have HC : Hid (chunkB (s, z) = true) := by simp [Hid, chunkB, hv]; omega
              clear hv
              go_wp2_with fail
              go_roundw
              case rel => exact ⟨k + 1, by omega, by go_num, by rw [take_snoc _ (0, 0) _ hlt, sumZ_snoc, HS.out, HI.out], by rw [take_snoc _ (0, 0) _ hlt, List.all_append, Hall.out, HI.out]; simp [HC.out], HB1.out, hbw.out⟩
              case measure => simp [intOf]; omega
      · obtain rfl : k = m.ids.length := by omega
        rw [List.take_length] at Hall HS
        have hE := manE_end hl Hall.out
        rw [HS.out] at hE
        by_cases h1 : m.size = S
        · subst h1
          by_cases h2 : m.size ≤ 1048576
          · rw [if_pos ⟨rfl, h2⟩] at hE
            have HE := Lib.hid hE
            clear hE
            go_wp2_with fail
            go_ret
            exact gv HE.out (hb)
          · rw [if_neg (by omega)] at hE
            have HE := Lib.hid hE
            clear hE
            go_wp2_with fail
            go_ret
            exact gv HE.out (hb)
        · have hbe : (m.size != S) = true := by rw [bne_iff_ne]; exact h1
          rw [if_neg (by omega)] at hE
          have HE := Lib.hid hE
          clear hE h1
          go_wp2_with fail
          go_ret
          exact gv HE.out (hb)
  · have HE : Hid (manE m = 251) := by unfold Hid manE; rw [if_pos (by omega)]
    go_enter Try.func47, Try.ntmps47
    go_wp2_with fail
    go_ret
    exact gv HE.out (bel1 _ _)
end Go.Proofs.Ytjglpmcekbjoaaa
