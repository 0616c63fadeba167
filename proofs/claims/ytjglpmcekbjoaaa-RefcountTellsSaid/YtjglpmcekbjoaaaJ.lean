/- Contracts: references. -/
import Derived.Test.YtjglpmcekbjoaaaI
namespace Go.Proofs.Ytjglpmcekbjoaaa
open Go.RowKit Go.MapKept Go.ChangeMaps

def errM : List Man → Int
  | [] => 0
  | m :: ms => if manE m = 0 then errM ms else manE m
/-- The counts with one reference more for each of the IDs. -/
def addIDs (L : List CT) (l : List ID) : List CT := l.foldl (fun L i => putN L i 1) L
def refsFrom (L : List CT) (ms : List Man) : List CT := ms.foldl (fun L m => addIDs L m.ids) L
def refs (ms : List Man) : List CT := refsFrom [] ms
theorem addIDs_snoc (L : List CT) (l : List ID) (i : ID) : addIDs L (l ++ [i]) = putN (addIDs L l) i 1 := by simp [addIDs]
theorem refs_snoc (ms : List Man) (m : Man) : refs (ms ++ [m]) = addIDs (refs ms) m.ids := by simp [refs, refsFrom]
theorem errM_snoc (ms : List Man) (m : Man) (h : errM ms = 0) : errM (ms ++ [m]) = manE m := by
  induction ms with
  | nil => simp only [List.nil_append, errM]; split <;> simp_all
  | cons a ms ih =>
    simp only [List.cons_append, errM] at h ⊢
    split at h
    · rename_i e; rw [if_pos e]; exact ih h
    · rename_i e; exact absurd h e
theorem errM_more (ms l : List Man) (h : errM ms ≠ 0) : errM (ms ++ l) = errM ms := by
  induction ms with
  | nil => exact absurd rfl h
  | cons a ms ih =>
    simp only [List.cons_append, errM] at h ⊢
    split
    · rename_i e; rw [if_pos e] at h; exact ih h
    · rfl
theorem errM_at {ms : List Man} {k : Nat} (h : errM (ms.take k) = 0) (hk : k < ms.length) (he : manE (ms.getD k man0) ≠ 0) : errM ms = manE (ms.getD k man0) := by
  have h1 := errM_snoc (ms.take k) (ms.getD k man0) h
  rw [← take_snoc _ _ _ hk] at h1
  have h2 := errM_more (ms.take (k + 1)) (ms.drop (k + 1)) (by rw [h1]; exact he)
  rw [List.take_append_drop, h1] at h2
  exact h2
theorem addIDs_bd {L : List CT} {B : Int} (hL : ∀ i, 0 ≤ nAt L i ∧ nAt L i ≤ B) (l : List ID) : ∀ i, 0 ≤ nAt (addIDs L l) i ∧ nAt (addIDs L l) i ≤ B + l.length := by
  induction l generalizing L B with
  | nil => intro i; simpa [addIDs] using hL i
  | cons c t ih =>
    intro i
    have := ih (L := putN L c 1) (B := B + 1) (fun j => by
      rw [nAt_putN]
      have h2 := hL j
      have h3 := hL c
      split <;> omega) i
    rw [List.length_cons]
    push_cast
    show 0 ≤ nAt (addIDs (putN L c 1) t) i ∧ nAt (addIDs (putN L c 1) t) i ≤ _
    omega
theorem manE_len {m : Man} (h : manE m = 0) : m.ids.length ≤ 1024 := by
  unfold manE at h
  split at h
  · cases h
  · omega
theorem manE_all {m : Man} (h : manE m = 0) : m.ids.all chunkB = true := by
  unfold manE at h
  split at h
  · cases h
  · split at h
    · cases h
    · rename_i h2
      simpa using h2
theorem refs_bd {ms : List Man} (h : errM ms = 0) : ∀ i, 0 ≤ nAt (refs ms) i ∧ nAt (refs ms) i ≤ 1024 * ms.length := by
  have key : ∀ (ms : List Man) (L : List CT) (B : Int), errM ms = 0 → (∀ i, 0 ≤ nAt L i ∧ nAt L i ≤ B) → ∀ i, 0 ≤ nAt (refsFrom L ms) i ∧ nAt (refsFrom L ms) i ≤ B + 1024 * ms.length := by
    intro ms
    induction ms with
    | nil => intro L B _ hL i; simpa [refsFrom] using hL i
    | cons m ms ih =>
      intro L B h hL i
      simp only [errM] at h
      split at h
      · rename_i e
        have hl := manE_len e
        have := ih (addIDs L m.ids) (B + 1024) h (fun j => by have := addIDs_bd hL m.ids j; omega) i
        rw [List.length_cons]
        push_cast
        show 0 ≤ nAt (refsFrom (addIDs L m.ids) ms) i ∧ nAt (refsFrom (addIDs L m.ids) ms) i ≤ _
        omega
      · rename_i e; exact absurd h e
  intro i
  have := key ms [] 0 h (fun j => by simp [nAt, asc]) i
  simpa [refs] using this

def RefsPost (ms : List Man) (w : World) (e : Ending) (w' : World) : Prop :=
  Below w.heap.size w w' ∧ ((errM ms = 0 ∧ ∃ b, w.heap.size ≤ b ∧ e = .returned (.tuple #[.map (some b), .int .i64 0]) ∧ Mp w' b (refs ms)) ∨ (errM ms ≠ 0 ∧ e = .returned (.tuple #[.map none, .int .i64 (errM ms)])))

theorem below_own {w wr w' : World} {b : Nat} (h : Below w.heap.size w wr) (hg : wr.grownBy w' (some b)) (hb : w.heap.size ≤ b) : Below w.heap.size w w' :=
  h.grown hg h.size (fun k hk => by injection hk with hk; omega)

set_option maxHeartbeats 4000000 in
theorem references_any (x : Nat) (ms : List Man) (A : Option Addr) (c : Nat) (w : World) (hr : RdM w x A ms) (hn : ms.length ≤ 1000000) (hi : ∀ m ∈ ms, m.ids.length ≤ 9223372036854775807) (hok : ∀ m ∈ ms, ∀ i ∈ m.ids, okID i) :
    Calls Try.prog 39 #[.slice A ms.length c] w (RefsPost ms w) := by
  have Hr := Lib.hid hr
  have Hi := Lib.hid hi
  have Hok := Lib.hid hok
  clear hr hi hok
  have hmm := @run_makeMap Try.prog
  go_enter Try.func39, Try.ntmps39
  go_wp2_with fail
  go_loopw [13] (fun v wr => ∃ k : Nat, k ≤ ms.length ∧ v = .int .i64 k ∧ Mp wr w.heap.size (refs (ms.take k)) ∧ errM (ms.take k) = 0 ∧ Below w.heap.size w wr) (fun v _ => ms.length - (intOf v).toNat)
  case atStart => exact ⟨0, Nat.zero_le _, rfl, MapIs.made w, rfl, bel1 _ _⟩
  case round =>
    obtain ⟨k, hk, rfl, hm, he, hb⟩ := hrel
    have hsz := hb.size
    by_cases hlt : k < ms.length
    · obtain ⟨rs, h1, h2, h3⟩ := Hr.out
      obtain ⟨b, o, rfl, hbB, _, hc⟩ := h1 (by omega)
      obtain ⟨l1, l2, l3, l4⟩ := h3 k hlt
      have hmem := getD_mem ms man0 k hlt
      obtain ⟨m, HI⟩ : ∃ m, Hid (ms.getD k man0 = m) := ⟨_, rfl⟩
      obtain ⟨⟨rz, rA, rl, rc⟩, HR⟩ : ∃ r, Hid (rs.getD k mr0 = r) := ⟨_, rfl⟩
      rw [HI.out] at l1 l2 l4 hmem
      rw [HR.out] at l1 l2 l3 l4
      simp only at l1 l2 l3 l4
      subst l1 l2
      have hil := Hi.out m hmem
      have hoks := Hok.out m hmem
      have hc0 : wr.cell? ⟨b, o + k * 2, none⟩ = some (.int .i64 m.size) := by rw [hb.cell (p := ⟨b, o + k * 2, none⟩) hbB]; exact hc k (by omega) 0 _ (by rw [HR.out]; rfl)
      have hc1 : wr.cell? ⟨b, o + k * 2 + 1, none⟩ = some (.slice rA m.ids.length rc) := by rw [hb.cell (p := ⟨b, o + k * 2 + 1, none⟩) hbB]; exact hc k (by omega) 1 _ (by rw [HR.out]; rfl)
      have L4 := Lib.hid l4
      have Hm := Lib.hid hm
      have He := Lib.hid he
      have Hb := Lib.hid hb
      have Hoks := Lib.hid hoks
      have HE : Hid (manE m ≠ 0 → errM ms = manE m) := fun h => by have := errM_at He.out hlt (by rw [HI.out]; exact h); rwa [HI.out] at this
      have HS : Hid (refs (ms.take (k + 1)) = addIDs (refs (ms.take k)) m.ids) := by rw [Hid, take_snoc _ man0 _ hlt, refs_snoc, HI.out]
      have HZ : Hid (manE m = 0 → errM (ms.take (k + 1)) = 0) := fun h => by rw [take_snoc _ man0 _ hlt, errM_snoc _ _ He.out, HI.out]; exact h
      have hbd := refs_bd He.out
      have hlen : (ms.take k).length ≤ 1000000 := by rw [List.length_take]; omega
      have Hbd := Lib.hid hbd
      clear h1 h2 h3 hc l4 hm he hb hmem hoks hbd
      go_wp2_with fail
      refine (manCheck_any x m rA rc _ ((L4.out.on Hb.out).alloc _) hil).mono ?_
      rintro e w1 ⟨rfl, hb1⟩
      have hn0 : w1.cell? ⟨wr.heap.size, 0, none⟩ = some (.int .i64 m.size) := by rw [hb1.cell (p := ⟨wr.heap.size, 0, none⟩) (by simp)]; exact new_cell _ _ _ _ rfl 0
      have hn1 : w1.cell? ⟨wr.heap.size, 1, none⟩ = some (.slice rA m.ids.length rc) := by rw [hb1.cell (p := ⟨wr.heap.size, 1, none⟩) (by simp)]; exact new_cell _ _ _ _ rfl 1
      have Hbw : Hid (Below w.heap.size w w1) := (Hb.out.alloc Hb.out.size _).trans (hb1.mono (by simp; omega))
      have Hm1 : Hid (Mp w1 w.heap.size (refs (ms.take k))) := (Hm.out.alloc _).on hb1
      clear hb1
      by_cases hE : manE m = 0
      · have hle := manE_len hE
        have HE0 := HZ.out hE
        have Hz := Lib.hid HE0
        rw [hE]
        clear HE0 hE
        go_wp2_with fail
        go_loopw [25] (fun v wr => ∃ j : Nat, j ≤ m.ids.length ∧ v = .int .i64 j ∧ Mp wr w.heap.size (addIDs (refs (ms.take k)) (m.ids.take j)) ∧ Below w.heap.size w wr) (fun v _ => m.ids.length - (intOf v).toNat)
        case atStart => exact ⟨0, Nat.zero_le _, rfl, Hm1.out, Hbw.out⟩
        case round =>
          obtain ⟨j, hj, rfl, hm, hb⟩ := hrel
          have hsz := hb.size
          by_cases hjl : j < m.ids.length
          · obtain ⟨b2, o2, rfl, hb2B, _, hc⟩ := L4.out (by omega)
            obtain ⟨s, z, HJ⟩ : ∃ s z, Hid (m.ids.getD j (0, 0) = (s, z)) := ⟨_, _, rfl⟩
            have hc0 : wr.cell? ⟨b2, o2 + j * 2, none⟩ = some (.int .u64 s) := by rw [hb.cell (p := ⟨b2, o2 + j * 2, none⟩) hb2B]; exact hc j hjl 0 _ (by rw [HJ.out]; rfl)
            have hc1 : wr.cell? ⟨b2, o2 + j * 2 + 1, none⟩ = some (.int .i64 z) := by rw [hb.cell (p := ⟨b2, o2 + j * 2 + 1, none⟩) hb2B]; exact hc j hjl 1 _ (by rw [HJ.out]; rfl)
            have hok := Hoks.out _ (getD_mem m.ids (0, 0) j hjl)
            rw [HJ.out] at hok
            have hbd2 := addIDs_bd Hbd.out (m.ids.take j) (s, z)
            have hlj : (m.ids.take j).length ≤ 1024 := by rw [List.length_take]; omega
            have Hm := Lib.hid hm
            have Hb := Lib.hid hb
            have Hok := Lib.hid hok
            clear hc hm hb hok
            go_wp2_with fail
            have hd0 : (wr.alloc (.cells #[.int .u64 s, .int .i64 z] 43)).cell? ⟨wr.heap.size, 0, none⟩ = some (.int .u64 s) := new_cell _ _ _ _ rfl 0
            have hd1 : (wr.alloc (.cells #[.int .u64 s, .int .i64 z] 43)).cell? ⟨wr.heap.size, 1, none⟩ = some (.int .i64 z) := new_cell _ _ _ _ rfl 1
            obtain ⟨v0, st, w2, w3, e1, e2, e3, e4, e5, e6, e7⟩ := Mp.step (Hm.out.alloc (.cells #[.int .u64 s, .int .i64 z] 43)) s z 1 Hok.out
            have He5 := Lib.hid e5
            have He6 : Hid (Below w.heap.size w w3) := below_own (Hb.out.alloc Hb.out.size _) e6 (Nat.le_refl _)
            clear e5 e6
            generalize nAt (addIDs (refs (ms.take k)) (m.ids.take j)) (s, z) = v at e1 e3 e4 hbd2
            have hsum : IntKind.i64.wrap (v + 1) = v + 1 := IntWalk.i64_in _ (by omega)
            generalize wr.alloc (.cells #[.int .u64 s, .int .i64 z] 43) = W at *
            clear hc0 hc1
            go_region
            all_goals (
              go_wp2_with fail
              go_roundw
              case rel => exact ⟨j + 1, by omega, by go_num, by rw [take_snoc _ (0, 0) _ hjl, addIDs_snoc, HJ.out]; exact He5.out, He6.out⟩
              case measure => simp [intOf]; omega)
          · obtain rfl : j = m.ids.length := by omega
            rw [List.take_length] at hm
            go_wp2_with fail
            go_roundw
            case rel => exact ⟨k + 1, by omega, by go_num, by rw [HS.out]; exact hm, Hz.out, hb⟩
            case measure => simp [intOf]; omega
      · have HE1 := Lib.hid (HE.out hE)
        have hbe : (manE m != 0) = true := by rw [bne_iff_ne]; exact hE
        have HN : Hid (errM ms ≠ 0) := by rw [Hid, HE1.out]; exact hE
        have Heq : Hid (∀ W, Below w.heap.size w W → RefsPost ms w (.returned (.tuple #[.map none, .int .i64 (manE m)])) W) := fun W hW => ⟨hW, .inr ⟨HN.out, by rw [HE1.out]⟩⟩
        clear hE
        go_wp2_with fail
        go_ret2
        exact Heq.out _ Hbw.out
    · obtain rfl : k = ms.length := by omega
      rw [List.take_length] at hm he
      have Hm := Lib.hid hm
      have He := Lib.hid he
      clear hm he
      go_wp2_with fail
      go_ret2
      exact ⟨hb, .inl ⟨He.out, _, Nat.le_refl _, rfl, Hm.out⟩⟩
end Go.Proofs.Ytjglpmcekbjoaaa
