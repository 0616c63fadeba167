/- Contracts of the walk, part 12. -/
import Derived.RegionTactic
import Derived.ChangeAlike
import Derived.IntWalk
import Derived.Test.YtmiknfneeipkeaaGreatQ06
import Derived.Test.YtmiknfneeipkeaaGreatQ05
import Derived.Test.YtmiknfneeipkeaaGreatQ02
import Derived.Test.YtmiknfneeipkeaaGreatQ11
namespace Go.Proofs.YtmiknfneeipkeaaGreat
open Go.RowKit Go.MapKept Go.ChangeMaps
attribute [local go_sem] wext_cell
/-- A row of a table: the ID, the number. -/
abbrev CT := ID × Int
def encC (c : CT) : List Value := [.int .u64 c.1.1, .int .i64 c.1.2, .int .i64 c.2]
abbrev ct0 : CT := ((0, 0), 0)
abbrev RdC (w : World) (x : Nat) (A : Option Addr) (t : List CT) : Prop := Rd encC 3 ct0 w x A t
theorem encC_len (c : CT) : (encC c).length = 3 := rfl
theorem encC_one (c : CT) : ∀ u ∈ encC c, u.oneCell' = true := by
  intro u hu
  simp [encC] at hu
  rcases hu with rfl | rfl | rfl <;> rfl
/-- Block b is a map of counts that holds L. -/
abbrev Mp (w : World) (b : Nat) (L : List CT) : Prop := MapIs okID vID vN w b L
theorem zero3 (w : World) : (zeroValue 3).run Tryz.prog w = .ok (.int .i64 0) w := by kernel_rfl
/-- The number at an ID, or 0. -/
def nAt (L : List CT) (i : ID) : Int := (asc L i).getD 0
theorem Mp.look {w : World} {b : Nat} {L : List CT} (h : Mp w b L) (s z : Int) (ha : okID (s, z)) : (Instr.lookup 118 (.map (some b)) (.agg #[.int .u64 s, .int .i64 z]) false).run Tryz.prog w = .ok (.int .i64 (nAt L (s, z))) w := by
  have := MapIs.look mkI Tryz.underlying118 (zero3 w) h ha false
  rw [show (Value.agg #[.int .u64 s, .int .i64 z]) = vID (s, z) from rfl, this]
  unfold nAt
  cases asc L (s, z) <;> simp
/-- 'm[id] += n' on a map of counts. -/
def putN (L : List CT) (i : ID) (n : Int) : List CT := setL L i (nAt L i + n)
theorem nAt_putN (L : List CT) (i j : ID) (n : Int) : nAt (putN L i n) j = if i = j then nAt L i + n else nAt L j := by
  unfold putN
  conv => lhs; unfold nAt
  rw [asc_setL]
  split <;> rfl
/-- What the region of 'm[id] += n' needs. -/
theorem Mp.step {W : World} {b : Nat} {L : List CT} (h : Mp W b L) (s z n : Int) (hok : okID (s, z)) :
    ∃ (v0 : Value) (st : Nat) (w1 w3 : World), (Instr.lookup 118 (.map (some b)) (.agg #[.int .u64 s, .int .i64 z]) false).run Tryz.prog W.drew = .ok (.int .i64 (nAt L (s, z))) W.drew ∧
      (Instr.mapEntry 118 (.map (some b)) (.agg #[.int .u64 s, .int .i64 z])).run Tryz.prog W.drew = .ok (.tuple #[v0, .int .i64 st]) w1 ∧
      (Instr.lookup 118 (.map (some b)) (.agg #[.int .u64 s, .int .i64 z]) false).run Tryz.prog w1 = .ok (.int .i64 (nAt L (s, z))) w1 ∧
      (Instr.entryStore 118 (.map (some b)) (.int .i64 st) (.int .i64 (nAt L (s, z) + n))).run Tryz.prog w1 = .ok () w3 ∧ Mp w3 b (putN L (s, z) n) ∧ W.grownBy w3 (some b) ∧ w3.heap.size = W.heap.size := by
  have hd : Mp W.drew b L := h.same rfl
  obtain ⟨v0, st, w1, e1, e2, e3, e4, e5⟩ := MapIs.entry mkI Tryz.underlying118 (z := 0) zero3 hd hok
  obtain ⟨w3, f1, f2, f3, f4⟩ := e5 w1 (nAt L (s, z) + n) rfl
  refine ⟨v0, st, w1, w3, hd.look s z hok, e1, ?_, f1, f2, ?_, f4.trans e3⟩
  · rw [Mp.look e4 s z hok]
    have : nAt (setL L (s, z) ((asc L (s, z)).getD 0)) (s, z) = nAt L (s, z) := by
      unfold nAt
      rw [asc_setL, if_pos rfl]
      rfl
    rw [this]
  · have g1 : W.grownBy W.drew (some b) := ⟨rfl, rfl, rfl, Nat.le_refl _, fun _ _ _ => rfl⟩
    exact g_trans g1 (g_trans e2 f3)
def incl (L : List CT) (t : List CT) : List CT := t.foldl (fun L c => putN L c.1 c.2) L
theorem incl_snoc (L t : List CT) (c : CT) : incl L (t ++ [c]) = putN (incl L t) c.1 c.2 := by simp [incl]
theorem incl_bd {L t : List CT} {B : Int} (hL : ∀ i, 0 ≤ nAt L i ∧ nAt L i ≤ B) (ht : ∀ c ∈ t, 0 ≤ c.2 ∧ c.2 ≤ 1073741824) : ∀ i, 0 ≤ nAt (incl L t) i ∧ nAt (incl L t) i ≤ B + 1073741824 * t.length := by
  induction t generalizing L B with
  | nil => intro i; simpa [incl] using hL i
  | cons c t ih =>
    intro i
    have h1 := ht c (by simp)
    have := ih (L := putN L c.1 c.2) (B := B + 1073741824) (fun j => by
      rw [nAt_putN]
      have h2 := hL j
      have h3 := hL c.1
      split <;> omega) (fun d hd => ht d (by simp [hd])) i
    rw [List.length_cons]
    push_cast
    show 0 ≤ nAt (incl (putN L c.1 c.2) t) i ∧ nAt (incl (putN L c.1 c.2) t) i ≤ _
    omega
def errM : List Man → Int
  | [] => 0
  | m :: ms => if manE m = 0 then errM ms else manE m
/-- The counts with one reference more for each of the IDs. -/
def addIDs (L : List CT) (l : List ID) : List CT := l.foldl (fun L i => putN L i 1) L
def refsFrom (L : List CT) (ms : List Man) : List CT := ms.foldl (fun L m => addIDs L m.ids) L
def refs (ms : List Man) : List CT := refsFrom [] ms
theorem addIDs_snoc (L : List CT) (l : List ID) (i : ID) : addIDs L (l ++ [i]) = putN (addIDs L l) i 1 := by simp [addIDs]
theorem refs_snoc (ms : List Man) (m : Man) : refs (ms ++ [m]) = addIDs (refs ms) m.ids := by simp [refs, refsFrom]
theorem errM_snoc (ms : List Man) (m : Man) (h : errM ms = 0) : errM (ms ++ [m]) = manE m := by
  induction ms with
  | nil => simp only [List.nil_append, errM]; split <;> simp_all
  | cons a ms ih =>
    simp only [List.cons_append, errM] at h ⊢
    split at h
    · rename_i e; rw [if_pos e]; exact ih h
    · rename_i e; exact absurd h e
theorem errM_more (ms l : List Man) (h : errM ms ≠ 0) : errM (ms ++ l) = errM ms := by
  induction ms with
  | nil => exact absurd rfl h
  | cons a ms ih =>
    simp only [List.cons_append, errM] at h ⊢
    split
    · rename_i e; rw [if_pos e] at h; exact ih h
    · rfl
theorem errM_at {ms : List Man} {k : Nat} (h : errM (ms.take k) = 0) (hk : k < ms.length) (he : manE (ms.getD k man0) ≠ 0) : errM ms = manE (ms.getD k man0) := by
  have h1 := errM_snoc (ms.take k) (ms.getD k man0) h
  rw [← take_snoc _ _ _ hk] at h1
  have h2 := errM_more (ms.take (k + 1)) (ms.drop (k + 1)) (by rw [h1]; exact he)
  rw [List.take_append_drop, h1] at h2
  exact h2
theorem addIDs_bd {L : List CT} {B : Int} (hL : ∀ i, 0 ≤ nAt L i ∧ nAt L i ≤ B) (l : List ID) : ∀ i, 0 ≤ nAt (addIDs L l) i ∧ nAt (addIDs L l) i ≤ B + l.length := by
  induction l generalizing L B with
  | nil => intro i; simpa [addIDs] using hL i
  | cons c t ih =>
    intro i
    have := ih (L := putN L c 1) (B := B + 1) (fun j => by
      rw [nAt_putN]
      have h2 := hL j
      have h3 := hL c
      split <;> omega) i
    rw [List.length_cons]
    push_cast
    show 0 ≤ nAt (addIDs (putN L c 1) t) i ∧ nAt (addIDs (putN L c 1) t) i ≤ _
    omega
theorem manE_len {m : Man} (h : manE m = 0) : m.ids.length ≤ 1024 := by
  unfold manE at h
  split at h
  · cases h
  · omega
theorem manE_all {m : Man} (h : manE m = 0) : m.ids.all chunkB = true := by
  unfold manE at h
  split at h
  · cases h
  · split at h
    · cases h
    · rename_i h2
      simpa using h2
theorem refs_bd {ms : List Man} (h : errM ms = 0) : ∀ i, 0 ≤ nAt (refs ms) i ∧ nAt (refs ms) i ≤ 1024 * ms.length := by
  have key : ∀ (ms : List Man) (L : List CT) (B : Int), errM ms = 0 → (∀ i, 0 ≤ nAt L i ∧ nAt L i ≤ B) → ∀ i, 0 ≤ nAt (refsFrom L ms) i ∧ nAt (refsFrom L ms) i ≤ B + 1024 * ms.length := by
    intro ms
    induction ms with
    | nil => intro L B _ hL i; simpa [refsFrom] using hL i
    | cons m ms ih =>
      intro L B h hL i
      simp only [errM] at h
      split at h
      · rename_i e
        have hl := manE_len e
        have := ih (addIDs L m.ids) (B + 1024) h (fun j => by have := addIDs_bd hL m.ids j; omega) i
        rw [List.length_cons]
        push_cast
        show 0 ≤ nAt (refsFrom (addIDs L m.ids) ms) i ∧ nAt (refsFrom (addIDs L m.ids) ms) i ≤ _
        omega
      · rename_i e; exact absurd h e
  intro i
  have := key ms [] 0 h (fun j => by simp [nAt, asc]) i
  simpa [refs] using this
def RefsPost (ms : List Man) (w : World) (e : Ending) (w' : World) : Prop :=
  Below w.heap.size w w' ∧ ((errM ms = 0 ∧ ∃ b, w.heap.size ≤ b ∧ e = .returned (.tuple #[.map (some b), .int .i64 0]) ∧ Mp w' b (refs ms)) ∨ (errM ms ≠ 0 ∧ e = .returned (.tuple #[.map none, .int .i64 (errM ms)])))
theorem below_own {w wr w' : World} {b : Nat} (h : Below w.heap.size w wr) (hg : wr.grownBy w' (some b)) (hb : w.heap.size ≤ b) : Below w.heap.size w w' :=
  h.grown hg h.size (fun k hk => by injection hk with hk; omega)
set_option maxHeartbeats 4000000 in
theorem references_any (x : Nat) (ms : List Man) (A : Option Addr) (c : Nat) (w : World) (hr : RdM w x A ms) (hn : ms.length ≤ 1000000) (hi : ∀ m ∈ ms, m.ids.length ≤ 9223372036854775807) (hok : ∀ m ∈ ms, ∀ i ∈ m.ids, okID i) :
    Calls Tryz.prog 57 #[.slice A ms.length c] w (RefsPost ms w) := by
  have Hr := Lib.hid hr
  have Hi := Lib.hid hi
  have Hok := Lib.hid hok
  clear hr hi hok
  have hmm := @run_makeMap Tryz.prog
  go_enter Tryz.func57, Tryz.ntmps57
  go_wp2_with fail
  go_loopw [13] (fun v wr => ∃ k : Nat, k ≤ ms.length ∧ v = .int .i64 k ∧ Mp wr w.heap.size (refs (ms.take k)) ∧ errM (ms.take k) = 0 ∧ Below w.heap.size w wr) (fun v _ => ms.length - (intOf v).toNat)
  case atStart => exact ⟨0, Nat.zero_le _, rfl, MapIs.made w, rfl, bel1 _ _⟩
  case round =>
    obtain ⟨k, hk, rfl, hm, he, hb⟩ := hrel
    have hsz := hb.size
    by_cases hlt : k < ms.length
    · obtain ⟨rs, h1, h2, h3⟩ := Hr.out
      obtain ⟨b, o, rfl, hbB, _, hc⟩ := h1 (by omega)
      obtain ⟨l1, l2, l3, l4⟩ := h3 k hlt
      have hmem := getD_mem ms man0 k hlt
      obtain ⟨m, HI⟩ : ∃ m, Hid (ms.getD k man0 = m) := ⟨_, rfl⟩
      obtain ⟨⟨rz, rA, rl, rc⟩, HR⟩ : ∃ r, Hid (rs.getD k mr0 = r) := ⟨_, rfl⟩
      rw [HI.out] at l1 l2 l4 hmem
      rw [HR.out] at l1 l2 l3 l4
      simp only at l1 l2 l3 l4
      subst l1 l2
      have hil := Hi.out m hmem
      have hoks := Hok.out m hmem
      have hc0 : wr.cell? ⟨b, o + k * 2, none⟩ = some (.int .i64 m.size) := by rw [hb.cell (p := ⟨b, o + k * 2, none⟩) hbB]; exact hc k (by omega) 0 _ (by rw [HR.out]; rfl)
      have hc1 : wr.cell? ⟨b, o + k * 2 + 1, none⟩ = some (.slice rA m.ids.length rc) := by rw [hb.cell (p := ⟨b, o + k * 2 + 1, none⟩) hbB]; exact hc k (by omega) 1 _ (by rw [HR.out]; rfl)
      have L4 := Lib.hid l4
      have Hm := Lib.hid hm
      have He := Lib.hid he
      have Hb := Lib.hid hb
      have Hoks := Lib.hid hoks
      have HE : Hid (manE m ≠ 0 → errM ms = manE m) := fun h => by have := errM_at He.out hlt (by rw [HI.out]; exact h); rwa [HI.out] at this
      have HS : Hid (refs (ms.take (k + 1)) = addIDs (refs (ms.take k)) m.ids) := by rw [Hid, take_snoc _ man0 _ hlt, refs_snoc, HI.out]
      have HZ : Hid (manE m = 0 → errM (ms.take (k + 1)) = 0) := fun h => by rw [take_snoc _ man0 _ hlt, errM_snoc _ _ He.out, HI.out]; exact h
      have hbd := refs_bd He.out
      have hlen : (ms.take k).length ≤ 1000000 := by rw [List.length_take]; omega
      have Hbd := Lib.hid hbd
      clear h1 h2 h3 hc l4 hm he hb hmem hoks hbd
      go_wp2_with fail
      refine (manCheck_any x m rA rc _ ((L4.out.on Hb.out).alloc _) hil).mono ?_
      rintro e w1 ⟨rfl, hb1⟩
      have hn0 : w1.cell? ⟨wr.heap.size, 0, none⟩ = some (.int .i64 m.size) := by rw [hb1.cell (p := ⟨wr.heap.size, 0, none⟩) (by simp)]; exact new_cell _ _ _ _ rfl 0
      have hn1 : w1.cell? ⟨wr.heap.size, 1, none⟩ = some (.slice rA m.ids.length rc) := by rw [hb1.cell (p := ⟨wr.heap.size, 1, none⟩) (by simp)]; exact new_cell _ _ _ _ rfl 1
      have Hbw : Hid (Below w.heap.size w w1) := (Hb.out.alloc Hb.out.size _).trans (hb1.mono (by simp; omega))
      have Hm1 : Hid (Mp w1 w.heap.size (refs (ms.take k))) := (Hm.out.alloc _).on hb1
      clear hb1
      by_cases hE : manE m = 0
      · have hle := manE_len hE
        have HE0 := HZ.out hE
        have Hz := Lib.hid HE0
        rw [hE]
        clear HE0 hE
        go_wp2_with fail
        go_loopw [25] (fun v wr => ∃ j : Nat, j ≤ m.ids.length ∧ v = .int .i64 j ∧ Mp wr w.heap.size (addIDs (refs (ms.take k)) (m.ids.take j)) ∧ Below w.heap.size w wr) (fun v _ => m.ids.length - (intOf v).toNat)
        case atStart => exact ⟨0, Nat.zero_le _, rfl, Hm1.out, Hbw.out⟩
        case round =>
          obtain ⟨j, hj, rfl, hm, hb⟩ := hrel
          have hsz := hb.size
          by_cases hjl : j < m.ids.length
          · obtain ⟨b2, o2, rfl, hb2B, _, hc⟩ := L4.out (by omega)
            obtain ⟨s, z, HJ⟩ : ∃ s z, Hid (m.ids.getD j (0, 0) = (s, z)) := ⟨_, _, rfl⟩
            have hc0 : wr.cell? ⟨b2, o2 + j * 2, none⟩ = some (.int .u64 s) := by rw [hb.cell (p := ⟨b2, o2 + j * 2, none⟩) hb2B]; exact hc j hjl 0 _ (by rw [HJ.out]; rfl)
            have hc1 : wr.cell? ⟨b2, o2 + j * 2 + 1, none⟩ = some (.int .i64 z) := by rw [hb.cell (p := ⟨b2, o2 + j * 2 + 1, none⟩) hb2B]; exact hc j hjl 1 _ (by rw [HJ.out]; rfl)
            have hok := Hoks.out _ (getD_mem m.ids (0, 0) j hjl)
            rw [HJ.out] at hok
            have hbd2 := addIDs_bd Hbd.out (m.ids.take j) (s, z)
            have hlj : (m.ids.take j).length ≤ 1024 := by rw [List.length_take]; omega
            have Hm := Lib.hid hm
            have Hb := Lib.hid hb
            have Hok := Lib.hid hok
            clear hc hm hb hok
            go_wp2_with fail
            have hd0 : (wr.alloc (.cells #[.int .u64 s, .int .i64 z] 36)).cell? ⟨wr.heap.size, 0, none⟩ = some (.int .u64 s) := new_cell _ _ _ _ rfl 0
            have hd1 : (wr.alloc (.cells #[.int .u64 s, .int .i64 z] 36)).cell? ⟨wr.heap.size, 1, none⟩ = some (.int .i64 z) := new_cell _ _ _ _ rfl 1
            obtain ⟨v0, st, w2, w3, e1, e2, e3, e4, e5, e6, e7⟩ := Mp.step (Hm.out.alloc (.cells #[.int .u64 s, .int .i64 z] 36)) s z 1 Hok.out
            have He5 := Lib.hid e5
            have He6 : Hid (Below w.heap.size w w3) := below_own (Hb.out.alloc Hb.out.size _) e6 (Nat.le_refl _)
            clear e5 e6
            generalize nAt (addIDs (refs (ms.take k)) (m.ids.take j)) (s, z) = v at e1 e3 e4 hbd2
            have hsum : IntKind.i64.wrap (v + 1) = v + 1 := IntWalk.i64_in _ (by omega)
            generalize wr.alloc (.cells #[.int .u64 s, .int .i64 z] 36) = W at *
            clear hc0 hc1
            go_region
            all_goals (
              go_wp2_with fail
              go_roundw
              case rel => exact ⟨j + 1, by omega, by go_num, by rw [take_snoc _ (0, 0) _ hjl, addIDs_snoc, HJ.out]; exact He5.out, He6.out⟩
              case measure => simp [intOf]; omega)
          · obtain rfl : j = m.ids.length := by omega
            rw [List.take_length] at hm
            go_wp2_with fail
            go_roundw
            case rel => exact ⟨k + 1, by omega, by go_num, by rw [HS.out]; exact hm, Hz.out, hb⟩
            case measure => simp [intOf]; omega
      · have HE1 := Lib.hid (HE.out hE)
        have hbe : (manE m != 0) = true := by rw [bne_iff_ne]; exact hE
        have HN : Hid (errM ms ≠ 0) := by rw [Hid, HE1.out]; exact hE
        have Heq : Hid (∀ W, Below w.heap.size w W → RefsPost ms w (.returned (.tuple #[.map none, .int .i64 (manE m)])) W) := fun W hW => ⟨hW, .inr ⟨HN.out, by rw [HE1.out]⟩⟩
        clear hE
        go_wp2_with fail
        go_ret2
        exact Heq.out _ Hbw.out
    · obtain rfl : k = ms.length := by omega
      rw [List.take_length] at hm he
      have Hm := Lib.hid hm
      have He := Lib.hid he
      clear hm he
      go_wp2_with fail
      go_ret2
      exact ⟨hb, .inl ⟨He.out, _, Nat.le_refl _, rfl, Hm.out⟩⟩
end Go.Proofs.YtmiknfneeipkeaaGreat
namespace Go.Proofs.YtmiknfneeipkeaaGreat
open Go.RowKit Go.MapKept Go.ChangeMaps Go.Shelf Go.Sort
attribute [local go_sem] wext_cell
/-- The ID of a content: its chunks joined. -/
def wholeP (l : List ID) : ID := l.foldl joinP (0, 0)
theorem wholeP_snoc (l : List ID) (i : ID) : wholeP (l ++ [i]) = joinP (wholeP l) i := by simp [wholeP]
theorem chunkB_valid {i : ID} (h : chunkB i = true) : validB i = true := by
  simp only [chunkB, Bool.and_eq_true] at h
  exact h.1.1
theorem wholeP_ok : ∀ (k : Nat) (l : List ID), l.length = k → l.all chunkB = true → sumZ l ≤ 1048576 → validB (wholeP l) = true ∧ (wholeP l).2 = sumZ l ∧ 0 ≤ (wholeP l).1
  | 0, l, hk, _, _ => by
    obtain rfl := List.eq_nil_of_length_eq_zero hk
    exact ⟨by decide, rfl, by decide⟩
  | k + 1, l, hk, ha, hs => by
    rcases List.eq_nil_or_concat l with rfl | ⟨l, i, rfl⟩
    · simp at hk
    · rw [List.concat_eq_append] at *
      rw [List.all_append, Bool.and_eq_true] at ha
      have hi : chunkB i = true := by simpa using ha.2
      have hib := chunkB_sound hi
      rw [sumZ_snoc] at hs ⊢
      have hp := sum_take_bd (l := l) (k := l.length) (by rw [List.take_length]; exact ha.1)
      rw [List.take_length] at hp
      obtain ⟨h1, h2, h3⟩ := wholeP_ok k l (by simpa using hk) ha.1 (by omega)
      rw [wholeP_snoc]
      refine ⟨?_, ?_, ?_⟩
      · have e : joinP (wholeP l) i = ((((( (wholeP l).1.toNat * powP i.2.toNat + i.1.toNat) % pP : Nat)) : Int), (wholeP l).2 + i.2) := rfl
        have hm : ((wholeP l).1.toNat * powP i.2.toNat + i.1.toNat) % pP < pP := Nat.mod_lt _ pP_pos
        rw [e]
        unfold pP at hm ⊢
        simp only [validB, Bool.and_eq_true, Bool.or_eq_true, decide_eq_true_eq, beq_iff_eq]
        omega
      · show (wholeP l).2 + i.2 = _
        rw [h2]
      · show (0 : Int) ≤ (((_ : Nat)) : Int)
        omega
theorem manE_zero {m : Man} (h : manE m = 0) : m.ids.all chunkB = true ∧ m.size = sumZ m.ids ∧ m.size ≤ 1048576 := by
  have h1 := manE_all h
  have h2 := manE_end (manE_len h) h1
  rw [h] at h2
  by_cases hc : m.size = sumZ m.ids ∧ m.size ≤ 1048576
  · exact ⟨h1, hc⟩
  · rw [if_neg hc] at h2
    omega
/-- The first k chunks. -/
theorem whole_take {m : Man} (h : manE m = 0) {k : Nat} (hk : k < m.ids.length) : validB (wholeP (m.ids.take k)) = true ∧ (wholeP (m.ids.take k)).2 + (m.ids.getD k (0, 0)).2 ≤ 1048576 ∧ 0 ≤ (wholeP (m.ids.take k)).1 ∧ validB (m.ids.getD k (0, 0)) = true := by
  obtain ⟨h1, h2, h3⟩ := manE_zero h
  have e : m.ids = m.ids.take (k + 1) ++ m.ids.drop (k + 1) := (List.take_append_drop _ _).symm
  have hs : sumZ m.ids = sumZ (m.ids.take (k + 1)) + sumZ (m.ids.drop (k + 1)) := by
    conv => lhs; rw [e]
    show ((m.ids.take (k + 1) ++ m.ids.drop (k + 1)).map _).sum = _
    rw [List.map_append, List.sum_append]
    rfl
  have ha : (m.ids.take (k + 1)).all chunkB = true ∧ (m.ids.drop (k + 1)).all chunkB = true := by
    rw [e, List.all_append, Bool.and_eq_true] at h1
    exact h1
  have hd := sum_take_bd (l := m.ids.drop (k + 1)) (k := (m.ids.drop (k + 1)).length) (by rw [List.take_length]; exact ha.2)
  rw [List.take_length] at hd
  have ht := take_snoc m.ids (0, 0) k hk
  rw [ht] at hs ha
  rw [sumZ_snoc] at hs
  rw [List.all_append, Bool.and_eq_true] at ha
  have hi : chunkB (m.ids.getD k (0, 0)) = true := by simpa using ha.1.2
  have hib := chunkB_sound hi
  obtain ⟨w1, w2, w3⟩ := wholeP_ok _ (m.ids.take k) rfl ha.1.1 (by omega)
  exact ⟨w1, by rw [w2]; omega, w3, chunkB_valid hi⟩
theorem okID_pos {i1 i2 : Int} (h : okID (i1, i2)) : 0 ≤ i1 := by
  have := h.1
  rw [Lit.wf, Bool.and_eq_true, decide_eq_true_eq] at this
  exact this.1
/-- What Whole returns. -/
abbrev WholeE (m : Man) (w : World) (e : Ending) (w' : World) : Prop :=
  e = .returned (.tuple #[.agg #[.int .u64 (if manE m = 0 then wholeP m.ids else (0, 0)).1, .int .i64 (if manE m = 0 then wholeP m.ids else (0, 0)).2], .int .i64 (manE m)]) ∧ Below w.heap.size w w'

set_option maxHeartbeats 4000000 in
theorem Whole_any (x : Nat) (m : Man) (A : Option Addr) (c : Nat) (w : World) (hr : RdID w x A m.ids) (hn : m.ids.length ≤ 9223372036854775807) (hok : ∀ i ∈ m.ids, okID i) :
    Calls Tryz.prog 31 #[.agg #[.int .i64 m.size, .slice A m.ids.length c]] w (WholeE m w) := by
  have Hr := Lib.hid hr
  have Hok := Lib.hid hok
  clear hr hok
  have S0 := Lib.hid (((SW.refl (Sep.nil w (Nat.le_refl _))).newCell 33 #[.int .i64 m.size, .slice A m.ids.length c]).newCellAt 36 #[.int .u64 0, .int .i64 0] (H := w.heap.size + 1) (by simp))
  have HC := Lib.hid (manCheck_any x m A c _ (Hr.out.on S0.out.2) hn)
  go_enter Tryz.func31, Tryz.ntmps31
  go_wp2_with (go_at_call 74; (with_reducible refine HC.out.mono ?_); refine halt_ ?_)
  rintro e w1 ⟨rfl, hb1⟩
  have S1 := Lib.hid (S0.out.on hb1)
  clear hb1 S0 HC
  have f0 := fun o => (S1.out.cell 0 rfl).frozen o
  have e0 := (S1.out.cell 0 rfl).cell 0
  have e1 := (S1.out.cell 0 rfl).cell 1
  by_cases hE : manE m = 0
  · have HE := Lib.hid hE
    have HW : Hid ((if manE m = 0 then wholeP m.ids else (0, 0)) = wholeP m.ids) := if_pos hE
    rw [hE]
    clear hE
    have c1 := (S1.out.cell 1 rfl).cell 1
    go_upto_region 5 with fail
    obtain ⟨g5, HG⟩ : ∃ x, Hid (w1.heap.size = x) := ⟨_, rfl⟩
    have S2 := Lib.hid (S1.out.newCell 36 #[.int .u64 0, .int .i64 0])
    rw [HG.out] at S2 ⊢
    clear HG S1 f0 e0 e1 c1
    have c1 := (S2.out.cell 2 rfl).cell 1
    obtain ⟨w2, HW2⟩ : ∃ W, Hid (w1.alloc (.cells #[.int .u64 0, .int .i64 0] 36) = W) := ⟨_, rfl⟩
    rw [HW2.out] at S2 c1 ⊢
    clear HW2
    go_wp2_with fail
    go_loopw [19] (fun v19 wr => ∃ k : Nat, k ≤ m.ids.length ∧ v19 = .int .i64 (k : Int) ∧ SW w.heap.size w [cellOb g5 36 #[.int .u64 (wholeP (m.ids.take k)).1, .int .i64 (wholeP (m.ids.take k)).2], cellOb (w.heap.size + 1) 36 #[.int .u64 0, .int .i64 0], cellOb w.heap.size 33 #[.int .i64 m.size, .slice A m.ids.length c]] wr) (fun v19 _ => m.ids.length - (intOf v19).toNat)
    case atStart => exact ⟨0, Nat.zero_le _, rfl, S2.out⟩
    case round =>
      obtain ⟨k, hk, rfl, hs⟩ := hrel
      have S3 := Lib.hid hs
      clear hs S2
      by_cases hlt : k < m.ids.length
      · obtain ⟨q1, q2, HQ⟩ : ∃ q1 q2, Hid (wholeP (m.ids.take k) = (q1, q2)) := ⟨_, _, rfl⟩
        obtain ⟨i1, i2, HI⟩ : ∃ i1 i2, Hid (m.ids.getD k (0, 0) = (i1, i2)) := ⟨_, _, rfl⟩
        have hwt := whole_take HE.out hlt
        have hmem := getD_mem m.ids (0, 0) k hlt
        have HN : Hid (wholeP (m.ids.take (k + 1)) = joinP (q1, q2) (i1, i2)) := by rw [Hid, take_snoc _ (0, 0) _ hlt, wholeP_snoc, HQ.out, HI.out]
        rw [HQ.out, HI.out] at hwt
        rw [HI.out] at hmem
        rw [HQ.out] at S3
        have HJ := Lib.hid (fun W => Join_any q1 q2 i1 i2 hwt.1 hwt.2.2.2 hwt.2.2.1 (okID_pos (Hok.out _ hmem)) hwt.2.1 W)
        obtain ⟨j1, j2, HJE⟩ : ∃ j1 j2, Hid (joinP (q1, q2) (i1, i2) = (j1, j2)) := ⟨_, _, rfl⟩
        rw [HJE.out] at HJ HN
        clear hwt hmem
        obtain ⟨gb, o, rfl, hB, hne, hc⟩ := Hr.out (by omega)
        have d0 : wr.cell? ⟨gb, o + k * 2, none⟩ = some (.int .u64 i1) := by rw [S3.out.2.cell (p := ⟨gb, o + k * 2, none⟩) hB]; exact hc k hlt 0 _ (by rw [HI.out]; rfl)
        have d1 : wr.cell? ⟨gb, o + k * 2 + 1, none⟩ = some (.int .i64 i2) := by rw [S3.out.2.cell (p := ⟨gb, o + k * 2 + 1, none⟩) hB]; exact hc k hlt 1 _ (by rw [HI.out]; rfl)
        have a0 := (S3.out.cell 0 rfl).cell 0
        have a1 := (S3.out.cell 0 rfl).cell 1
        have hl5 := (S3.out.cell 0 rfl).lt
        clear hc
        have S4 := Lib.hid (S3.out.newCell 36 #[.int .u64 i1, .int .i64 i2])
        go_wp2_with (go_at_call 75; (with_reducible refine (HJ.out _).mono ?_); refine halt_ ?_)
        rintro e w3 rfl hb3
        rw [← World.size_alloc wr (.cells #[.int .u64 i1, .int .i64 i2] 36)] at hb3
        have hl3 : g5 < w3.heap.size := Nat.lt_of_lt_of_le hl5 (Nat.le_trans (by rw [World.size_alloc]; exact Nat.le_succ _) hb3.size)
        have S5 := Lib.hid (S4.out.on hb3)
        clear hb3 S4 S3 d0 d1 a0 a1
        have a0 := ((S5.out.cell 1 rfl).cell 0)
        have a1 := ((S5.out.cell 1 rfl).cell 1)
        have f0 := fun o => (S5.out.cell 1 rfl).frozen o
        have S6 : Hid (SW w.heap.size w [cellOb g5 36 #[.int .u64 j1, .int .i64 j2], cellOb (w.heap.size + 1) 36 #[.int .u64 0, .int .i64 0], cellOb w.heap.size 33 #[.int .i64 m.size, .slice (some ⟨gb, o, none⟩) m.ids.length c]] (((w3.setCell ⟨g5, 0, none⟩ (.int .u64 j1)).setCell ⟨g5, 1, none⟩ (.int .i64 j2)).alloc (.cells #[.int .u64 j1, .int .i64 j2] 36))) := (((S5.out.setAt 1 rfl 0 (.int .u64 j1)).setAt 1 rfl 1 (.int .i64 j2)).newCell 36 #[.int .u64 j1, .int .i64 j2]).tail.tail
        go_wp2_with fail
        go_roundw
        case rel => exact ⟨k + 1, by omega, by go_num, by rw [HN.out]; exact S6.out⟩
        case measure => simp [intOf]; omega
      · obtain rfl : k = m.ids.length := by omega
        rw [List.take_length] at S3
        obtain ⟨q1, q2, HQ⟩ : ∃ q1 q2, Hid (wholeP m.ids = (q1, q2)) := ⟨_, _, rfl⟩
        rw [HQ.out] at S3
        have a0 := (S3.out.cell 0 rfl).cell 0
        have a1 := (S3.out.cell 0 rfl).cell 1
        have e0 := (S3.out.cell 1 rfl).cell 0
        have e1 := (S3.out.cell 1 rfl).cell 1
        have f0 := fun o => (S3.out.cell 1 rfl).frozen o
        go_wp2_with fail
        clear a0 a1 e0 e1 f0
        have S4 : Hid (SW w.heap.size w [cellOb g5 36 #[.int .u64 q1, .int .i64 q2], cellOb (w.heap.size + 1) 36 #[.int .u64 q1, .int .i64 q2], cellOb w.heap.size 33 #[.int .i64 m.size, .slice A m.ids.length c]] ((wr.setCell ⟨w.heap.size + 1, 0, none⟩ (.int .u64 q1)).setCell ⟨w.heap.size + 1, 1, none⟩ (.int .i64 q2))) := (S3.out.setAt 1 rfl 0 (.int .u64 q1)).setAt 1 rfl 1 (.int .i64 q2)
        obtain ⟨w4, HW4⟩ : ∃ W, Hid ((wr.setCell ⟨w.heap.size + 1, 0, none⟩ (.int .u64 q1)).setCell ⟨w.heap.size + 1, 1, none⟩ (.int .i64 q2) = W) := ⟨_, rfl⟩
        rw [HW4.out] at S4 ⊢
        have e0 : w4.cell? ⟨w.heap.size + 1, 0, none⟩ = some (.int .u64 q1) := (S4.out.cell 1 rfl).cell 0
        have e1 : w4.cell? ⟨w.heap.size + 1, 1, none⟩ = some (.int .i64 q2) := (S4.out.cell 1 rfl).cell 1
        (try simp only [Exit.inBlock, Exit.then])
        refine bodyPost_ret (v := .tuple #[.agg #[.int .u64 q1, .int .i64 q2], .int .i64 0]) (by simp [results, Tryz.results31, go_sem, e0, e1, Result.andThen]) rfl ?_
        exact ⟨by rw [HW.out, HE.out, HQ.out], S4.out.2⟩
  · have HW : Hid ((if manE m = 0 then wholeP m.ids else (0, 0)) = (0, 0)) := if_neg hE
    obtain ⟨E, HE⟩ : ∃ x, Hid (manE m = x) := ⟨_, rfl⟩
    rw [HE.out] at hE ⊢
    have hbe : (E != 0) = true := by rw [bne_iff_ne]; exact hE
    clear hE
    have S2 : Hid (SW w.heap.size w [cellOb (w.heap.size + 1) 36 #[.int .u64 0, .int .i64 0], cellOb w.heap.size 33 #[.int .i64 m.size, .slice A m.ids.length c]] ((w1.setCell ⟨w.heap.size + 1, 0, none⟩ (.int .u64 0)).setCell ⟨w.heap.size + 1, 1, none⟩ (.int .i64 0))) := (S1.out.setAt 0 rfl 0 (.int .u64 0)).setAt 0 rfl 1 (.int .i64 0)
    go_wp2_with fail
    clear S1 e0 e1 f0
    obtain ⟨w4, HW4⟩ : ∃ W, Hid ((w1.setCell ⟨w.heap.size + 1, 0, none⟩ (.int .u64 0)).setCell ⟨w.heap.size + 1, 1, none⟩ (.int .i64 0) = W) := ⟨_, rfl⟩
    rw [HW4.out] at S2 ⊢
    have e0 : w4.cell? ⟨w.heap.size + 1, 0, none⟩ = some (.int .u64 0) := (S2.out.cell 0 rfl).cell 0
    have e1 : w4.cell? ⟨w.heap.size + 1, 1, none⟩ = some (.int .i64 0) := (S2.out.cell 0 rfl).cell 1
    (try simp only [Exit.inBlock, Exit.then])
    refine bodyPost_ret (v := .tuple #[.agg #[.int .u64 0, .int .i64 0], .int .i64 E]) (by simp [results, Tryz.results31, go_sem, e0, e1, Result.andThen]) rfl ?_
    exact ⟨by rw [HW.out, HE.out], S2.out.2⟩
end Go.Proofs.YtmiknfneeipkeaaGreat
namespace Go.Proofs.YtmiknfneeipkeaaGreat
open Go.RowKit Go.MapKept Go.ChangeMaps Go.Shelf Go.Sort
attribute [local go_sem] wext_cell
set_option maxHeartbeats 4000000 in
theorem rWhole_any (x : Nat) (m : Man) (A : Option Addr) (c : Nat) (w : World) (hr : RdID w x A m.ids) (hn : m.ids.length ≤ 9223372036854775807) (hok : ∀ i ∈ m.ids, okID i) :
    Calls Tryz.prog 10 #[.agg #[.int .i64 m.size, .slice A m.ids.length c]] w (WholeE m w) := by
  have Hr := Lib.hid hr
  have Hok := Lib.hid hok
  clear hr hok
  have S0 := Lib.hid (((SW.refl (Sep.nil w (Nat.le_refl _))).newCell 33 #[.int .i64 m.size, .slice A m.ids.length c]).newCellAt 36 #[.int .u64 0, .int .i64 0] (H := w.heap.size + 1) (by simp))
  have HC := Lib.hid (rmanCheck_any x m A c _ (Hr.out.on S0.out.2) hn)
  go_enter Tryz.func10, Tryz.ntmps10
  go_wp2_with (go_at_call 37; (with_reducible refine HC.out.mono ?_); refine halt_ ?_)
  rintro e w1 ⟨rfl, hb1⟩
  have S1 := Lib.hid (S0.out.on hb1)
  clear hb1 S0 HC
  have f0 := fun o => (S1.out.cell 0 rfl).frozen o
  have e0 := (S1.out.cell 0 rfl).cell 0
  have e1 := (S1.out.cell 0 rfl).cell 1
  by_cases hE : manE m = 0
  · have HE := Lib.hid hE
    have HW : Hid ((if manE m = 0 then wholeP m.ids else (0, 0)) = wholeP m.ids) := if_pos hE
    rw [hE]
    clear hE
    have c1 := (S1.out.cell 1 rfl).cell 1
    go_upto_region 5 with fail
    obtain ⟨g5, HG⟩ : ∃ x, Hid (w1.heap.size = x) := ⟨_, rfl⟩
    have S2 := Lib.hid (S1.out.newCell 36 #[.int .u64 0, .int .i64 0])
    rw [HG.out] at S2 ⊢
    clear HG S1 f0 e0 e1 c1
    have c1 := (S2.out.cell 2 rfl).cell 1
    obtain ⟨w2, HW2⟩ : ∃ W, Hid (w1.alloc (.cells #[.int .u64 0, .int .i64 0] 36) = W) := ⟨_, rfl⟩
    rw [HW2.out] at S2 c1 ⊢
    clear HW2
    go_wp2_with fail
    go_loopw [6] (fun v6 wr => ∃ k : Nat, k ≤ m.ids.length ∧ v6 = .int .i64 (k : Int) ∧ SW w.heap.size w [cellOb g5 36 #[.int .u64 (wholeP (m.ids.take k)).1, .int .i64 (wholeP (m.ids.take k)).2], cellOb (w.heap.size + 1) 36 #[.int .u64 0, .int .i64 0], cellOb w.heap.size 33 #[.int .i64 m.size, .slice A m.ids.length c]] wr) (fun v6 _ => m.ids.length - (intOf v6).toNat)
    case atStart => exact ⟨0, Nat.zero_le _, rfl, S2.out⟩
    case round =>
      obtain ⟨k, hk, rfl, hs⟩ := hrel
      have S3 := Lib.hid hs
      clear hs S2
      have b1 := (S3.out.cell 2 rfl).cell 1
      have hl1 := (S3.out.cell 2 rfl).lt
      by_cases hlt : k < m.ids.length
      · obtain ⟨q1, q2, HQ⟩ : ∃ q1 q2, Hid (wholeP (m.ids.take k) = (q1, q2)) := ⟨_, _, rfl⟩
        obtain ⟨i1, i2, HI⟩ : ∃ i1 i2, Hid (m.ids.getD k (0, 0) = (i1, i2)) := ⟨_, _, rfl⟩
        have hwt := whole_take HE.out hlt
        have hmem := getD_mem m.ids (0, 0) k hlt
        have HN : Hid (wholeP (m.ids.take (k + 1)) = joinP (q1, q2) (i1, i2)) := by rw [Hid, take_snoc _ (0, 0) _ hlt, wholeP_snoc, HQ.out, HI.out]
        rw [HQ.out, HI.out] at hwt
        rw [HI.out] at hmem
        rw [HQ.out] at S3
        have HJ := Lib.hid (fun W => rJoin_any q1 q2 i1 i2 hwt.1 hwt.2.2.2 hwt.2.2.1 (okID_pos (Hok.out _ hmem)) hwt.2.1 W)
        obtain ⟨j1, j2, HJE⟩ : ∃ j1 j2, Hid (joinP (q1, q2) (i1, i2) = (j1, j2)) := ⟨_, _, rfl⟩
        rw [HJE.out] at HJ HN
        clear hwt hmem
        obtain ⟨gb, o, rfl, hB, hne, hc⟩ := Hr.out (by omega)
        have d0 : wr.cell? ⟨gb, o + k * 2, none⟩ = some (.int .u64 i1) := by rw [S3.out.2.cell (p := ⟨gb, o + k * 2, none⟩) hB]; exact hc k hlt 0 _ (by rw [HI.out]; rfl)
        have d1 : wr.cell? ⟨gb, o + k * 2 + 1, none⟩ = some (.int .i64 i2) := by rw [S3.out.2.cell (p := ⟨gb, o + k * 2 + 1, none⟩) hB]; exact hc k hlt 1 _ (by rw [HI.out]; rfl)
        have a0 := (S3.out.cell 0 rfl).cell 0
        have a1 := (S3.out.cell 0 rfl).cell 1
        have hl5 := (S3.out.cell 0 rfl).lt
        have hlb : gb < wr.heap.size := Nat.lt_of_lt_of_le hB S3.out.2.size
        clear hc
        go_upto_region 8 with fail
        go_region_with (go_at_call 38; (with_reducible refine (HJ.out _).mono ?_); rintro e w3 ⟨rfl, hb3⟩; have S5 := Lib.hid (S3.out.drew.on hb3); have a0 := ((S5.out.cell 0 rfl).cell 0); have a1 := ((S5.out.cell 0 rfl).cell 1); have f0 := fun o => (S5.out.cell 0 rfl).frozen o)
        all_goals (
          have S6 : Hid (SW w.heap.size w [cellOb g5 36 #[.int .u64 j1, .int .i64 j2], cellOb (w.heap.size + 1) 36 #[.int .u64 0, .int .i64 0], cellOb w.heap.size 33 #[.int .i64 m.size, .slice (some ⟨gb, o, none⟩) m.ids.length c]] ((w3.setCell ⟨g5, 0, none⟩ (.int .u64 j1)).setCell ⟨g5, 1, none⟩ (.int .i64 j2))) := ((S5.out.setAt 0 rfl 0 (.int .u64 j1)).setAt 0 rfl 1 (.int .i64 j2))
          clear S5 hb3 a0 a1 f0 S3 d0 d1 b1 hl1 hl5 hlb
          go_wp2_with fail
          go_roundw
          case rel => exact ⟨k + 1, by omega, by go_num, by rw [HN.out]; exact S6.out⟩
          case measure => simp [intOf]; omega)
      · obtain rfl : k = m.ids.length := by omega
        rw [List.take_length] at S3
        obtain ⟨q1, q2, HQ⟩ : ∃ q1 q2, Hid (wholeP m.ids = (q1, q2)) := ⟨_, _, rfl⟩
        rw [HQ.out] at S3
        have a0 := (S3.out.cell 0 rfl).cell 0
        have a1 := (S3.out.cell 0 rfl).cell 1
        have e0 := (S3.out.cell 1 rfl).cell 0
        have e1 := (S3.out.cell 1 rfl).cell 1
        have f0 := fun o => (S3.out.cell 1 rfl).frozen o
        go_wp2_with fail
        clear a0 a1 e0 e1 f0
        have S4 : Hid (SW w.heap.size w [cellOb g5 36 #[.int .u64 q1, .int .i64 q2], cellOb (w.heap.size + 1) 36 #[.int .u64 q1, .int .i64 q2], cellOb w.heap.size 33 #[.int .i64 m.size, .slice A m.ids.length c]] ((wr.setCell ⟨w.heap.size + 1, 0, none⟩ (.int .u64 q1)).setCell ⟨w.heap.size + 1, 1, none⟩ (.int .i64 q2))) := (S3.out.setAt 1 rfl 0 (.int .u64 q1)).setAt 1 rfl 1 (.int .i64 q2)
        obtain ⟨w4, HW4⟩ : ∃ W, Hid ((wr.setCell ⟨w.heap.size + 1, 0, none⟩ (.int .u64 q1)).setCell ⟨w.heap.size + 1, 1, none⟩ (.int .i64 q2) = W) := ⟨_, rfl⟩
        rw [HW4.out] at S4 ⊢
        have e0 : w4.cell? ⟨w.heap.size + 1, 0, none⟩ = some (.int .u64 q1) := (S4.out.cell 1 rfl).cell 0
        have e1 : w4.cell? ⟨w.heap.size + 1, 1, none⟩ = some (.int .i64 q2) := (S4.out.cell 1 rfl).cell 1
        (try simp only [Exit.inBlock, Exit.then])
        refine bodyPost_ret (v := .tuple #[.agg #[.int .u64 q1, .int .i64 q2], .int .i64 0]) (by simp [results, Tryz.results10, go_sem, e0, e1, Result.andThen]) rfl ?_
        exact ⟨by rw [HW.out, HE.out, HQ.out], S4.out.2⟩
  · have HW : Hid ((if manE m = 0 then wholeP m.ids else (0, 0)) = (0, 0)) := if_neg hE
    obtain ⟨E, HE⟩ : ∃ x, Hid (manE m = x) := ⟨_, rfl⟩
    rw [HE.out] at hE ⊢
    have hbe : (E != 0) = true := by rw [bne_iff_ne]; exact hE
    clear hE
    have S2 : Hid (SW w.heap.size w [cellOb (w.heap.size + 1) 36 #[.int .u64 0, .int .i64 0], cellOb w.heap.size 33 #[.int .i64 m.size, .slice A m.ids.length c]] ((w1.setCell ⟨w.heap.size + 1, 0, none⟩ (.int .u64 0)).setCell ⟨w.heap.size + 1, 1, none⟩ (.int .i64 0))) := (S1.out.setAt 0 rfl 0 (.int .u64 0)).setAt 0 rfl 1 (.int .i64 0)
    go_wp2_with fail
    clear S1 e0 e1 f0
    obtain ⟨w4, HW4⟩ : ∃ W, Hid ((w1.setCell ⟨w.heap.size + 1, 0, none⟩ (.int .u64 0)).setCell ⟨w.heap.size + 1, 1, none⟩ (.int .i64 0) = W) := ⟨_, rfl⟩
    rw [HW4.out] at S2 ⊢
    have e0 : w4.cell? ⟨w.heap.size + 1, 0, none⟩ = some (.int .u64 0) := (S2.out.cell 0 rfl).cell 0
    have e1 : w4.cell? ⟨w.heap.size + 1, 1, none⟩ = some (.int .i64 0) := (S2.out.cell 0 rfl).cell 1
    (try simp only [Exit.inBlock, Exit.then])
    refine bodyPost_ret (v := .tuple #[.agg #[.int .u64 0, .int .i64 0], .int .i64 E]) (by simp [results, Tryz.results10, go_sem, e0, e1, Result.andThen]) rfl ?_
    exact ⟨by rw [HW.out, HE.out], S2.out.2⟩
end Go.Proofs.YtmiknfneeipkeaaGreat
