/- Contracts of the walk, part 6. -/
import Derived.RegionTactic
import Derived.ChangeAlike
import Derived.IntWalk
import Derived.Shelf.SlSortCmp.NoneTotal
import Derived.Shelf.SlicesE.Clone
import Derived.Ground.SlsfProg
import Derived.Ground.SlgnProg
import Derived.Ground.NamesProg
import Derived.Shelf.SlGeneric
import Derived.Test.YtmiknfneeipkeaaGreatProg
import Derived.Test.YtmiknfneeipkeaaGreatQ05
import Derived.Test.YtmiknfneeipkeaaGreatQ04
import Derived.Test.YtmiknfneeipkeaaGreatQ03
namespace Go.Proofs.YtmiknfneeipkeaaGreat
open Go.RowKit Go.MapKept Go.ChangeMaps
attribute [local go_sem] wext_cell
/-- A row of a table: the ID, the number. -/
abbrev CT := ID × Int
def encC (c : CT) : List Value := [.int .u64 c.1.1, .int .i64 c.1.2, .int .i64 c.2]
abbrev ct0 : CT := ((0, 0), 0)
abbrev RdC (w : World) (x : Nat) (A : Option Addr) (t : List CT) : Prop := Rd encC 3 ct0 w x A t
theorem encC_len (c : CT) : (encC c).length = 3 := rfl
theorem encC_one (c : CT) : ∀ u ∈ encC c, u.oneCell' = true := by
  intro u hu
  simp [encC] at hu
  rcases hu with rfl | rfl | rfl <;> rfl
/-- Block b is a map of counts that holds L. -/
abbrev Mp (w : World) (b : Nat) (L : List CT) : Prop := MapIs okID vID vN w b L
theorem zero3 (w : World) : (zeroValue 3).run Tryz.prog w = .ok (.int .i64 0) w := by kernel_rfl
/-- The number at an ID, or 0. -/
def nAt (L : List CT) (i : ID) : Int := (asc L i).getD 0
theorem Mp.look {w : World} {b : Nat} {L : List CT} (h : Mp w b L) (s z : Int) (ha : okID (s, z)) : (Instr.lookup 118 (.map (some b)) (.agg #[.int .u64 s, .int .i64 z]) false).run Tryz.prog w = .ok (.int .i64 (nAt L (s, z))) w := by
  have := MapIs.look mkI Tryz.underlying118 (zero3 w) h ha false
  rw [show (Value.agg #[.int .u64 s, .int .i64 z]) = vID (s, z) from rfl, this]
  unfold nAt
  cases asc L (s, z) <;> simp
/-- 'm[id] += n' on a map of counts. -/
def putN (L : List CT) (i : ID) (n : Int) : List CT := setL L i (nAt L i + n)
theorem nAt_putN (L : List CT) (i j : ID) (n : Int) : nAt (putN L i n) j = if i = j then nAt L i + n else nAt L j := by
  unfold putN
  conv => lhs; unfold nAt
  rw [asc_setL]
  split <;> rfl
/-- What the region of 'm[id] += n' needs. -/
theorem Mp.step {W : World} {b : Nat} {L : List CT} (h : Mp W b L) (s z n : Int) (hok : okID (s, z)) :
    ∃ (v0 : Value) (st : Nat) (w1 w3 : World), (Instr.lookup 118 (.map (some b)) (.agg #[.int .u64 s, .int .i64 z]) false).run Tryz.prog W.drew = .ok (.int .i64 (nAt L (s, z))) W.drew ∧
      (Instr.mapEntry 118 (.map (some b)) (.agg #[.int .u64 s, .int .i64 z])).run Tryz.prog W.drew = .ok (.tuple #[v0, .int .i64 st]) w1 ∧
      (Instr.lookup 118 (.map (some b)) (.agg #[.int .u64 s, .int .i64 z]) false).run Tryz.prog w1 = .ok (.int .i64 (nAt L (s, z))) w1 ∧
      (Instr.entryStore 118 (.map (some b)) (.int .i64 st) (.int .i64 (nAt L (s, z) + n))).run Tryz.prog w1 = .ok () w3 ∧ Mp w3 b (putN L (s, z) n) ∧ W.grownBy w3 (some b) ∧ w3.heap.size = W.heap.size := by
  have hd : Mp W.drew b L := h.same rfl
  obtain ⟨v0, st, w1, e1, e2, e3, e4, e5⟩ := MapIs.entry mkI Tryz.underlying118 (z := 0) zero3 hd hok
  obtain ⟨w3, f1, f2, f3, f4⟩ := e5 w1 (nAt L (s, z) + n) rfl
  refine ⟨v0, st, w1, w3, hd.look s z hok, e1, ?_, f1, f2, ?_, f4.trans e3⟩
  · rw [Mp.look e4 s z hok]
    have : nAt (setL L (s, z) ((asc L (s, z)).getD 0)) (s, z) = nAt L (s, z) := by
      unfold nAt
      rw [asc_setL, if_pos rfl]
      rfl
    rw [this]
  · have g1 : W.grownBy W.drew (some b) := ⟨rfl, rfl, rfl, Nat.le_refl _, fun _ _ _ => rfl⟩
    exact g_trans g1 (g_trans e2 f3)
def incl (L : List CT) (t : List CT) : List CT := t.foldl (fun L c => putN L c.1 c.2) L
theorem incl_snoc (L t : List CT) (c : CT) : incl L (t ++ [c]) = putN (incl L t) c.1 c.2 := by simp [incl]
theorem incl_bd {L t : List CT} {B : Int} (hL : ∀ i, 0 ≤ nAt L i ∧ nAt L i ≤ B) (ht : ∀ c ∈ t, 0 ≤ c.2 ∧ c.2 ≤ 1073741824) : ∀ i, 0 ≤ nAt (incl L t) i ∧ nAt (incl L t) i ≤ B + 1073741824 * t.length := by
  induction t generalizing L B with
  | nil => intro i; simpa [incl] using hL i
  | cons c t ih =>
    intro i
    have h1 := ht c (by simp)
    have := ih (L := putN L c.1 c.2) (B := B + 1073741824) (fun j => by
      rw [nAt_putN]
      have h2 := hL j
      have h3 := hL c.1
      split <;> omega) (fun d hd => ht d (by simp [hd])) i
    rw [List.length_cons]
    push_cast
    show 0 ≤ nAt (incl (putN L c.1 c.2) t) i ∧ nAt (incl (putN L c.1 c.2) t) i ≤ _
    omega
def errM : List Man → Int
  | [] => 0
  | m :: ms => if manE m = 0 then errM ms else manE m
/-- The counts with one reference more for each of the IDs. -/
def addIDs (L : List CT) (l : List ID) : List CT := l.foldl (fun L i => putN L i 1) L
def refsFrom (L : List CT) (ms : List Man) : List CT := ms.foldl (fun L m => addIDs L m.ids) L
def refs (ms : List Man) : List CT := refsFrom [] ms
theorem addIDs_snoc (L : List CT) (l : List ID) (i : ID) : addIDs L (l ++ [i]) = putN (addIDs L l) i 1 := by simp [addIDs]
theorem refs_snoc (ms : List Man) (m : Man) : refs (ms ++ [m]) = addIDs (refs ms) m.ids := by simp [refs, refsFrom]
theorem errM_snoc (ms : List Man) (m : Man) (h : errM ms = 0) : errM (ms ++ [m]) = manE m := by
  induction ms with
  | nil => simp only [List.nil_append, errM]; split <;> simp_all
  | cons a ms ih =>
    simp only [List.cons_append, errM] at h ⊢
    split at h
    · rename_i e; rw [if_pos e]; exact ih h
    · rename_i e; exact absurd h e
theorem errM_more (ms l : List Man) (h : errM ms ≠ 0) : errM (ms ++ l) = errM ms := by
  induction ms with
  | nil => exact absurd rfl h
  | cons a ms ih =>
    simp only [List.cons_append, errM] at h ⊢
    split
    · rename_i e; rw [if_pos e] at h; exact ih h
    · rfl
theorem errM_at {ms : List Man} {k : Nat} (h : errM (ms.take k) = 0) (hk : k < ms.length) (he : manE (ms.getD k man0) ≠ 0) : errM ms = manE (ms.getD k man0) := by
  have h1 := errM_snoc (ms.take k) (ms.getD k man0) h
  rw [← take_snoc _ _ _ hk] at h1
  have h2 := errM_more (ms.take (k + 1)) (ms.drop (k + 1)) (by rw [h1]; exact he)
  rw [List.take_append_drop, h1] at h2
  exact h2
theorem addIDs_bd {L : List CT} {B : Int} (hL : ∀ i, 0 ≤ nAt L i ∧ nAt L i ≤ B) (l : List ID) : ∀ i, 0 ≤ nAt (addIDs L l) i ∧ nAt (addIDs L l) i ≤ B + l.length := by
  induction l generalizing L B with
  | nil => intro i; simpa [addIDs] using hL i
  | cons c t ih =>
    intro i
    have := ih (L := putN L c 1) (B := B + 1) (fun j => by
      rw [nAt_putN]
      have h2 := hL j
      have h3 := hL c
      split <;> omega) i
    rw [List.length_cons]
    push_cast
    show 0 ≤ nAt (addIDs (putN L c 1) t) i ∧ nAt (addIDs (putN L c 1) t) i ≤ _
    omega
theorem manE_len {m : Man} (h : manE m = 0) : m.ids.length ≤ 1024 := by
  unfold manE at h
  split at h
  · cases h
  · omega
theorem manE_all {m : Man} (h : manE m = 0) : m.ids.all chunkB = true := by
  unfold manE at h
  split at h
  · cases h
  · split at h
    · cases h
    · rename_i h2
      simpa using h2
theorem refs_bd {ms : List Man} (h : errM ms = 0) : ∀ i, 0 ≤ nAt (refs ms) i ∧ nAt (refs ms) i ≤ 1024 * ms.length := by
  have key : ∀ (ms : List Man) (L : List CT) (B : Int), errM ms = 0 → (∀ i, 0 ≤ nAt L i ∧ nAt L i ≤ B) → ∀ i, 0 ≤ nAt (refsFrom L ms) i ∧ nAt (refsFrom L ms) i ≤ B + 1024 * ms.length := by
    intro ms
    induction ms with
    | nil => intro L B _ hL i; simpa [refsFrom] using hL i
    | cons m ms ih =>
      intro L B h hL i
      simp only [errM] at h
      split at h
      · rename_i e
        have hl := manE_len e
        have := ih (addIDs L m.ids) (B + 1024) h (fun j => by have := addIDs_bd hL m.ids j; omega) i
        rw [List.length_cons]
        push_cast
        show 0 ≤ nAt (refsFrom (addIDs L m.ids) ms) i ∧ nAt (refsFrom (addIDs L m.ids) ms) i ≤ _
        omega
      · rename_i e; exact absurd h e
  intro i
  have := key ms [] 0 h (fun j => by simp [nAt, asc]) i
  simpa [refs] using this
def RefsPost (ms : List Man) (w : World) (e : Ending) (w' : World) : Prop :=
  Below w.heap.size w w' ∧ ((errM ms = 0 ∧ ∃ b, w.heap.size ≤ b ∧ e = .returned (.tuple #[.map (some b), .int .i64 0]) ∧ Mp w' b (refs ms)) ∨ (errM ms ≠ 0 ∧ e = .returned (.tuple #[.map none, .int .i64 (errM ms)])))
theorem below_own {w wr w' : World} {b : Nat} (h : Below w.heap.size w wr) (hg : wr.grownBy w' (some b)) (hb : w.heap.size ≤ b) : Below w.heap.size w w' :=
  h.grown hg h.size (fun k hk => by injection hk with hk; omega)
set_option maxHeartbeats 4000000 in
theorem references_any (x : Nat) (ms : List Man) (A : Option Addr) (c : Nat) (w : World) (hr : RdM w x A ms) (hn : ms.length ≤ 1000000) (hi : ∀ m ∈ ms, m.ids.length ≤ 9223372036854775807) (hok : ∀ m ∈ ms, ∀ i ∈ m.ids, okID i) :
    Calls Tryz.prog 57 #[.slice A ms.length c] w (RefsPost ms w) := by
  have Hr := Lib.hid hr
  have Hi := Lib.hid hi
  have Hok := Lib.hid hok
  clear hr hi hok
  have hmm := @run_makeMap Tryz.prog
  go_enter Tryz.func57, Tryz.ntmps57
  go_wp2_with fail
  go_loopw [13] (fun v wr => ∃ k : Nat, k ≤ ms.length ∧ v = .int .i64 k ∧ Mp wr w.heap.size (refs (ms.take k)) ∧ errM (ms.take k) = 0 ∧ Below w.heap.size w wr) (fun v _ => ms.length - (intOf v).toNat)
  case atStart => exact ⟨0, Nat.zero_le _, rfl, MapIs.made w, rfl, bel1 _ _⟩
  case round =>
    obtain ⟨k, hk, rfl, hm, he, hb⟩ := hrel
    have hsz := hb.size
    by_cases hlt : k < ms.length
    · obtain ⟨rs, h1, h2, h3⟩ := Hr.out
      obtain ⟨b, o, rfl, hbB, _, hc⟩ := h1 (by omega)
      obtain ⟨l1, l2, l3, l4⟩ := h3 k hlt
      have hmem := getD_mem ms man0 k hlt
      obtain ⟨m, HI⟩ : ∃ m, Hid (ms.getD k man0 = m) := ⟨_, rfl⟩
      obtain ⟨⟨rz, rA, rl, rc⟩, HR⟩ : ∃ r, Hid (rs.getD k mr0 = r) := ⟨_, rfl⟩
      rw [HI.out] at l1 l2 l4 hmem
      rw [HR.out] at l1 l2 l3 l4
      simp only at l1 l2 l3 l4
      subst l1 l2
      have hil := Hi.out m hmem
      have hoks := Hok.out m hmem
      have hc0 : wr.cell? ⟨b, o + k * 2, none⟩ = some (.int .i64 m.size) := by rw [hb.cell (p := ⟨b, o + k * 2, none⟩) hbB]; exact hc k (by omega) 0 _ (by rw [HR.out]; rfl)
      have hc1 : wr.cell? ⟨b, o + k * 2 + 1, none⟩ = some (.slice rA m.ids.length rc) := by rw [hb.cell (p := ⟨b, o + k * 2 + 1, none⟩) hbB]; exact hc k (by omega) 1 _ (by rw [HR.out]; rfl)
      have L4 := Lib.hid l4
      have Hm := Lib.hid hm
      have He := Lib.hid he
      have Hb := Lib.hid hb
      have Hoks := Lib.hid hoks
      have HE : Hid (manE m ≠ 0 → errM ms = manE m) := fun h => by have := errM_at He.out hlt (by rw [HI.out]; exact h); rwa [HI.out] at this
      have HS : Hid (refs (ms.take (k + 1)) = addIDs (refs (ms.take k)) m.ids) := by rw [Hid, take_snoc _ man0 _ hlt, refs_snoc, HI.out]
      have HZ : Hid (manE m = 0 → errM (ms.take (k + 1)) = 0) := fun h => by rw [take_snoc _ man0 _ hlt, errM_snoc _ _ He.out, HI.out]; exact h
      have hbd := refs_bd He.out
      have hlen : (ms.take k).length ≤ 1000000 := by rw [List.length_take]; omega
      have Hbd := Lib.hid hbd
      clear h1 h2 h3 hc l4 hm he hb hmem hoks hbd
      go_wp2_with fail
      refine (manCheck_any x m rA rc _ ((L4.out.on Hb.out).alloc _) hil).mono ?_
      rintro e w1 ⟨rfl, hb1⟩
      have hn0 : w1.cell? ⟨wr.heap.size, 0, none⟩ = some (.int .i64 m.size) := by rw [hb1.cell (p := ⟨wr.heap.size, 0, none⟩) (by simp)]; exact new_cell _ _ _ _ rfl 0
      have hn1 : w1.cell? ⟨wr.heap.size, 1, none⟩ = some (.slice rA m.ids.length rc) := by rw [hb1.cell (p := ⟨wr.heap.size, 1, none⟩) (by simp)]; exact new_cell _ _ _ _ rfl 1
      have Hbw : Hid (Below w.heap.size w w1) := (Hb.out.alloc Hb.out.size _).trans (hb1.mono (by simp; omega))
      have Hm1 : Hid (Mp w1 w.heap.size (refs (ms.take k))) := (Hm.out.alloc _).on hb1
      clear hb1
      by_cases hE : manE m = 0
      · have hle := manE_len hE
        have HE0 := HZ.out hE
        have Hz := Lib.hid HE0
        rw [hE]
        clear HE0 hE
        go_wp2_with fail
        go_loopw [25] (fun v wr => ∃ j : Nat, j ≤ m.ids.length ∧ v = .int .i64 j ∧ Mp wr w.heap.size (addIDs (refs (ms.take k)) (m.ids.take j)) ∧ Below w.heap.size w wr) (fun v _ => m.ids.length - (intOf v).toNat)
        case atStart => exact ⟨0, Nat.zero_le _, rfl, Hm1.out, Hbw.out⟩
        case round =>
          obtain ⟨j, hj, rfl, hm, hb⟩ := hrel
          have hsz := hb.size
          by_cases hjl : j < m.ids.length
          · obtain ⟨b2, o2, rfl, hb2B, _, hc⟩ := L4.out (by omega)
            obtain ⟨s, z, HJ⟩ : ∃ s z, Hid (m.ids.getD j (0, 0) = (s, z)) := ⟨_, _, rfl⟩
            have hc0 : wr.cell? ⟨b2, o2 + j * 2, none⟩ = some (.int .u64 s) := by rw [hb.cell (p := ⟨b2, o2 + j * 2, none⟩) hb2B]; exact hc j hjl 0 _ (by rw [HJ.out]; rfl)
            have hc1 : wr.cell? ⟨b2, o2 + j * 2 + 1, none⟩ = some (.int .i64 z) := by rw [hb.cell (p := ⟨b2, o2 + j * 2 + 1, none⟩) hb2B]; exact hc j hjl 1 _ (by rw [HJ.out]; rfl)
            have hok := Hoks.out _ (getD_mem m.ids (0, 0) j hjl)
            rw [HJ.out] at hok
            have hbd2 := addIDs_bd Hbd.out (m.ids.take j) (s, z)
            have hlj : (m.ids.take j).length ≤ 1024 := by rw [List.length_take]; omega
            have Hm := Lib.hid hm
            have Hb := Lib.hid hb
            have Hok := Lib.hid hok
            clear hc hm hb hok
            go_wp2_with fail
            have hd0 : (wr.alloc (.cells #[.int .u64 s, .int .i64 z] 36)).cell? ⟨wr.heap.size, 0, none⟩ = some (.int .u64 s) := new_cell _ _ _ _ rfl 0
            have hd1 : (wr.alloc (.cells #[.int .u64 s, .int .i64 z] 36)).cell? ⟨wr.heap.size, 1, none⟩ = some (.int .i64 z) := new_cell _ _ _ _ rfl 1
            obtain ⟨v0, st, w2, w3, e1, e2, e3, e4, e5, e6, e7⟩ := Mp.step (Hm.out.alloc (.cells #[.int .u64 s, .int .i64 z] 36)) s z 1 Hok.out
            have He5 := Lib.hid e5
            have He6 : Hid (Below w.heap.size w w3) := below_own (Hb.out.alloc Hb.out.size _) e6 (Nat.le_refl _)
            clear e5 e6
            generalize nAt (addIDs (refs (ms.take k)) (m.ids.take j)) (s, z) = v at e1 e3 e4 hbd2
            have hsum : IntKind.i64.wrap (v + 1) = v + 1 := IntWalk.i64_in _ (by omega)
            generalize wr.alloc (.cells #[.int .u64 s, .int .i64 z] 36) = W at *
            clear hc0 hc1
            go_region
            all_goals (
              go_wp2_with fail
              go_roundw
              case rel => exact ⟨j + 1, by omega, by go_num, by rw [take_snoc _ (0, 0) _ hjl, addIDs_snoc, HJ.out]; exact He5.out, He6.out⟩
              case measure => simp [intOf]; omega)
          · obtain rfl : j = m.ids.length := by omega
            rw [List.take_length] at hm
            go_wp2_with fail
            go_roundw
            case rel => exact ⟨k + 1, by omega, by go_num, by rw [HS.out]; exact hm, Hz.out, hb⟩
            case measure => simp [intOf]; omega
      · have HE1 := Lib.hid (HE.out hE)
        have hbe : (manE m != 0) = true := by rw [bne_iff_ne]; exact hE
        have HN : Hid (errM ms ≠ 0) := by rw [Hid, HE1.out]; exact hE
        have Heq : Hid (∀ W, Below w.heap.size w W → RefsPost ms w (.returned (.tuple #[.map none, .int .i64 (manE m)])) W) := fun W hW => ⟨hW, .inr ⟨HN.out, by rw [HE1.out]⟩⟩
        clear hE
        go_wp2_with fail
        go_ret2
        exact Heq.out _ Hbw.out
    · obtain rfl : k = ms.length := by omega
      rw [List.take_length] at hm he
      have Hm := Lib.hid hm
      have He := Lib.hid he
      clear hm he
      go_wp2_with fail
      go_ret2
      exact ⟨hb, .inl ⟨He.out, _, Nat.le_refl _, rfl, Hm.out⟩⟩
end Go.Proofs.YtmiknfneeipkeaaGreat
namespace Go.Proofs
open Go.Shelf
def Tryz.lay82_ren : Go.Shelf.Ren := ⟨fun | 6 => 82 | 15 => 127 | 14 => 126 | 28 => 164 | 29 => 165 | 20 => 156 | 21 => 157 | 22 => 158 | 23 => 159 | 24 => 160 | 25 => 161 | 26 => 162 | 27 => 163 | 46 => 199 | 47 => 200 | 48 => 201 | 49 => 202 | 50 => 203 | 57 => 224 | n => n, fun | 22 => 31 | 24 => 36 | 25 => 115 | 3 => 3 | 39 => 174 | 0 => 0 | 53 => 245 | 55 => 34 | 4 => 4 | 46 => 239 | 45 => 238 | 50 => 113 | 5 => 5 | 9 => 9 | 66 => 275 | 70 => 279 | 76 => 295 | 77 => 296 | n => n, fun | n => n⟩
theorem Tryz.lay82 : Go.Proofs.SlLaysF0.n6 Tryz.prog Tryz.lay82_ren := {
  mixed := by kernel_rfl
  f6 := ⟨Tryz.f82.name, by decide, Tryz.func82.trans (congrArg some (by kernel_rfl))⟩
  f14 := ⟨Tryz.f126.name, by decide, Tryz.func126.trans (congrArg some (by kernel_rfl))⟩
  f15 := Tryz.func127.trans (congrArg some (by kernel_rfl))
  f20 := ⟨Tryz.f156.name, by decide, Tryz.func156.trans (congrArg some (by kernel_rfl))⟩
  f21 := ⟨Tryz.f157.name, by decide, Tryz.func157.trans (congrArg some (by kernel_rfl))⟩
  f22 := ⟨Tryz.f158.name, by decide, Tryz.func158.trans (congrArg some (by kernel_rfl))⟩
  f23 := ⟨Tryz.f159.name, by decide, Tryz.func159.trans (congrArg some (by kernel_rfl))⟩
  f24 := ⟨Tryz.f160.name, by decide, Tryz.func160.trans (congrArg some (by kernel_rfl))⟩
  f25 := ⟨Tryz.f161.name, by decide, Tryz.func161.trans (congrArg some (by kernel_rfl))⟩
  f26 := ⟨Tryz.f162.name, by decide, Tryz.func162.trans (congrArg some (by kernel_rfl))⟩
  f27 := ⟨Tryz.f163.name, by decide, Tryz.func163.trans (congrArg some (by kernel_rfl))⟩
  f28 := Tryz.func164.trans (congrArg some (by kernel_rfl))
  f29 := Tryz.func165.trans (congrArg some (by kernel_rfl))
  f46 := ⟨Tryz.f199.name, by decide, Tryz.func199.trans (congrArg some (by kernel_rfl))⟩
  f47 := Tryz.func200.trans (congrArg some (by kernel_rfl))
  f48 := Tryz.func201.trans (congrArg some (by kernel_rfl))
  f49 := ⟨Tryz.f202.name, by decide, Tryz.func202.trans (congrArg some (by kernel_rfl))⟩
  f50 := ⟨Tryz.f203.name, by decide, Tryz.func203.trans (congrArg some (by kernel_rfl))⟩
  f57 := ⟨Tryz.f224.name, by decide, Tryz.func224.trans (congrArg some (by kernel_rfl))⟩
  t0 := Tryz.underlying0
  a0 := Tryz.isAgg0
  z0 := Tryz.sizeOf0
  v0 := Tryz.zeroValue0
  t3 := Tryz.underlying3
  a3 := Tryz.isAgg3
  z3 := Tryz.sizeOf3
  v3 := Tryz.zeroValue3
  t4 := Tryz.underlying4
  a4 := Tryz.isAgg4
  z4 := Tryz.sizeOf4
  v4 := Tryz.zeroValue4
  t5 := Tryz.underlying5
  a5 := Tryz.isAgg5
  z5 := Tryz.sizeOf5
  v5 := Tryz.zeroValue5
  t9 := Tryz.underlying9
  a9 := Tryz.isAgg9
  z9 := Tryz.sizeOf9
  v9 := Tryz.zeroValue9
  t22 := Tryz.underlying31
  a22 := Tryz.isAgg31
  z22 := Tryz.sizeOf31
  v22 := Tryz.zeroValue31
  t25 := Tryz.underlying115
  a25 := Tryz.isAgg115
  z25 := Tryz.sizeOf115
  v25 := Tryz.zeroValue115
  t39 := Tryz.underlying174
  a39 := Tryz.isAgg174
  z39 := Tryz.sizeOf174
  v39 := Tryz.zeroValue174
  t45 := Tryz.underlying238
  a45 := Tryz.isAgg238
  z45 := Tryz.sizeOf238
  v45 := Tryz.zeroValue238
  t46 := Tryz.underlying239
  a46 := Tryz.isAgg239
  z46 := Tryz.sizeOf239
  v46 := Tryz.zeroValue239
  t50 := Tryz.underlying113
  a50 := Tryz.isAgg113
  z50 := Tryz.sizeOf113
  v50 := Tryz.zeroValue113
  t53 := Tryz.underlying245
  a53 := Tryz.isAgg245
  z53 := Tryz.sizeOf245
  v53 := Tryz.zeroValue245
  t55 := Tryz.underlying34
  a55 := Tryz.isAgg34
  z55 := Tryz.sizeOf34
  v55 := Tryz.zeroValue34
  t66 := Tryz.underlying275
  a66 := Tryz.isAgg275
  z66 := Tryz.sizeOf275
  v66 := Tryz.zeroValue275
  t70 := Tryz.underlying279
  a70 := Tryz.isAgg279
  z70 := Tryz.sizeOf279
  v70 := Tryz.zeroValue279
  t76 := Tryz.underlying295
  a76 := Tryz.isAgg295
  z76 := Tryz.sizeOf295
  v76 := Tryz.zeroValue295
  t77 := Tryz.underlying296
  a77 := Tryz.isAgg296
  z77 := Tryz.sizeOf296
  v77 := Tryz.zeroValue296 }
def Tryz.lay109_ren : Go.Shelf.Ren := ⟨fun | 6 => 109 | 15 => 127 | 14 => 145 | 28 => 164 | 29 => 165 | 20 => 184 | 21 => 185 | 22 => 186 | 23 => 187 | 24 => 188 | 25 => 189 | 26 => 190 | 27 => 191 | 46 => 217 | 47 => 200 | 48 => 201 | 49 => 218 | 50 => 219 | 57 => 230 | n => n, fun | 22 => 49 | 24 => 125 | 25 => 178 | 3 => 3 | 39 => 174 | 0 => 0 | 53 => 245 | 55 => 34 | 4 => 4 | 46 => 239 | 45 => 238 | 50 => 113 | 5 => 5 | 9 => 9 | 66 => 275 | 70 => 279 | 76 => 295 | 77 => 296 | n => n, fun | n => n⟩
theorem Tryz.lay109 : Go.Proofs.SlLaysF0.n6 Tryz.prog Tryz.lay109_ren := {
  mixed := by kernel_rfl
  f6 := ⟨Tryz.f109.name, by decide, Tryz.func109.trans (congrArg some (by kernel_rfl))⟩
  f14 := ⟨Tryz.f145.name, by decide, Tryz.func145.trans (congrArg some (by kernel_rfl))⟩
  f15 := Tryz.func127.trans (congrArg some (by kernel_rfl))
  f20 := ⟨Tryz.f184.name, by decide, Tryz.func184.trans (congrArg some (by kernel_rfl))⟩
  f21 := ⟨Tryz.f185.name, by decide, Tryz.func185.trans (congrArg some (by kernel_rfl))⟩
  f22 := ⟨Tryz.f186.name, by decide, Tryz.func186.trans (congrArg some (by kernel_rfl))⟩
  f23 := ⟨Tryz.f187.name, by decide, Tryz.func187.trans (congrArg some (by kernel_rfl))⟩
  f24 := ⟨Tryz.f188.name, by decide, Tryz.func188.trans (congrArg some (by kernel_rfl))⟩
  f25 := ⟨Tryz.f189.name, by decide, Tryz.func189.trans (congrArg some (by kernel_rfl))⟩
  f26 := ⟨Tryz.f190.name, by decide, Tryz.func190.trans (congrArg some (by kernel_rfl))⟩
  f27 := ⟨Tryz.f191.name, by decide, Tryz.func191.trans (congrArg some (by kernel_rfl))⟩
  f28 := Tryz.func164.trans (congrArg some (by kernel_rfl))
  f29 := Tryz.func165.trans (congrArg some (by kernel_rfl))
  f46 := ⟨Tryz.f217.name, by decide, Tryz.func217.trans (congrArg some (by kernel_rfl))⟩
  f47 := Tryz.func200.trans (congrArg some (by kernel_rfl))
  f48 := Tryz.func201.trans (congrArg some (by kernel_rfl))
  f49 := ⟨Tryz.f218.name, by decide, Tryz.func218.trans (congrArg some (by kernel_rfl))⟩
  f50 := ⟨Tryz.f219.name, by decide, Tryz.func219.trans (congrArg some (by kernel_rfl))⟩
  f57 := ⟨Tryz.f230.name, by decide, Tryz.func230.trans (congrArg some (by kernel_rfl))⟩
  t0 := Tryz.underlying0
  a0 := Tryz.isAgg0
  z0 := Tryz.sizeOf0
  v0 := Tryz.zeroValue0
  t3 := Tryz.underlying3
  a3 := Tryz.isAgg3
  z3 := Tryz.sizeOf3
  v3 := Tryz.zeroValue3
  t4 := Tryz.underlying4
  a4 := Tryz.isAgg4
  z4 := Tryz.sizeOf4
  v4 := Tryz.zeroValue4
  t5 := Tryz.underlying5
  a5 := Tryz.isAgg5
  z5 := Tryz.sizeOf5
  v5 := Tryz.zeroValue5
  t9 := Tryz.underlying9
  a9 := Tryz.isAgg9
  z9 := Tryz.sizeOf9
  v9 := Tryz.zeroValue9
  t22 := Tryz.underlying49
  a22 := Tryz.isAgg49
  z22 := Tryz.sizeOf49
  v22 := Tryz.zeroValue49
  t25 := Tryz.underlying178
  a25 := Tryz.isAgg178
  z25 := Tryz.sizeOf178
  v25 := Tryz.zeroValue178
  t39 := Tryz.underlying174
  a39 := Tryz.isAgg174
  z39 := Tryz.sizeOf174
  v39 := Tryz.zeroValue174
  t45 := Tryz.underlying238
  a45 := Tryz.isAgg238
  z45 := Tryz.sizeOf238
  v45 := Tryz.zeroValue238
  t46 := Tryz.underlying239
  a46 := Tryz.isAgg239
  z46 := Tryz.sizeOf239
  v46 := Tryz.zeroValue239
  t50 := Tryz.underlying113
  a50 := Tryz.isAgg113
  z50 := Tryz.sizeOf113
  v50 := Tryz.zeroValue113
  t53 := Tryz.underlying245
  a53 := Tryz.isAgg245
  z53 := Tryz.sizeOf245
  v53 := Tryz.zeroValue245
  t55 := Tryz.underlying34
  a55 := Tryz.isAgg34
  z55 := Tryz.sizeOf34
  v55 := Tryz.zeroValue34
  t66 := Tryz.underlying275
  a66 := Tryz.isAgg275
  z66 := Tryz.sizeOf275
  v66 := Tryz.zeroValue275
  t70 := Tryz.underlying279
  a70 := Tryz.isAgg279
  z70 := Tryz.sizeOf279
  v70 := Tryz.zeroValue279
  t76 := Tryz.underlying295
  a76 := Tryz.isAgg295
  z76 := Tryz.sizeOf295
  v76 := Tryz.zeroValue295
  t77 := Tryz.underlying296
  a77 := Tryz.isAgg296
  z77 := Tryz.sizeOf296
  v77 := Tryz.zeroValue296 }
def Tryz.lay87_ren : Go.Shelf.Ren := ⟨fun | 6 => 87 | 15 => 127 | 14 => 129 | 28 => 164 | 29 => 165 | 20 => 168 | 21 => 169 | 22 => 170 | 23 => 171 | 24 => 172 | 25 => 173 | 26 => 174 | 27 => 175 | 46 => 205 | 47 => 200 | 48 => 201 | 49 => 206 | 50 => 207 | 57 => 226 | n => n, fun | 22 => 23 | 24 => 42 | 25 => 148 | 3 => 3 | 39 => 174 | 0 => 0 | 53 => 245 | 55 => 34 | 4 => 4 | 46 => 239 | 45 => 238 | 50 => 113 | 5 => 5 | 9 => 9 | 66 => 275 | 70 => 279 | 76 => 295 | 77 => 296 | n => n, fun | n => n⟩
theorem Tryz.lay87 : Go.Proofs.SlLaysF0.n6 Tryz.prog Tryz.lay87_ren := {
  mixed := by kernel_rfl
  f6 := ⟨Tryz.f87.name, by decide, Tryz.func87.trans (congrArg some (by kernel_rfl))⟩
  f14 := ⟨Tryz.f129.name, by decide, Tryz.func129.trans (congrArg some (by kernel_rfl))⟩
  f15 := Tryz.func127.trans (congrArg some (by kernel_rfl))
  f20 := ⟨Tryz.f168.name, by decide, Tryz.func168.trans (congrArg some (by kernel_rfl))⟩
  f21 := ⟨Tryz.f169.name, by decide, Tryz.func169.trans (congrArg some (by kernel_rfl))⟩
  f22 := ⟨Tryz.f170.name, by decide, Tryz.func170.trans (congrArg some (by kernel_rfl))⟩
  f23 := ⟨Tryz.f171.name, by decide, Tryz.func171.trans (congrArg some (by kernel_rfl))⟩
  f24 := ⟨Tryz.f172.name, by decide, Tryz.func172.trans (congrArg some (by kernel_rfl))⟩
  f25 := ⟨Tryz.f173.name, by decide, Tryz.func173.trans (congrArg some (by kernel_rfl))⟩
  f26 := ⟨Tryz.f174.name, by decide, Tryz.func174.trans (congrArg some (by kernel_rfl))⟩
  f27 := ⟨Tryz.f175.name, by decide, Tryz.func175.trans (congrArg some (by kernel_rfl))⟩
  f28 := Tryz.func164.trans (congrArg some (by kernel_rfl))
  f29 := Tryz.func165.trans (congrArg some (by kernel_rfl))
  f46 := ⟨Tryz.f205.name, by decide, Tryz.func205.trans (congrArg some (by kernel_rfl))⟩
  f47 := Tryz.func200.trans (congrArg some (by kernel_rfl))
  f48 := Tryz.func201.trans (congrArg some (by kernel_rfl))
  f49 := ⟨Tryz.f206.name, by decide, Tryz.func206.trans (congrArg some (by kernel_rfl))⟩
  f50 := ⟨Tryz.f207.name, by decide, Tryz.func207.trans (congrArg some (by kernel_rfl))⟩
  f57 := ⟨Tryz.f226.name, by decide, Tryz.func226.trans (congrArg some (by kernel_rfl))⟩
  t0 := Tryz.underlying0
  a0 := Tryz.isAgg0
  z0 := Tryz.sizeOf0
  v0 := Tryz.zeroValue0
  t3 := Tryz.underlying3
  a3 := Tryz.isAgg3
  z3 := Tryz.sizeOf3
  v3 := Tryz.zeroValue3
  t4 := Tryz.underlying4
  a4 := Tryz.isAgg4
  z4 := Tryz.sizeOf4
  v4 := Tryz.zeroValue4
  t5 := Tryz.underlying5
  a5 := Tryz.isAgg5
  z5 := Tryz.sizeOf5
  v5 := Tryz.zeroValue5
  t9 := Tryz.underlying9
  a9 := Tryz.isAgg9
  z9 := Tryz.sizeOf9
  v9 := Tryz.zeroValue9
  t22 := Tryz.underlying23
  a22 := Tryz.isAgg23
  z22 := Tryz.sizeOf23
  v22 := Tryz.zeroValue23
  t25 := Tryz.underlying148
  a25 := Tryz.isAgg148
  z25 := Tryz.sizeOf148
  v25 := Tryz.zeroValue148
  t39 := Tryz.underlying174
  a39 := Tryz.isAgg174
  z39 := Tryz.sizeOf174
  v39 := Tryz.zeroValue174
  t45 := Tryz.underlying238
  a45 := Tryz.isAgg238
  z45 := Tryz.sizeOf238
  v45 := Tryz.zeroValue238
  t46 := Tryz.underlying239
  a46 := Tryz.isAgg239
  z46 := Tryz.sizeOf239
  v46 := Tryz.zeroValue239
  t50 := Tryz.underlying113
  a50 := Tryz.isAgg113
  z50 := Tryz.sizeOf113
  v50 := Tryz.zeroValue113
  t53 := Tryz.underlying245
  a53 := Tryz.isAgg245
  z53 := Tryz.sizeOf245
  v53 := Tryz.zeroValue245
  t55 := Tryz.underlying34
  a55 := Tryz.isAgg34
  z55 := Tryz.sizeOf34
  v55 := Tryz.zeroValue34
  t66 := Tryz.underlying275
  a66 := Tryz.isAgg275
  z66 := Tryz.sizeOf275
  v66 := Tryz.zeroValue275
  t70 := Tryz.underlying279
  a70 := Tryz.isAgg279
  z70 := Tryz.sizeOf279
  v70 := Tryz.zeroValue279
  t76 := Tryz.underlying295
  a76 := Tryz.isAgg295
  z76 := Tryz.sizeOf295
  v76 := Tryz.zeroValue295
  t77 := Tryz.underlying296
  a77 := Tryz.isAgg296
  z77 := Tryz.sizeOf296
  v77 := Tryz.zeroValue296 }
end Go.Proofs
namespace Go.Proofs.YtmiknfneeipkeaaGreat
open Go.RowKit Go.Shelf Go.Sort
attribute [local go_sem] wext_cell
section
variable {α : Type} [Inhabited α] {enc : α → List Value} {k : Nat} {d : α}
theorem bang_getD (xs : List α) (j : Nat) (hj : j < xs.length) : xs.toArray[j]! = xs.getD j d := by
  rw [List.getElem!_toArray, List.getD_eq_getElem?_getD, List.getElem?_eq_getElem hj, getElem!_pos xs j hj]
  rfl
theorem holdsK_of_own (hk : ∀ y, (enc y).length = k) (hk0 : 0 < k) {w : World} {base g n cap : Nat} {e : TypeId} {xs : List α} (h : w.ownsRow base e k (.slice (some ⟨g, 0, none⟩) n cap) n (xs.flatMap enc)) : HoldsK enc k w g 0 xs.toArray := by
  have hl := h.1
  rw [flat_len hk] at hl
  intro j hj
  rw [size_flatK] at hj
  have hj' : j < xs.length * k := by simpa using hj
  refine ⟨?_, h.frozenAt _⟩
  have hq : j / k < xs.length := by rw [Nat.div_lt_iff_lt_mul hk0]; exact hj'
  have hm : j % k < k := Nat.mod_lt _ hk0
  have hdm : j / k * k + j % k = j := by rw [Nat.mul_comm]; exact Nat.div_add_mod j k
  rw [get_flatK _ _ _ _ hj, Nat.zero_add, h.cellAt j (by omega), bang_getD (d := default) xs _ hq]
  have h1 := flat_at hk default xs (j / k) (j % k) hq hm
  rw [hdm] at h1
  rw [h1]
  have hlt : j % k < (enc (xs.getD (j / k) default)).length := by rw [hk]; exact hm
  rw [List.getElem?_eq_getElem hlt, getElem!_pos (enc (xs.getD (j / k) default)) (j % k) hlt]
  rfl
theorem Rd.of_holds (hk : ∀ y, (enc y).length = k) {w : World} {g x : Nat} {xs : List α} (h : HoldsK enc k w g 0 xs.toArray) (hg : g < w.heap.size) (hx : g ≠ x) : Rd enc k d w x (some ⟨g, 0, none⟩) xs := by
  intro _
  refine ⟨g, 0, rfl, hg, hx, fun j hj i v hi => ?_⟩
  have hik : i < k := by
    have := (List.getElem?_eq_some_iff.1 hi).1
    rwa [hk] at this
  have h0 := (h.cell (i := j) (c := i) (by simpa using hj) hik).1
  rw [bang_getD (d := d) xs j hj] at h0
  have hlt := (List.getElem?_eq_some_iff.1 hi).1
  rw [getElem!_pos (enc (xs.getD j d)) i hlt] at h0
  rw [h0, ← hi, List.getElem?_eq_getElem hlt]

def SortPost (enc : α → List Value) (k : Nat) (d : α) (cf : α → α → Int) (base g x : Nat) (xs : List α) (w : World) (e : Ending) (w' : World) : Prop :=
  e = .returned (.tuple #[]) ∧ (∃ ys, ys.Perm xs ∧ ys.Pairwise (fun a b => ltOf cf b a = false) ∧ Rd enc k d w' x (some ⟨g, 0, none⟩) ys) ∧ Below base w w'

theorem sort_post (hk : ∀ y, (enc y).length = k) {cf : α → α → Int} {f : FuncId} {base g n cap x : Nat} {e : TypeId} {xs : List α} {w : World} {gv : Value} (h : w.ownsRow base e k (.slice (some ⟨g, 0, none⟩) n cap) n (xs.flatMap enc)) (hk0 : 0 < k) (hx : x < base)
    (hcon : Calls Tryz.prog f #[.slice (some ⟨g, 0, none⟩) xs.toArray.size cap, gv] w fun e w' => e = .returned (.tuple #[]) ∧ ∃ d' m os, PermIn 0 xs.toArray.size xs.toArray d' ∧ SortedIn (ltOf cf) 0 xs.toArray.size d' ∧ w' = sortWorldK enc k w g 0 m d' os) :
    Calls Tryz.prog f #[.slice (some ⟨g, 0, none⟩) n cap, gv] w (SortPost enc k d cf base g x xs w) := by
  have hl := h.1
  rw [flat_len hk] at hl
  have hnx : n = xs.toArray.size := by
    have : xs.length = n := Nat.eq_of_mul_eq_mul_right hk0 hl
    simp [this]
  have hg := h.lt g rfl
  rw [← hnx] at hcon
  refine Calls.mono hcon ?_
  rintro e w' ⟨he, d', m, os, hp, hs, rfl⟩
  obtain ⟨hsz, _, hperm⟩ := hp
  rw [hnx, Array.extract_size, show xs.toArray.size = d'.size from hsz.symm, Array.extract_size] at hperm
  have hH := holdsK_putRowK (enc := enc) (k := k) (Sort.ahead w m) g 0 xs.toArray d' (holdsK_of_own hk hk0 h) hsz
  have hgrow : w.grownBy (sortWorldK enc k w g 0 m d' os) (some g) := by
    refine ⟨rfl, rfl, rfl, by simp [sortWorldK, putRowK], fun j hj hne => ?_⟩
    unfold sortWorldK
    rw [heap_grow_old _ _ (by simpa [putRowK] using hj)]
    have : g ≠ j := fun e => hne (by rw [e])
    simp [putRowK, putRow, mapBlock, Sort.ahead, Array.getElem?_modify, this]
  have hg2 : g < (sortWorldK enc k w g 0 m d' os).heap.size := Nat.lt_of_lt_of_le hg.2 hgrow.size
  refine ⟨he, ⟨d'.toList, by simpa using hperm, ?_, Rd.of_holds hk ?_ hg2 (by omega)⟩, (Below.refl _ _).grown hgrow (by omega) (fun q hq => by cases hq; exact hg.1)⟩
  · rw [List.pairwise_iff_getElem]
    intro i j hi hj hij
    have hi' : i < d'.size := by simpa using hi
    have hj' : j < d'.size := by simpa using hj
    have := hs i j (Nat.zero_le _) hij (by omega)
    rw [getElem!_pos d' i hi', getElem!_pos d' j hj'] at this
    simpa using this
  · exact holdsK_grow (enc := enc) (k := k) _ _ _ _ _ (by simpa [putRowK] using hg.2) hH
end
theorem sortIDc_any (base g n cap x : Nat) (xs : List ID) (w : World) (h : w.ownsRow base 36 2 (.slice (some ⟨g, 0, none⟩) n cap) n (xs.flatMap encID)) (hx : x < base) (hn : xs.length ≤ 4294967296) :
    Calls Tryz.prog 82 #[.slice (some ⟨g, 0, none⟩) n cap, .func (.func 55) #[] #[]] w (SortPost encID 2 (0, 0) cmpID base g x xs w) := by
  have hg := h.lt g rfl
  have eg : ∀ args w, (callFunc 55 args).run Tryz.prog w = .ok (.enter 55 args) w := enters_of Tryz.func55 (by kernel_rfl) rfl
  exact sort_post encID_len h (by omega) hx (AnyQ.slices_SortFunc Tryz.lay82 2 Tryz.isAgg36 Tryz.sizeOf36 encID (fun _ => rfl) encID_one cmpID swoID 55 #[] g 0 cap xs.toArray w eg
    (fun _ _ _ _ x y => acmp_grow x.1 x.2 y.1 y.2 _) (holdsK_of_own encID_len (by omega) h) hg.2 (by simp; omega))
end Go.Proofs.YtmiknfneeipkeaaGreat
