/- Walks of laws: First. -/
import Derived.Test.YtddjkkmdcdiofaaCF
import Derived.Test.YtddjkkmdcdiofaaLD
namespace Go.Proofs.Ytddjkkmdcdiofaa
open Go.RowKit Go.MapKept Go.ChangeMaps

/-- The device that got only the first operations. -/
def St.few (s : St) (k : Nat) : St := { s with ops := s.ops.take k }
theorem reqE_zero {s : St} {n : Nat} {o : POp} (hf : s.f = 0) (h : reqE s n o = 0) : gate s n o = 0 ∧ reqS s n o = { s with ops := s.ops ++ [o] } := by
  have hg : gate s n o = 0 := by
    unfold reqE at h
    split at h
    · assumption
    · exact h
  exact ⟨hg, (req_ok hg hf).2⟩
theorem reqE_not {s : St} {n : Nat} {o : POp} (hf : s.f = 0) (h : reqE s n o ≠ 0) : reqS s n o = s := by
  have hg : gate s n o ≠ 0 := fun hg => h (req_ok hg hf).1
  unfold reqS
  rw [if_neg hg]
theorem few_lt {s : St} {k : Nat} (h : s.ops.length ≤ k) : s.few k = s := by
  unfold St.few
  rw [List.take_of_length_le h]
theorem few_snoc_ge {s : St} {k : Nat} (o : POp) (h : k ≤ s.ops.length) : St.few { s with ops := s.ops ++ [o] } k = s.few k := by
  unfold St.few
  simp only
  rw [List.take_append_of_le_length h]
theorem few_snoc_lt {s : St} {k : Nat} (o : POp) (h : s.ops.length < k) : St.few { s with ops := s.ops ++ [o] } k = { s.few k with ops := (s.few k).ops ++ [o] } := by
  rw [few_lt (s := s) (by omega), few_lt (by simp; omega)]
theorem first_now {s : St} (k : Nat) : lossF s k (-1) = (s.few k).now := by
  unfold lossF
  rw [if_neg (by omega), Int.toNat_natCast]
  cases ho : s.ops[k]? with
  | some x =>
    simp only
    rw [if_neg (by omega)]
    rfl
  | none =>
    simp only
    rw [few_lt (List.getElem?_eq_none_iff.1 ho)]
theorem swap2 {α : Type} (a b : α) : [a, b].Perm [b, a] := List.Perm.swap b a []
set_option maxRecDepth 100000 in
set_option maxHeartbeats 8000000 in
theorem law9 (A : Option Addr) (l : List Int) (c : Nat) (w : World) (hr : RdT w w.heap.size A l) (hl : l.length ≤ 9223372036854775807) :
    Calls Try.prog 9 #[.slice A l.length c] w (Gives (.bool true) w) := by
  have Hr := Lib.hid hr
  clear hr
  go_enter Try.func9, Try.ntmps9
  go_wp2_with fail
  have T0 : Hid (Tp (w.alloc (.cells #[.slice A l.length c, .int .i64 0] 39)) w.heap.size 0) := tape0 Hr.out hl
  have G0 : Hid (w.grownBy (w.alloc (.cells #[.slice A l.length c, .int .i64 0] 39)) (some w.heap.size)) := World.grownBy_alloc _ _ _
  have s0 : w.heap.size + 1 ≤ (w.alloc (.cells #[.slice A l.length c, .int .i64 0] 39)).heap.size := by simp
  generalize w.alloc (.cells #[.slice A l.length c, .int .i64 0] 39) = w0 at *
  refine (played_any 8 w.heap.size 0 w0 (by omega) (by omega) (by omega) T0.out).mono ?_
  rintro e w1 ⟨pd, s1, rfl, hpl, hd, ht, hg⟩
  have PL1 := Lib.hid hpl
  have D1 : Hid (Devs (w.heap.size + 1) w1 [(pd, s1)]) := (Devs.one hd).low s0
  have T1 := Lib.hid ht
  have G1 : Hid (w.grownBy w1 (some w.heap.size)) := g_trans G0.out hg
  have hLs1 : s1.ops.length ≤ 8 := hpl.2.2
  clear hpl hd ht hg
  go_wp2_with fail
  refine (known_any _).mono ?_
  rintro e w2 ⟨rfl, hb⟩
  have D2 : Hid (Devs (w.heap.size + 1) w2 [(pd, s1)]) := D1.out.on hb
  have T2 : Hid (Tp w2 w.heap.size (0 + 1 + 21 * 8)) := T1.out.on hb
  have G2 : Hid (w.grownBy w2 (some w.heap.size)) := g_below G1.out hb
  clear hb
  go_wp2_with fail
  refine (Sync_D D2.out (by omega)).mono ?_
  rintro e w3 ⟨he, hd, hb, _⟩
  rw [PL1.out.sync.2.1] at he
  rw [PL1.out.sync.2.2] at hd
  subst he
  obtain ⟨K, HK⟩ : ∃ K, Hid (K = s1.now) := ⟨_, rfl⟩
  have D3 : Hid (Devs (w.heap.size + 1) w3 [(pd, ⟨K, [], false, 0⟩)]) := by rw [Hid, HK.out]; exact hd
  have T3 : Hid (Tp w3 w.heap.size (0 + 1 + 21 * 8)) := T2.out.low hb
  have G3 : Hid (w.grownBy w3 (some w.heap.size)) := g_low1 G2.out hb
  clear hd hb
  go_wp2_with fail
  refine (Copy_D D3.out (by simp)).mono ?_
  rintro e w4 ⟨pf, rfl, hd, hb⟩
  have D4 : Hid (Devs (w.heap.size + 1) w4 [(pd, ⟨K, [], false, 0⟩), (pf, ⟨K, [], false, 0⟩)]) := hd.perm (swap2 _ _)
  have T4 : Hid (Tp w4 w.heap.size (0 + 1 + 21 * 8)) := T3.out.on hb
  have G4 : Hid (w.grownBy w4 (some w.heap.size)) := g_below G3.out hb
  clear hd hb
  go_wp2_with fail
  refine (Next_any 7 w.heap.size (0 + 1 + 21 * 8) _ (by omega) (by omega) T4.out).mono ?_
  rintro e w5 ⟨y, hy, rfl, ht, hg⟩
  obtain ⟨keep, rfl⟩ : ∃ keep : Nat, y = (keep : Int) := ⟨y.toNat, by have := hy.1; omega⟩
  have hkeep : keep < 7 := by have := hy.2.1 (by omega); omega
  have D5 : Hid (Devs (w.heap.size + 1) w5 [(pd, ⟨K, [], false, 0⟩), (pf, ⟨K, [], false, 0⟩)]) := D4.out.tape T4.out hg
  have T5 := Lib.hid ht
  have G5 : Hid (w.grownBy w5 (some w.heap.size)) := g_trans G4.out hg
  clear ht hg hy
  go_wp2_with fail
  refine (Next_any 9 w.heap.size (0 + 1 + 21 * 8 + 1) _ (by omega) (by omega) T5.out).mono ?_
  rintro e w6 ⟨y, hy, rfl, ht, hg⟩
  obtain ⟨k0, rfl⟩ : ∃ k0 : Nat, y = (k0 : Int) := ⟨y.toNat, by have := hy.1; omega⟩
  have hk0 : k0 < 9 := by have := hy.2.1 (by omega); omega
  have D6 : Hid (Devs (w.heap.size + 1) w6 [(pd, ⟨K, [], false, 0⟩), (pf, ⟨K, [], false, 0⟩)]) := D5.out.tape T5.out hg
  have T6 := Lib.hid ht
  have G6 : Hid (w.grownBy w6 (some w.heap.size)) := g_trans G5.out hg
  clear ht hg hy
  go_wp2_with fail
  go_loopw [7, 8] (fun vn vk wr => ∃ (n k : Nat) (s : St), n + k ≤ 8 ∧ vn = .int .i64 n ∧ vk = .int .i64 k ∧ s.dn = false ∧ s.f = 0 ∧ s.ops.length = n ∧ Devs (w.heap.size + 1) wr [(pd, s), (pf, s.few keep)] ∧ Tp wr w.heap.size (0 + 1 + 21 * 8 + 1 + 1 + 20 * (8 - k)) ∧ w.grownBy wr (some w.heap.size)) (fun _ vk _ => (intOf vk).toNat)
  case atStart => exact ⟨0, k0, ⟨K, [], false, 0⟩, by omega, rfl, rfl, rfl, rfl, rfl, by simpa [St.few] using D6.out, T6.out.more (by omega), G6.out⟩
  case round =>
    obtain ⟨n, k, st, hnk, rfl, rfl, hdn, hf0, hlen, hd, ht, hg⟩ := hrel
    have HDN := Lib.hid hdn
    have HF := Lib.hid hf0
    have HLen := Lib.hid hlen
    have D7 := Lib.hid hd
    have T7 := Lib.hid ht
    have G7 := Lib.hid hg
    have hLs : st.ops.length ≤ 8 := by omega
    clear hdn hf0 hlen hd ht hg
    by_cases hpos : 0 < k
    · go_wp2_with fail
      refine (operation_any w.heap.size (0 + 1 + 21 * 8 + 1 + 1 + 20 * (8 - k)) _ (by omega) T7.out).mono ?_
      rintro e w8 ⟨o, ho, rfl, hro, hfo, ht, hg⟩
      have D8 : Hid (Devs (w.heap.size + 1) w8 [(pd, st), (pf, st.few keep)] [(o.d, o.bs)]) := D7.out.tape_add T7.out hg hro hfo
      have T8 := Lib.hid ht
      have G8 : Hid (w.grownBy w8 (some w.heap.size)) := g_trans G7.out hg
      have HO := Lib.hid ho
      clear ht hg ho hro hfo
      have D8a : Hid (Devs (w.heap.size + 1) (w8.alloc (.cells #[.int .i64 o.k, .string o.nm, .string o.to, .slice o.d.A o.d.len o.d.cap] 51)) [(pd, st), (pf, st.few keep)] [(o.d, o.bs)]) := D8.out.on (bel1 _ _)
      have B8a : Hid (IsB (w8.alloc (.cells #[.int .i64 o.k, .string o.nm, .string o.to, .slice o.d.A o.d.len o.d.cap] 51)) w8.heap.size 51 #[.int .i64 o.k, .string o.nm, .string o.to, .slice o.d.A o.d.len o.d.cap]) := IsB.new _ _ _
      unfold LOp.val
      go_wp2_with fail
      refine (ldo_D o D8a.out HO.out (D8a.out.rb (by simp)) (by omega)).mono ?_
      rintro e w9 ⟨n1, hn1, he, hd, hb, hkb⟩
      have T9 : Hid (Tp w9 w.heap.size (0 + 1 + 21 * 8 + 1 + 1 + 20 * (8 - k) + 20)) := (T8.out.alloc _).low hb
      have G9 : Hid (w.grownBy w9 (some w.heap.size)) := g_low1 (g_alloc G8.out _) hb
      have B9 : Hid (IsB w9 w8.heap.size 51 #[.int .i64 o.k, .string o.nm, .string o.to, .slice o.d.A o.d.len o.d.cap]) := hkb _ _ _ (by decide) (by decide) (by decide) B8a.out
      by_cases hz : reqE st n1 o.op = 0
      · rw [hz] at he
        subst he
        rw [(reqE_zero HF.out hz).2] at hd
        have D9 := Lib.hid hd
        have HZ := Lib.hid hz
        have HN1 := Lib.hid hn1
        clear hd hb hkb hz hn1
        by_cases hlt : n < keep
        · have k0' : w9.cell? ⟨w8.heap.size, 0, none⟩ = some (.int .i64 o.k) := B9.out.cell 0
          have k1' : w9.cell? ⟨w8.heap.size, 1, none⟩ = some (.string o.nm) := B9.out.cell 1
          have k2' : w9.cell? ⟨w8.heap.size, 2, none⟩ = some (.string o.to) := B9.out.cell 2
          have k3' : w9.cell? ⟨w8.heap.size, 3, none⟩ = some (.slice o.d.A o.d.len o.d.cap) := B9.out.cell 3
          have E9 : Hid (Devs (w.heap.size + 1) w9 [(pf, st.few keep), (pd, { st with ops := st.ops ++ [o.op] })] [(o.d, o.bs)]) := D9.out.perm (swap2 _ _)
          have HFew : Hid (st.few keep = st) := few_lt (by rw [HLen.out]; omega)
          go_wp2_with fail
          refine (ldo_D o E9.out HO.out (E9.out.rb (by simp)) (by rw [HFew.out]; omega)).mono ?_
          rintro e w10 ⟨n2, hn2, he, hd, hb, _⟩
          have hn12 : n2 = n1 := by rw [HFew.out] at hn2; exact hn2.uniq HN1.out
          subst hn12
          have hz2 : reqE (st.few keep) n2 o.op = 0 := by rw [HFew.out]; exact HZ.out
          rw [hz2] at he
          subst he
          rw [(reqE_zero (by rw [HFew.out]; exact HF.out) hz2).2, ← few_snoc_lt o.op (by rw [HLen.out]; omega)] at hd
          have D10 : Hid (Devs (w.heap.size + 1) w10 [(pd, { st with ops := st.ops ++ [o.op] }), (pf, St.few { st with ops := st.ops ++ [o.op] } keep)]) := (hd.perm (swap2 _ _)).weak
          have T10 : Hid (Tp w10 w.heap.size (0 + 1 + 21 * 8 + 1 + 1 + 20 * (8 - k) + 20)) := T9.out.low hb
          have G10 : Hid (w.grownBy w10 (some w.heap.size)) := g_low1 G9.out hb
          clear hd hb hn2 hz2
          go_wp2_with fail
          go_roundw
          case rel => exact ⟨n + 1, k - 1, { st with ops := st.ops ++ [o.op] }, by omega, by go_num, by go_num, HDN.out, HF.out, by simp [HLen.out], D10.out, T10.out.more (by omega), G10.out⟩
          case measure => simp [intOf]; omega
        · have D10 : Hid (Devs (w.heap.size + 1) w9 [(pd, { st with ops := st.ops ++ [o.op] }), (pf, St.few { st with ops := st.ops ++ [o.op] } keep)]) := by
            rw [Hid, few_snoc_ge o.op (by rw [HLen.out]; omega)]
            exact D9.out.weak
          go_wp2_with fail
          go_roundw
          case rel => exact ⟨n + 1, k - 1, { st with ops := st.ops ++ [o.op] }, by omega, by go_num, by go_num, HDN.out, HF.out, by simp [HLen.out], D10.out, T9.out.more (by omega), G9.out⟩
          case measure => simp [intOf]; omega
      · rw [reqE_not HF.out hz] at hd
        obtain ⟨v, HV⟩ : ∃ v, Hid (reqE st n1 o.op = v) := ⟨_, rfl⟩
        rw [HV.out] at he hz
        subst he
        have hvb : (v == 0) = false := by simpa using hz
        have D9 := Lib.hid hd.weak
        clear hd hb hkb hn1
        go_wp2_with fail
        go_roundw
        case rel => exact ⟨n, k - 1, _, by omega, rfl, by go_num, HDN.out, HF.out, HLen.out, D9.out, T9.out.more (by omega), G9.out⟩
        case measure => simp [intOf]; omega
    · obtain rfl : k = 0 := by omega
      go_wp2_with fail
      refine (Lose_D keep (-1) D7.out (by omega) (by omega)).mono ?_
      rintro e w8 ⟨rfl, hd, hb, _⟩
      have D8 := Lib.hid hd
      have G8 : Hid (w.grownBy w8 (some w.heap.size)) := g_low1 G7.out hb
      clear hd hb
      go_wp2_with fail
      refine (Restart_D D8.out (by simp [loseS, decideS])).mono ?_
      rintro e w9 ⟨rfl, hd, hb, _⟩
      rw [restart_lose] at hd
      have D9 := Lib.hid hd
      have G9 : Hid (w.grownBy w9 (some w.heap.size)) := g_low1 G8.out hb
      clear hd hb
      obtain ⟨r1, hr1⟩ := D9.out.dv (x := (pd, ⟨lossF st keep (-1), [], false, 0⟩)) (by simp)
      obtain ⟨r2, hr2⟩ := D9.out.dv (x := (pf, st.few keep)) (by simp)
      have HEq := Lib.hid (equal_true pd pf r1 r2 _ _ w9 hr1 hr2 (fun m => by rw [← first_now]; rfl) HDN.out.symm)
      clear hr1 hr2
      go_wp2_with fail
      refine HEq.out.mono ?_
      rintro e w10 ⟨rfl, hb⟩
      have G10 : Hid (w.grownBy w10 (some w.heap.size)) := g_below G9.out hb
      clear hb
      go_wp2_with fail
      go_ret
      exact ⟨rfl, law_end G10.out⟩
theorem law9F (A : Option Addr) (len c : Nat) (l : List Int) (e : l.length = len) (w : World) (hr : RdT w w.heap.size A l) (hl : len ≤ 9223372036854775807) :
    Calls Try.prog 9 #[.slice A len c] w (Gives (.bool true) w) := by
  subst e
  exact law9 A l c w hr hl
end Go.Proofs.Ytddjkkmdcdiofaa
