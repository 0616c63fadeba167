/- Contracts: the reference's counts and Set. -/
import Derived.Test.YtahlccihjjhgfaaG
import Derived.Test.YtahlccihjjhgfaaU
import Derived.Test.YtahlccihjjhgfaaPR
import Derived.Test.YtahlccihjjhgfaaAR
import Derived.Shelf.Slices.In.SortNone2
import Derived.Sort.OwnSortedInts
namespace Go.Proofs.Ytahlccihjjhgfaa
open Go.RowKit Go.Shelf Go.Sort

theorem counts1 (x y : Bool) (w : World) : Calls Try.prog 53 #[.bool x, .bool y, .int .i64 1] w fun e w' => e = .returned (.bool (orB x y)) ∧ w = w' := by
  cases x
  all_goals
    go_enter Try.func53, Try.ntmps53
    go_wp2
    go_ret
    exact ⟨rfl, rfl⟩
theorem counts2 (x y : Bool) (w : World) : Calls Try.prog 53 #[.bool x, .bool y, .int .i64 2] w fun e w' => e = .returned (.bool (andB x y)) ∧ w = w' := by
  cases x
  all_goals
    go_enter Try.func53, Try.ntmps53
    go_wp2
    go_ret
    exact ⟨rfl, rfl⟩
theorem counts3 (x y : Bool) (w : World) : Calls Try.prog 53 #[.bool x, .bool y, .int .i64 3] w fun e w' => e = .returned (.bool (notB x y)) ∧ w = w' := by
  cases x
  all_goals
    go_enter Try.func53, Try.ntmps53
    go_wp2
    go_ret
    exact ⟨rfl, rfl⟩

theorem own_slice {w : World} {base : Nat} {e : TypeId} {size n : Nat} {v : Value} {xs : List Value} (h : w.ownsRow base e size v n xs) : ∃ A c, v = .slice A n c := by
  rcases h.2 with ⟨rfl, rfl⟩ | ⟨g, cap, cur, rfl, _⟩
  · exact ⟨none, 0, rfl⟩
  · exact ⟨_, cap, rfl⟩

def SortIPost (base : Nat) (A : Option Addr) (zs : List Int) (w : World) (e : Ending) (w' : World) : Prop :=
  e = .returned (.tuple #[]) ∧ RdI w' w'.heap.size A zs ∧ Below base w w'

theorem sortInts_any (base : Nat) (A : Option Addr) (cap : Nat) (zs : List Int) (w : World) (h : w.ownsRow base 3 1 (.slice A zs.length cap) zs.length (zs.map (Value.int .i64))) (hn : zs.length ≤ 4294967296) :
    Calls Try.prog 52 #[.slice A zs.length cap] w (SortIPost base A (sortI zs) w) := by
  by_cases h0 : 0 < zs.length
  · rcases h.2 with ⟨_, hz⟩ | ⟨g, cap', cur, hv, hbase, hb, h1, h2, h3, h4⟩
    · omega
    · injection hv with e1 e2 e3
      subst e1 e3
      have hg := (Array.getElem?_eq_some_iff.1 hb).1
      have hH : Holds (Value.int .i64) w g 0 zs.toArray := holds_of_blockI hb (by simpa using h4)
      refine (Any.sort_Ints Try.lay52 g 0 cap zs w hH hg (by omega)).mono ?_
      rintro e w' ⟨rfl, n, os, rfl⟩
      have hl : (sortI zs).length = zs.length := sortI_length zs
      have own := ownsRow_sortedI (w := w) (base := base) (n := n) (os := os) (ss := zs) (ts := sortI zs) hl hbase hb h1 h2 h3
      have gr := grownBy_sortedI (w := w) (g := g) (n := n) (os := os) (sortI zs).toArray
      refine ⟨rfl, (RdI.of_own own).2, (Below.refl _ _).grown gr (by omega) (fun k hk => by cases hk; exact hbase)⟩
  · have : zs = [] := List.eq_nil_of_length_eq_zero (by omega)
    subst this
    exact (Any.sort_Ints_none Try.lay52 A cap w).mono fun _ _ ⟨he, hw⟩ => ⟨he, fun hp => by simp [sortI] at hp, hw ▸ Below.refl _ _⟩

theorem RdR.opt {w : World} {B : Nat} {A : Option Addr} {xs : RL} (h : RdR w B A xs) : (A = none → xs.length = 0) ∧ ∀ ad, A = some ad → ∀ j u, (flatR xs)[j]? = some u → w.cell? (ad.add j) = some u := by
  refine ⟨fun e => ?_, fun ad e j u hu => ?_⟩
  · rcases Nat.eq_zero_or_pos xs.length with h0 | h0
    · exact h0
    · obtain ⟨b, o, e', _⟩ := h h0
      rw [e] at e'
      cases e'
  · have hj : j < xs.length * 2 := by
      have := (List.getElem?_eq_some_iff.1 hu).1
      rwa [flatR_length] at this
    obtain ⟨b, o, e', hb, hc⟩ := h (by omega)
    rw [e] at e'
    injection e' with e'
    subst e'
    subst e
    exact h.flat j u hu

def ClonePost' (T : RL) (w : World) (e : Ending) (w' : World) : Prop :=
  ∃ A c, e = .returned (.slice A T.length c) ∧ RdR w' w'.heap.size A T ∧ Below w.heap.size w w'

set_option maxRecDepth 100000 in
set_option maxHeartbeats 4000000 in
theorem Set_any (A B : Option Addr) (ca cb : Nat) (a b : RL) (kind : Int) (g : Bool → Bool → Bool) (w : World) (hra : RdR w w.heap.size A a) (hrb : RdR w w.heap.size B b) (hla : a.length ≤ 1000) (hlb : b.length ≤ 1000)
    (hsa : ∀ x ∈ a, Snd x) (hsb : ∀ x ∈ b, Snd x) (hcounts : ∀ x y W, Calls Try.prog 53 #[.bool x, .bool y, .int .i64 kind] W fun e w' => e = .returned (.bool (g x y)) ∧ W = w') :
    Calls Try.prog 45 #[.slice A a.length ca, .slice B b.length cb, .int .i64 kind] w (ClonePost' (refSet a b g) w) := by
  obtain ⟨i0, hi, hz0, hz1, hz2⟩ := info_parts info29
  obtain ⟨j0, hj, hy0, hy1, hy2⟩ := info_parts info3
  have Hra := Lib.hid hra
  have Hrb := Lib.hid hrb
  have Hsa := Lib.hid hsa
  have Hsb := Lib.hid hsb
  have Hcounts := Lib.hid hcounts
  clear hra hrb hsa hsb hcounts
  go_enter Try.func45, Try.ntmps45
  go_wp2_with (at_builtin; refine wpList_append_opt rfl _ _ _ rfl w.heap.size 29 i0 _ 2 16 Try.underlying22 hi hz0 hz1 hz2 rfl (by decide) _ 0 [] rfl (World.ownsRow_nil _ _ _ _) A a.length ca (flatR a) rfl (flatR_length a) Hra.out.opt.1 Hra.out.opt.2 (flatR_all a) (by unfold maxLen; omega) (by omega) (Nat.le_refl _) ?_)
  intro v1 w1 hown1 hg1
  have hb1 : Below w.heap.size w w1 := (Below.refl _ w).grown hg1 (Nat.le_refl _) (fun k hk => by simp [Value.ownBlock] at hk)
  have Hown1 := Lib.hid hown1
  clear hown1 hg1
  go_wp2_with (at_builtin; refine wpList_append_opt rfl _ _ _ rfl w.heap.size 29 i0 _ 2 16 Try.underlying22 hi hz0 hz1 hz2 rfl (by decide) _ a.length _ rfl Hown1.out B b.length cb (flatR b) rfl (flatR_length b) Hrb.out.opt.1 (Hrb.out.on hb1).opt.2 (flatR_all b) (by unfold maxLen; omega) (by omega) hb1.size ?_)
  intro v2 w2 hown2 hg2
  have hb2 : Below w.heap.size w w2 := hb1.grown hg2 hb1.size (fun k hk => (Hown1.out.lt k hk).1)
  obtain ⟨A2, c2, rfl⟩ := own_slice hown2
  rw [← flatR_append] at hown2
  have Hr2 := Lib.hid (RdR.of_own hown2).2
  have hn2 : a.length + b.length = (a ++ b).length := by simp
  have Hsl : Hid (∀ x ∈ a ++ b, Snd x) := fun x hx => by
    rcases List.mem_append.1 hx with hx | hx
    · exact Hsa.out x hx
    · exact Hsb.out x hx
  rw [hn2]
  obtain ⟨l, HL⟩ : ∃ l, Hid (a ++ b = l) := ⟨_, rfl⟩
  have hl2000 : l.length ≤ 2000 := by rw [← HL.out]; simp; omega
  rw [HL.out] at Hr2 Hsl ⊢
  clear hown2 hg2 hn2 Hown1
  go_wp2_with fail
  go_loopw [8, 22] (fun v i wr => ∃ (k : Nat) (A3 : Option Addr) (n3 c3 : Nat), k ≤ l.length ∧ i = .int .i64 k ∧ v = .slice A3 n3 c3 ∧ wr.ownsRow w2.heap.size 3 1 (.slice A3 n3 c3) n3 ((endsL (l.take k)).map (Value.int .i64)) ∧ Below w2.heap.size w2 wr) (fun _ i _ => l.length - (intOf i).toNat)
  case atStart => exact ⟨0, none, 0, 0, Nat.zero_le _, rfl, rfl, World.ownsRow_nil _ _ _ _, Below.refl _ _⟩
  case round =>
    obtain ⟨wo, rfl⟩ : ∃ wo : World, wo = wr := ⟨_, rfl⟩
    obtain ⟨k, A3, n3, c3, hk, rfl, rfl, hown3, hb3⟩ := hrel
    have hel : (endsL (l.take k)).length ≤ 2 * k := by
      rw [endsL_length, List.length_take]
      omega
    obtain ⟨M, HM⟩ : ∃ M, Hid (endsL (l.take k) = M) := ⟨_, rfl⟩
    rw [HM.out] at hown3 hel
    have hn3 : n3 = M.length := (RdI.of_own hown3).1
    subst hn3
    have Hown3 := Lib.hid hown3
    clear hown3
    have hsz3 := hb3.size
    by_cases hlt : k < l.length
    · obtain ⟨b', o, rfl, hbB, hcl⟩ := Hr2.out (by omega)
      have HN : Hid (endsL (l.take (k + 1)) = M ++ [(l.getD k (0, 0)).1, (l.getD k (0, 0)).2 + 1]) := by
        show endsL (l.take (k + 1)) = _
        rw [endsL_take hlt, HM.out]
      have hs : Snd (l.getD k (0, 0)) := Hsl.out _ (by rw [List.getD_eq_getElem?_getD, List.getElem?_eq_getElem hlt]; exact List.getElem_mem hlt)
      obtain ⟨a1, a2, HA⟩ : ∃ a1 a2, Hid (l.getD k (0, 0) = (a1, a2)) := ⟨_, _, rfl⟩
      rw [HA.out] at HN hs
      obtain ⟨g1, g2, g3⟩ := hs
      simp only at g1 g2 g3
      have hc0 : wo.cell? ⟨b', o + k * 2, none⟩ = some (.int .i64 a1) := by rw [hb3.cell (p := ⟨b', o + k * 2, none⟩) hbB, (hcl k hlt).1, HA.out]
      have hc1 : wo.cell? ⟨b', o + k * 2 + 1, none⟩ = some (.int .i64 a2) := by rw [hb3.cell (p := ⟨b', o + k * 2 + 1, none⟩) hbB, (hcl k hlt).2, HA.out]
      clear hcl
      go_wp2_with (at_builtin; refine wpList_append_lies _ rfl _ _ _ rfl w2.heap.size 3 j0 _ 1 8 Try.underlying35 hj hy0 hy1 hy2 rfl (by decide) _ M.length _ rfl (Hown3.out.alloc _ |>.alloc _) ⟨wo.heap.size + 1, 0, none⟩ 2 2 [.int .i64 a1, .int .i64 (a2 + 1)] rfl rfl (two_new _ _ _ _ _ (by simp)) (two_one _ _) (by omega) (by unfold maxLen; omega) (by omega) (by simp; omega) _ rfl ?_)
      intro g' cap' w4 hown5 hgrow2 hat2 hltg2
      have hb24 : Below w2.heap.size w2 w4 := ((hb3.alloc hb3.size _).alloc (by simp; omega) _).grown hgrow2 (by simp; omega) (fun k hk => (Hown3.out.lt k hk).1)
      have Hown5 := Lib.hid hown5
      clear hown5 hgrow2 hat2
      go_wp2_with fail
      go_roundw
      case rel =>
        refine ⟨k + 1, some ⟨g', 0, none⟩, M.length + 2, cap', by omega, by go_num, rfl, ?_, hb24⟩
        rw [HN.out, List.map_append]
        exact Hown5.out
      case measure => simp [intOf]; omega
    · obtain rfl : k = l.length := by omega
      have HM2 : Hid (endsL l = M) := by have h8 := HM.out; rwa [List.take_length] at h8
      go_wp2_with fail
      refine (sortInts_any _ _ _ M wo Hown3.out (by omega)).mono ?_
      rintro e w5 ⟨rfl, hr5, hb5⟩
      have hb25 : Below w2.heap.size w2 w5 := hb3.trans hb5
      have hb05 := hb2.trans (hb25.mono hb2.size)
      have Hr5 := Lib.hid hr5
      have hEl := sortI_length M
      have Hbd : Hid (∀ y ∈ sortI M, 1 ≤ y ∧ y ≤ 1073741825) := by rw [← HM2.out, ← HL.out]; exact ends_bound Hsa.out Hsb.out
      have HI : Hid (∀ k, k ≤ (sortI M).length → Inv2 (sortI M) a b g k (setTo (sortI M) a b g k)) := by
        have hE := sortI_sorted M
        have hin : ∀ x ∈ a ++ b, x.1 ∈ sortI M ∧ x.2 + 1 ∈ sortI M := fun x hx => ⟨mem_sortI.2 (by rw [← HM2.out, ← HL.out]; exact mem_ends.2 ⟨x, hx, .inl rfl⟩), mem_sortI.2 (by rw [← HM2.out, ← HL.out]; exact mem_ends.2 ⟨x, hx, .inr rfl⟩)⟩
        exact inv2 (a := a) (b := b) (g := g) hE Hbd.out (fun x hx => hin x (by simp [hx])) (fun x hx => hin x (by simp [hx]))
      have HF : Hid (setTo (sortI M) a b g M.length = refSet a b g) := by
        show setTo (sortI M) a b g M.length = refSet a b g
        rw [refSet, HL.out, HM2.out]
      obtain ⟨E, HE⟩ : ∃ E, Hid (sortI M = E) := ⟨_, rfl⟩
      rw [HE.out] at Hr5 hEl Hbd HI HF
      rw [← hEl] at HF hel ⊢
      clear hEl
      replace Hra := Lib.hid (Hra.out.on hb05)
      replace Hrb := Lib.hid (Hrb.out.on hb05)
      clear hr5 hb5 hb3 hsz3 hb25 hb1 Hown3
      go_wp2_with fail
      go_loopw [11, 39] (fun v i wr => ∃ (k : Nat) (A6 : Option Addr) (n6 c6 : Nat), k ≤ E.length ∧ i = .int .i64 k ∧ v = .slice A6 n6 c6 ∧ wr.ownsRow w5.heap.size 29 2 (.slice A6 n6 c6) n6 (flatR (setTo E a b g k)) ∧ Below w5.heap.size w5 wr) (fun _ i _ => E.length - (intOf i).toNat)
      case atStart => exact ⟨0, none, 0, 0, Nat.zero_le _, rfl, rfl, World.ownsRow_nil _ _ _ _, Below.refl _ _⟩
      case round =>
        obtain ⟨k, A6, n6, c6, hk, rfl, rfl, hown6, hb6⟩ := hrel
        have I := HI.out k hk
        obtain ⟨S, HS⟩ : ∃ S, Hid (setTo E a b g k = S) := ⟨_, rfl⟩
        rw [HS.out] at hown6 I
        have hn6 : n6 = S.length := (RdR.of_own hown6).1
        subst hn6
        have hSl := canon_len I.cs
        have Hown6 := Lib.hid hown6
        have HI1 := Lib.hid I
        clear hown6 I
        have hsz6 := hb6.size
        by_cases hlt : k < E.length
        · obtain ⟨bE, oE, rfl, hbE, hcE⟩ := Hr5.out (by omega)
          obtain ⟨e0, HE0⟩ : ∃ e0, Hid (E.getD k 0 = e0) := ⟨_, rfl⟩
          have hc0 : wr.cell? ⟨bE, oE + k, none⟩ = some (.int .i64 e0) := by rw [hb6.cell (p := ⟨bE, oE + k, none⟩) hbE, hcE k hlt, HE0.out]
          have hbd0 := Hbd.out (E.getD k 0) (getD_mem hlt)
          rw [HE0.out] at hbd0
          obtain ⟨q1, q2⟩ := hbd0
          have HN : Hid (setTo E a b g (k + 1) = if k + 1 = E.length ∨ E.getD (k + 1) 0 = E.getD k 0 ∨ g (a.any (inR (E.getD k 0))) (b.any (inR (E.getD k 0))) = false then setTo E a b g k else ext (setTo E a b g k) (E.getD k 0, E.getD (k + 1) 0 - 1)) := rfl
          rw [HS.out, HE0.out] at HN
          by_cases hkl' : k + 1 = E.length
          · have hkl : ((k : Int) + 1 == (E.length : Int)) = true := by rw [beq_iff_eq]; omega
            rw [if_pos (.inl hkl')] at HN
            clear hkl' hcE
            go_wp2_with fail
            go_roundw
            case rel =>
              refine ⟨k + 1, A6, S.length, c6, by omega, by go_num, rfl, ?_, hb6⟩
              rw [HN.out]
              exact Hown6.out
            case measure => simp [intOf]; omega
          · have hkl : ((k : Int) + 1 == (E.length : Int)) = false := by rw [beq_eq_false_iff_ne]; omega
            have hk1 : k + 1 < E.length := by omega
            obtain ⟨e1, HE1⟩ : ∃ e1, Hid (E.getD (k + 1) 0 = e1) := ⟨_, rfl⟩
            have hc1 : wr.cell? ⟨bE, oE + (k + 1), none⟩ = some (.int .i64 e1) := by rw [hb6.cell (p := ⟨bE, oE + (k + 1), none⟩) hbE, hcE (k + 1) hk1, HE1.out]
            have HcE1 : Hid (w5.cell? ⟨bE, oE + (k + 1), none⟩ = some (.int .i64 e1)) := by
              show _ = _
              rw [hcE (k + 1) hk1, HE1.out]
            have hbd1 := Hbd.out (E.getD (k + 1) 0) (getD_mem hk1)
            rw [HE1.out] at hbd1 HN
            obtain ⟨q3, q4⟩ := hbd1
            have hle01 : e0 ≤ e1 := by rw [← HE0.out, ← HE1.out, ← HE.out]; exact getD_le (sortI_sorted M) (by omega) (by rw [HE.out]; exact hk1)
            clear hcE
            by_cases he : e1 = e0
            · have heb : (e1 == e0) = true := by rw [beq_iff_eq]; exact he
              rw [if_pos (.inr (.inl he))] at HN
              have HH := Lib.hid he
              clear hkl' he
              go_wp2_with fail
              go_roundw
              case rel =>
                refine ⟨k + 1, A6, S.length, c6, by omega, by go_num, rfl, ?_, hb6⟩
                rw [HN.out]
                exact Hown6.out
              case measure => simp [intOf]; omega
            · have heb : (e1 == e0) = false := by rw [beq_eq_false_iff_ne]; exact he
              obtain ⟨x, HX⟩ : ∃ x, Hid (a.any (inR e0) = x) := ⟨_, rfl⟩
              obtain ⟨y, HY⟩ : ∃ y, Hid (b.any (inR e0) = y) := ⟨_, rfl⟩
              rw [HX.out, HY.out] at HN
              have CG := Lib.hid (fun W => Hcounts.out x y W)
              obtain ⟨v, HV⟩ : ∃ v, Hid (g x y = v) := ⟨_, rfl⟩
              rw [HV.out] at HN CG
              have HNE := Lib.hid he
              have hlt01 : e0 < e1 := by omega
              cases v with
              | false =>
                rw [if_pos (.inr (.inr rfl))] at HN
                clear hkl' he
                go_wp2_with fail
                refine (In_at _ _ a e0 _ (Hra.out.on hb6) (by omega) x HX.out).mono ?_
                rintro e w7 ⟨rfl, hb7⟩
                have hb57 := hb6.trans (hb7.mono hb6.size)
                have Hown7 := Lib.hid (Hown6.out.kept (only_of_below hb7 none) (by cases A6 <;> simp [Value.ownBlock]))
                clear hb7
                go_wp2_with fail
                refine (In_at _ _ b e0 _ (Hrb.out.on hb57) (by omega) y HY.out).mono ?_
                rintro e w8 ⟨rfl, hb8⟩
                have hb58 := hb57.trans (hb8.mono hb57.size)
                have Hown8 := Lib.hid (Hown7.out.kept (only_of_below hb8 none) (by cases A6 <;> simp [Value.ownBlock]))
                have hs58 := hb58.size
                clear hb8
                go_wp2_with fail
                refine (CG.out _).mono ?_
                rintro e w9 ⟨rfl, rfl⟩
                go_wp2_with fail
                go_roundw
                case rel =>
                  refine ⟨k + 1, A6, S.length, c6, by omega, by go_num, rfl, ?_, hb58⟩
                  rw [HN.out]
                  exact Hown8.out
                case measure => simp [intOf]; omega
              | true =>
                rw [if_neg (by rintro (h | h | h); exact hkl' h; exact HNE.out h; cases h)] at HN
                have HLS : Hid (∀ x ∈ S, x.2 < e0) := fun x hx => by have := HI1.out.ns x hx k (Nat.le_refl _) hlt; rwa [HE0.out] at this
                clear hkl' he
                by_cases hS0 : 0 < S.length
                · obtain ⟨T, ⟨l1, l2⟩, hST⟩ := snoc_of hS0
                  have hl2 : l2 < e0 := HLS.out (l1, l2) (by rw [hST]; simp)
                  have hls := HI1.out.cs.1 (l1, l2) (by rw [hST]; simp)
                  obtain ⟨p1, p2, p3⟩ := hls
                  simp only at p1 p2 p3
                  have HST := Lib.hid hST
                  obtain ⟨m, Hm⟩ : ∃ m, Hid (T.length = m) := ⟨_, rfl⟩
                  have HSm : Hid (S.length = m + 1) := by show S.length = m + 1; rw [hST]; simp [Hm.out]
                  rw [HSm.out] at Hown6 hSl hS0 ⊢
                  obtain ⟨g6, cap6, hv6, hb66, hlt66⟩ := Hown6.out.form (by omega)
                  injection hv6 with e1' e2' e3'
                  subst e1'
                  clear e2' e3' hST cap6
                  have hd : decide (0 < m + 1) = true := by simp
                  by_cases hnear : l2 + 1 = e0
                  · have hnb : (l2 + 1 == e0) = true := by rw [beq_iff_eq]; exact hnear
                    have HNR : Hid (ext S (e0, e1 - 1) = T ++ [(l1, e1 - 1)]) := by
                      show ext S (e0, e1 - 1) = _
                      rw [HST.out, ext_near _ _ _ (by simp only; omega)]
                      have : max l2 (e1 - 1) = e1 - 1 := by omega
                      simp only [this]
                    clear hnear
                    go_wp2_with fail
                    refine (In_at _ _ a e0 _ (Hra.out.on hb6) (by omega) x HX.out).mono ?_
                    rintro e w7 ⟨rfl, hb7⟩
                    have hb57 := hb6.trans (hb7.mono hb6.size)
                    have Hown7 := Lib.hid (Hown6.out.kept (only_of_below hb7 none) (by simp [Value.ownBlock]))
                    clear hb7
                    go_wp2_with fail
                    refine (In_at _ _ b e0 _ (Hrb.out.on hb57) (by omega) y HY.out).mono ?_
                    rintro e w8 ⟨rfl, hb8⟩
                    have hb58 := hb57.trans (hb8.mono hb57.size)
                    have Hown8 := Lib.hid (Hown7.out.kept (only_of_below hb8 none) (by simp [Value.ownBlock]))
                    have hs58 := hb58.size
                    clear hb8
                    go_wp2_with fail
                    refine (CG.out _).mono ?_
                    rintro e w9 ⟨rfl, rfl⟩
                    have hcl : w8.cell? ⟨g6, m * 2 + 1, none⟩ = some (.int .i64 l2) := by
                      rw [Hown8.out.cellAt _ (by omega), flatR_snd _ _ (by rw [HSm.out]; omega), HST.out, List.getD_eq_getElem?_getD, ← Hm.out]
                      simp
                    have hfz : w8.frozen? ⟨g6, m * 2 + 1, none⟩ = false := Hown8.out.frozenAt _
                    have hg8 : g6 < w8.heap.size := (Hown8.out.lt g6 rfl).2
                    have hgn : g6 ≠ w8.heap.size := by omega
                    have hcE8 : w8.cell? ⟨bE, oE + (k + 1), none⟩ = some (.int .i64 e1) := by rw [hb58.cell (p := ⟨bE, oE + (k + 1), none⟩) hbE]; exact HcE1.out
                    go_wp2_with fail
                    go_roundw
                    case rel =>
                      have hst := Hown8.out.stored (m * 2 + 1) (.int .i64 (e1 - 1))
                      rw [HST.out, ← Hm.out, flatR_set] at hst
                      refine ⟨k + 1, some ⟨g6, 0, none⟩, T.length + 1, c6, by omega, by go_num, by rw [Hm.out], ?_, ?_⟩
                      · rw [HN.out, HNR.out, ← Hm.out]
                        exact hst.1.alloc _
                      · rw [← Hm.out]
                        exact (hb58.grown hst.2 hb58.size (fun q hq => by cases hq; exact hb66)).alloc (by simp; omega) _
                    case measure => simp [intOf]; omega
                  · have hnb : (l2 + 1 == e0) = false := by rw [beq_eq_false_iff_ne]; exact hnear
                    have HNR : Hid (ext S (e0, e1 - 1) = S ++ [(e0, e1 - 1)]) := by
                      show ext S (e0, e1 - 1) = _
                      rw [HST.out, ext_far _ _ _ (by simp only; omega)]
                    clear hnear
                    go_wp2_with fail
                    refine (In_at _ _ a e0 _ (Hra.out.on hb6) (by omega) x HX.out).mono ?_
                    rintro e w7 ⟨rfl, hb7⟩
                    have hb57 := hb6.trans (hb7.mono hb6.size)
                    have Hown7 := Lib.hid (Hown6.out.kept (only_of_below hb7 none) (by simp [Value.ownBlock]))
                    clear hb7
                    go_wp2_with fail
                    refine (In_at _ _ b e0 _ (Hrb.out.on hb57) (by omega) y HY.out).mono ?_
                    rintro e w8 ⟨rfl, hb8⟩
                    have hb58 := hb57.trans (hb8.mono hb57.size)
                    have Hown8 := Lib.hid (Hown7.out.kept (only_of_below hb8 none) (by simp [Value.ownBlock]))
                    have hs58 := hb58.size
                    clear hb8
                    go_wp2_with fail
                    refine (CG.out _).mono ?_
                    rintro e w9 ⟨rfl, rfl⟩
                    have hcl : w8.cell? ⟨g6, m * 2 + 1, none⟩ = some (.int .i64 l2) := by
                      rw [Hown8.out.cellAt _ (by omega), flatR_snd _ _ (by rw [HSm.out]; omega), HST.out, List.getD_eq_getElem?_getD, ← Hm.out]
                      simp
                    have hg8 : g6 < w8.heap.size := (Hown8.out.lt g6 rfl).2
                    have hgn : g6 ≠ w8.heap.size := by omega
                    have hcE8 : w8.cell? ⟨bE, oE + (k + 1), none⟩ = some (.int .i64 e1) := by rw [hb58.cell (p := ⟨bE, oE + (k + 1), none⟩) hbE]; exact HcE1.out
                    go_wp2_with (at_builtin; refine wpList_append_lies _ rfl _ _ _ rfl w5.heap.size 29 i0 _ 2 16 Try.underlying22 hi hz0 hz1 hz2 rfl (by decide) _ (m + 1) _ rfl (Hown8.out.alloc _ |>.alloc _) ⟨w8.heap.size + 1, 0, none⟩ 1 1 [.int .i64 e0, .int .i64 (e1 - 1)] rfl rfl (two_new _ _ _ _ _ (by simp)) (two_one _ _) (by omega) (by unfold maxLen; omega) (by omega) (by simp; omega) _ rfl ?_)
                    intro g' cap' w10 hown10 hgrow10 hat10 hlt10
                    have hb510 : Below w5.heap.size w5 w10 := ((hb58.alloc hb58.size _).alloc (by simp; omega) _).grown hgrow10 (by simp; omega) (fun q hq => (Hown8.out.lt q hq).1)
                    have Hown10 := Lib.hid hown10
                    clear hown10 hgrow10 hat10
                    go_wp2_with fail
                    go_roundw
                    case rel =>
                      refine ⟨k + 1, some ⟨g', 0, none⟩, m + 1 + 1, cap', by omega, by go_num, rfl, ?_, hb510⟩
                      rw [HN.out, HNR.out, flatR_append]
                      exact Hown10.out
                    case measure => simp [intOf]; omega
                · have hS00 : S.length = 0 := Nat.eq_zero_of_not_pos hS0
                  have HS00 := Lib.hid hS00
                  have hd : decide (0 < S.length) = false := by rw [hS00]; rfl
                  clear hS00
                  have HNR : Hid (ext S (e0, e1 - 1) = S ++ [(e0, e1 - 1)]) := by
                    show ext S (e0, e1 - 1) = _
                    rw [List.eq_nil_of_length_eq_zero HS00.out]
                    rfl
                  go_wp2_with fail
                  refine (In_at _ _ a e0 _ (Hra.out.on hb6) (by omega) x HX.out).mono ?_
                  rintro e w7 ⟨rfl, hb7⟩
                  have hb57 := hb6.trans (hb7.mono hb6.size)
                  have Hown7 := Lib.hid (Hown6.out.kept (only_of_below hb7 none) (by cases A6 <;> simp [Value.ownBlock]))
                  clear hb7
                  go_wp2_with fail
                  refine (In_at _ _ b e0 _ (Hrb.out.on hb57) (by omega) y HY.out).mono ?_
                  rintro e w8 ⟨rfl, hb8⟩
                  have hb58 := hb57.trans (hb8.mono hb57.size)
                  have Hown8 := Lib.hid (Hown7.out.kept (only_of_below hb8 none) (by cases A6 <;> simp [Value.ownBlock]))
                  have hs58 := hb58.size
                  clear hb8
                  go_wp2_with fail
                  refine (CG.out _).mono ?_
                  rintro e w9 ⟨rfl, rfl⟩
                  have hcE8 : w8.cell? ⟨bE, oE + (k + 1), none⟩ = some (.int .i64 e1) := by rw [hb58.cell (p := ⟨bE, oE + (k + 1), none⟩) hbE]; exact HcE1.out
                  go_wp2_with (at_builtin; refine wpList_append_lies _ rfl _ _ _ rfl w5.heap.size 29 i0 _ 2 16 Try.underlying22 hi hz0 hz1 hz2 rfl (by decide) _ S.length _ rfl (Hown8.out.alloc _ |>.alloc _) ⟨w8.heap.size + 1, 0, none⟩ 1 1 [.int .i64 e0, .int .i64 (e1 - 1)] rfl rfl (two_new _ _ _ _ _ (by simp)) (two_one _ _) (by omega) (by unfold maxLen; omega) (by omega) (by simp; omega) _ rfl ?_)
                  intro g' cap' w10 hown10 hgrow10 hat10 hlt10
                  have hb510 : Below w5.heap.size w5 w10 := ((hb58.alloc hb58.size _).alloc (by simp; omega) _).grown hgrow10 (by simp; omega) (fun q hq => (Hown8.out.lt q hq).1)
                  have Hown10 := Lib.hid hown10
                  clear hown10 hgrow10 hat10
                  go_wp2_with fail
                  go_roundw
                  case rel =>
                    refine ⟨k + 1, some ⟨g', 0, none⟩, S.length + 1, cap', by omega, by go_num, rfl, ?_, hb510⟩
                    rw [HN.out, HNR.out, flatR_append]
                    exact Hown10.out
                  case measure => simp [intOf]; omega
        · obtain rfl : k = E.length := by omega
          go_wp2_with fail
          go_ret
          have e : S = refSet a b g := by rw [← HS.out, HF.out]
          rw [← e]
          exact ⟨A6, c6, rfl, (RdR.of_own Hown6.out).2, hb05.trans (hb6.mono hb05.size)⟩
end Go.Proofs.Ytahlccihjjhgfaa
