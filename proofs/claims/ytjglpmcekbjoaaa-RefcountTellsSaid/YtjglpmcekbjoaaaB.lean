/- Contracts: id, list, lists: what the tape makes. -/
import Derived.Test.YtjglpmcekbjoaaaA
namespace Go.Proofs.Ytjglpmcekbjoaaa
open Go.RowKit

abbrev ID := Int × Int
def encID (i : ID) : List Value := [.int .u64 i.1, .int .i64 i.2]
abbrev RdID (w : World) (x : Nat) (A : Option Addr) (l : List ID) : Prop := Rd encID 2 (0, 0) w x A l
/-- One of few IDs. -/
def Few (i : ID) : Prop := 1 ≤ i.1 ∧ i.1 ≤ 4 ∧ 1 ≤ i.2 ∧ i.2 ≤ 2
def sumZ (l : List ID) : Int := (l.map (·.2)).sum

def IdPost (x N : Nat) (w : World) (e : Ending) (w' : World) : Prop :=
  ∃ i : ID, Few i ∧ e = .returned (.agg #[.int .u64 i.1, .int .i64 i.2]) ∧ Tp w' x (N + 2) ∧ w.grownBy w' (some x)

set_option maxHeartbeats 1000000 in
theorem id_any (x N : Nat) (w : World) (hN : N ≤ 900000) (ht : Tp w x N) :
    Calls Try.prog 32 #[.pointer (some ⟨x, 0, none⟩)] w (IdPost x N w) := by
  have Ht := Lib.hid ht
  clear ht
  go_enter Try.func32, Try.ntmps32
  go_wp2_with fail
  refine (Next_any 4 x N _ (by omega) (by omega) (Ht.out.alloc _)).mono ?_
  rintro e w1 ⟨r1, hr1, rfl, ht1, hg1⟩
  have Ht1 := Lib.hid ht1
  obtain ⟨q1, q2, _⟩ := hr1
  have q3 := q2 (by omega)
  have hbx : Hid (IsB w1 w.heap.size 43 #[.int .u64 0, .int .i64 0]) := (IsB.new w 43 _).grown hg1 (fun e => by injection e with e; have := Ht.out.lt; omega)
  clear ht1 q2
  go_wp2_with fail
  refine (Next_any 2 x (N + 1) _ (by omega) (by omega) Ht1.out).mono ?_
  rintro e w2 ⟨r2, hr2, rfl, ht2, hg2⟩
  have Ht2 := Lib.hid ht2
  obtain ⟨p1, p2, _⟩ := hr2
  have p3 := p2 (by omega)
  clear ht2 p2
  have hxlt := Ht.out.lt
  have hbx2 : IsB w2 w.heap.size 43 #[.int .u64 0, .int .i64 0] := hbx.out.grown hg2 (fun e => by injection e with e; omega)
  have hc0 : w2.cell? ⟨w.heap.size, 0, none⟩ = some (.int .u64 0) := by rw [hbx2.cell]; rfl
  have hc1 : w2.cell? ⟨w.heap.size, 1, none⟩ = some (.int .i64 0) := by rw [hbx2.cell]; rfl
  have hf0 : w2.frozen? ⟨w.heap.size, 0, none⟩ = false := hbx2.frozen 0
  have hf1 : w2.frozen? ⟨w.heap.size, 1, none⟩ = false := hbx2.frozen 1
  clear hbx2
  go_wp2_with fail
  refine bodyPost_ret (v := .agg #[.int .u64 (1 + r1), .int .i64 (1 + r2)]) ?_ rfl ⟨(1 + r1, 1 + r2), ⟨by simp only; omega, by simp only; omega, by simp only; omega, by simp only; omega⟩, rfl, ?_, ?_⟩
  · simp [results, Try.results32, go_sem, hc0, hc1]
  · exact (Ht2.out.set_ (by simp; omega) _).set_ (by simp; omega) _
  · exact g_set (g_set (g_trans (g_trans (World.grownBy_alloc w _ _) hg1) hg2) (.inr (by simp)) _) (.inr (by simp)) _

theorem newAt (W : World) (t : TypeId) (cs : Array Value) (H : Nat) (hH : W.heap.size = H) : IsB (W.alloc (.cells cs t)) H t cs := hH ▸ IsB.new W t cs
theorem IsB.far {w : World} {g : Nat} {t : TypeId} {cs : Array Value} (h : IsB w g t cs) {p : Addr} (hp : g ≠ p.block) (u : Value) : IsB (w.setCell p u) g t cs := (Below.heap_setCell w p u g hp).trans h
theorem encID_len (i : ID) : (encID i).length = 2 := rfl
theorem encID_one (i : ID) : ∀ u ∈ encID i, u.oneCell' = true := by
  intro u hu
  simp [encID] at hu
  rcases hu with rfl | rfl <;> rfl
theorem info43 : (Try.prog.info? 43).map (fun i => (i.zero, i.size, i.bytes)) = some (some (.agg #[.int .u64 0, .int .i64 0]), 2, 16) := by kernel_rfl
theorem own_x {w w' : World} {base x : Nat} {e : TypeId} {size n : Nat} {v : Value} {xs : List Value} (h : w.ownsRow base e size v n xs) (hg : w.grownBy w' (some x)) (hx : x < base) : w'.ownsRow base e size v n xs :=
  h.kept hg (by
    cases hv : v.ownBlock with
    | none => exact .inl rfl
    | some k => exact .inr (fun e => by have := (h.lt k hv).1; injection e with e; omega))
theorem two_new (W : World) (x y : Value) (t : TypeId) (H : Nat) (hH : W.heap.size = H) : ∀ j u, [x, y][j]? = some u → (W.alloc (.cells #[x, y] t)).cell? ((⟨H, 0, none⟩ : Addr).add j) = some u := by
  subst hH
  intro j u hu
  have hc := fun i => (IsB.new W t #[x, y]).cell i
  match j, hu with
  | 0, hu => simp at hu; subst hu; simp [Addr.add, hc]
  | 1, hu => simp at hu; subst hu; simp [Addr.add, hc]
  | j + 2, hu => simp at hu
theorem sumZ_snoc (l : List ID) (i : ID) : sumZ (l ++ [i]) = sumZ l + i.2 := by simp [sumZ]
theorem sumZ_bound (l : List ID) (h : ∀ i ∈ l, Few i) : 0 ≤ sumZ l ∧ sumZ l ≤ 2 * l.length := by
  induction l with
  | nil => simp [sumZ]
  | cons i l ih =>
    have h1 := h i (by simp)
    have h2 := ih (fun j hj => h j (by simp [hj]))
    unfold Few at h1
    simp only [sumZ, List.map_cons, List.sum_cons, List.length_cons] at *
    omega

/-- A manifest of few chunks. -/
structure Man where
  size : Int
  ids : List ID
def FewM (wrong : Bool) (m : Man) : Prop := (∀ i ∈ m.ids, Few i) ∧ m.ids.length ≤ 5 ∧ (m.size = sumZ m.ids ∨ (wrong = true ∧ m.size = sumZ m.ids + 1))

def ListPost (wrong : Bool) (x N : Nat) (w : World) (e : Ending) (w' : World) : Prop :=
  ∃ (m : Man) (A : Option Addr) (c : Nat), FewM wrong m ∧ e = .returned (.agg #[.int .i64 m.size, .slice A m.ids.length c]) ∧ RdID w' x A m.ids ∧ m.ids.length ≤ c ∧ (∀ ad, A = some ad → w.heap.size ≤ ad.block ∧ ad.block < w'.heap.size) ∧ Tp w' x (N + 12) ∧ w.grownBy w' (some x)

def ListRel (x N : Nat) (w : World) (v6 : Value) (wr : World) : Prop :=
  ∃ (r : Int) (ids : List ID) (A : Option Addr) (c : Nat), v6 = .int .i64 r ∧ 0 ≤ r ∧ r + ids.length ≤ 5 ∧ IsB wr w.heap.size 38 #[.int .i64 0, .slice none 0 0] ∧ IsB wr (w.heap.size + 1) 38 #[.int .i64 (sumZ ids), .slice A ids.length c] ∧
    wr.ownsRow w.heap.size 43 2 (.slice A ids.length c) ids.length (ids.flatMap encID) ∧ (∀ i ∈ ids, Few i) ∧ Tp wr x (N + 1 + 2 * ids.length) ∧ w.grownBy wr (some x)

set_option maxHeartbeats 2000000 in
theorem list_any (wrong : Bool) (x N : Nat) (w : World) (hN : N ≤ 800000) (ht : Tp w x N) :
    Calls Try.prog 22 #[.pointer (some ⟨x, 0, none⟩), .bool wrong] w (ListPost wrong x N w) := by
  obtain ⟨i0, hi, hz0, hz1, hz2⟩ := info_parts info43
  have Ht := Lib.hid ht
  have hxlt := ht.lt
  clear ht
  go_enter Try.func22, Try.ntmps22
  go_wp2_with fail
  refine (Next_any 6 x N _ (by omega) (by omega) ((Ht.out.alloc _).alloc _)).mono ?_
  rintro e w1 ⟨r1, hr1, rfl, ht1, hg1⟩
  have Ht1 := Lib.hid ht1
  obtain ⟨q1, q2, _⟩ := hr1
  have q3 := q2 (by omega)
  have hb4 : Hid (IsB w1 w.heap.size 38 #[.int .i64 0, .slice none 0 0]) := ((IsB.new w 38 _).alloc _).grown hg1 (fun e => by injection e with e; omega)
  have hb5 : Hid (IsB w1 (w.heap.size + 1) 38 #[.int .i64 0, .slice none 0 0]) := (newAt (w.alloc (.cells #[.int .i64 0, .slice none 0 0] 38)) 38 _ _ (by simp)).grown hg1 (fun e => by injection e with e; omega)
  have hg01 : Hid (w.grownBy w1 (some x)) := g_trans (g_alloc (World.grownBy_alloc w _ _) _) hg1
  clear ht1 q2 hg1
  go_wp2_with fail
  go_loopw [6] (fun v6 wr => ListRel x N w v6 wr) (fun v6 _ => (intOf v6).toNat)
  case atStart => exact ⟨r1, [], none, 0, rfl, q1, by simp; omega, hb4.out, hb5.out, World.ownsRow_nil _ _ _ _, by simp, Ht1.out, hg01.out⟩
  case round =>
    obtain ⟨r, ids, A, c, rfl, hr0, hr5, h4, h5, hown, hfew, htp, hg⟩ := hrel
    have hsz := hg.size
    have hsum := sumZ_bound ids hfew
    obtain ⟨s0, s1⟩ := hsum
    obtain ⟨S, HS⟩ : ∃ S, Hid (sumZ ids = S) := ⟨_, rfl⟩
    rw [HS.out] at h5 s0 s1
    have H4 := Lib.hid h4
    have H5 := Lib.hid h5
    have Hown := Lib.hid hown
    have Hfew := Lib.hid hfew
    have Htp := Lib.hid htp
    have Hg := Lib.hid hg
    clear h4 h5 hown hfew htp hg
    by_cases hlt : 0 < r
    · go_wp2_with fail
      refine (id_any x _ _ (by omega) Htp.out).mono ?_
      rintro e w2 ⟨i, hfi, rfl, ht2, hg2⟩
      obtain ⟨i1, i2⟩ := i
      have Hfi := Lib.hid hfi
      obtain ⟨f1, f2, f3, f4⟩ := hfi
      simp only at f1 f2 f3 f4
      have K4 := H4.out.grown hg2 (fun e => by injection e with e; omega)
      have K5 := H5.out.grown hg2 (fun e => by injection e with e; omega)
      have Kown := own_x Hown.out hg2 hxlt
      have Kg := g_trans Hg.out hg2
      have ks := Kg.size
      have lt4 := K4.lt
      have lt5 := K5.lt
      have ne5 := K5.own_ne Kown (by decide)
      have ne4 := K4.own_ne Kown (by decide)
      have hc0 : w2.cell? ⟨w.heap.size + 1, 0, none⟩ = some (.int .i64 S) := by rw [K5.cell]; rfl
      have hc1 : w2.cell? ⟨w.heap.size + 1, 1, none⟩ = some (.slice A ids.length c) := by rw [K5.cell]; rfl
      have hf0 : w2.frozen? ⟨w.heap.size + 1, 0, none⟩ = false := K5.frozen 0
      have hf1 : w2.frozen? ⟨w.heap.size + 1, 1, none⟩ = false := K5.frozen 1
      have HK4 := Lib.hid K4
      have HK5 := Lib.hid K5
      have HKown := Lib.hid Kown
      have HKg := Lib.hid Kg
      have Ht2 := Lib.hid ht2
      have Hne5 := Lib.hid ne5
      have Hne4 := Lib.hid ne4
      clear K4 K5 Kown Kg ht2 hg2 ne5 ne4
      go_wp2_with (at_builtin; refine wpList_append_lies _ rfl _ _ _ rfl w.heap.size 43 i0 _ 2 16 Try.underlying36 hi hz0 hz1 hz2 rfl (by decide) _ ids.length _ rfl ((own_set HKown.out Hne5.out _).alloc _ |>.alloc _) ⟨w2.heap.size + 1, 0, none⟩ 1 1 [.int .u64 i1, .int .i64 i2] rfl rfl (two_new _ _ _ _ _ (by simp)) (encID_one (i1, i2)) (by omega) (by unfold maxLen; omega) (by omega) (by simp; omega) _ rfl ?_)
      intro g cap w4 hown4 hgrow hat hltg
      have L5 : IsB w4 (w.heap.size + 1) 38 #[.int .i64 (S + i2), .slice A ids.length c] := (((HK5.out.set_ 0 (.int .i64 (S + i2))).alloc _).alloc _).grown hgrow Hne5.out
      have L4 : IsB w4 w.heap.size 38 #[.int .i64 0, .slice none 0 0] := (((HK4.out.far (p := ⟨w.heap.size + 1, 0, none⟩) (by simp) (.int .i64 (S + i2))).alloc _).alloc _).grown hgrow Hne4.out
      have Lt : Tp w4 x (N + 1 + 2 * ids.length + 2) := (((Ht2.out.set_ (p := ⟨w.heap.size + 1, 0, none⟩) (by simp; omega) (.int .i64 (S + i2))).alloc _).alloc _).kept hgrow (fun k hk => by have := (HKown.out.lt k hk).1; omega)
      have Lg : w.grownBy w4 (some x) := g_own (g_alloc (g_alloc (g_set HKg.out (p := ⟨w.heap.size + 1, 0, none⟩) (.inr (by simp)) (.int .i64 (S + i2))) _) _) hgrow ((own_set HKown.out Hne5.out _).alloc _ |>.alloc _) (Nat.le_refl _)
      have ne := L5.own_ne hown4 (by decide)
      have hd0 : w4.cell? ⟨w.heap.size + 1, 1, none⟩ = some (.slice A ids.length c) := by rw [L5.cell]; rfl
      have he1 : w4.frozen? ⟨w.heap.size + 1, 1, none⟩ = false := L5.frozen 1
      have HL5 := Lib.hid L5
      have HL4 := Lib.hid L4
      have HLt := Lib.hid Lt
      have HLg := Lib.hid Lg
      have Hne := Lib.hid ne
      have Hown4 := Lib.hid hown4
      clear L5 L4 Lt Lg ne hown4 hgrow hat hc0 hc1 hf0 hf1
      go_wp2_with fail
      go_roundw
      case rel =>
        refine ⟨r - 1, ids ++ [(i1, i2)], some ⟨g, 0, none⟩, cap, rfl, by omega, by simp; omega, HL4.out.far (by simp) _, ?_, ?_, ?_, ?_, g_set HLg.out (.inr (by simp)) _⟩
        · rw [sumZ_snoc, HS.out, List.length_append]
          have := HL5.out.set_ 1 (.slice (some ⟨g, 0, none⟩) (ids.length + 1) cap)
          simpa using this
        · rw [List.length_append, List.flatMap_append]
          exact own_set Hown4.out Hne.out _
        · intro j hj
          rcases List.mem_append.1 hj with hj | hj
          · exact Hfew.out j hj
          · simp at hj; subst hj; exact Hfi.out
        · exact (HLt.out.set_ (by simp; omega) _).more (by simp; omega)
      case measure => simp [intOf]; omega
    · obtain rfl : r = 0 := by omega
      have hd4 := H4.out
      have lt4 := hd4.lt
      cases wrong with
      | false =>
        have hc4 : wr.cell? ⟨w.heap.size, 0, none⟩ = some (.int .i64 0) := by rw [H4.out.cell]; rfl
        have hc4' : wr.cell? ⟨w.heap.size, 1, none⟩ = some (.slice none 0 0) := by rw [H4.out.cell]; rfl
        have hf4 : wr.frozen? ⟨w.heap.size, 0, none⟩ = false := H4.out.frozen 0
        have hf4' : wr.frozen? ⟨w.heap.size, 1, none⟩ = false := H4.out.frozen 1
        have hc5 : wr.cell? ⟨w.heap.size + 1, 0, none⟩ = some (.int .i64 S) := by rw [H5.out.cell]; rfl
        have hc5' : wr.cell? ⟨w.heap.size + 1, 1, none⟩ = some (.slice A ids.length c) := by rw [H5.out.cell]; rfl
        clear hd4
        go_wp2_with fail
        refine bodyPost_ret (v := .agg #[.int .i64 S, .slice A ids.length c]) ?_ rfl ⟨⟨S, ids⟩, A, c, ⟨Hfew.out, by simp only; omega, .inl HS.out.symm⟩, rfl, ?_, own_cap Hown.out, ?_, ?_, ?_⟩
        · simp [results, Try.results22, go_sem, hc4, hc4']
        · exact (Rd.of_own encID_len (by omega) (own_set (own_set Hown.out (H4.out.own_ne Hown.out (by decide)) _) (H4.out.own_ne Hown.out (by decide)) _) hxlt).2
        · exact fun ad had => by subst had; exact (own_set (own_set Hown.out (H4.out.own_ne Hown.out (by decide)) _) (H4.out.own_ne Hown.out (by decide)) _).lt ad.block rfl
        · exact ((Htp.out.set_ (by simp; omega) _).set_ (by simp; omega) _).more (by omega)
        · exact g_set (g_set Hg.out (.inr (by simp)) _) (.inr (by simp)) _
      | true =>
        go_wp2_with fail
        refine (Next_any 6 x _ _ (by omega) (by omega) Htp.out).mono ?_
        rintro e w3 ⟨r3, hr3, rfl, ht3, hg3⟩
        have K4 := H4.out.grown hg3 (fun e => by injection e with e; omega)
        have K5 := H5.out.grown hg3 (fun e => by injection e with e; omega)
        have Kown := own_x Hown.out hg3 hxlt
        have Kg := g_trans Hg.out hg3
        have ks := Kg.size
        have l4 := K4.lt
        have l5 := K5.lt
        have hc4 : w3.cell? ⟨w.heap.size, 0, none⟩ = some (.int .i64 0) := by rw [K4.cell]; rfl
        have hc4' : w3.cell? ⟨w.heap.size, 1, none⟩ = some (.slice none 0 0) := by rw [K4.cell]; rfl
        have hf4 : w3.frozen? ⟨w.heap.size, 0, none⟩ = false := K4.frozen 0
        have hf4' : w3.frozen? ⟨w.heap.size, 1, none⟩ = false := K4.frozen 1
        have hc5 : w3.cell? ⟨w.heap.size + 1, 0, none⟩ = some (.int .i64 S) := by rw [K5.cell]; rfl
        have hc5' : w3.cell? ⟨w.heap.size + 1, 1, none⟩ = some (.slice A ids.length c) := by rw [K5.cell]; rfl
        have hf5 : w3.frozen? ⟨w.heap.size + 1, 0, none⟩ = false := K5.frozen 0
        have HK4 := Lib.hid K4
        have HK5 := Lib.hid K5
        have HKown := Lib.hid Kown
        have HKg := Lib.hid Kg
        have Ht3 := Lib.hid ht3
        clear K4 K5 Kown Kg ht3 hg3 hd4
        by_cases hr30 : r3 = 0
        · have hb0 : (r3 == 0) = true := by rw [beq_iff_eq]; exact hr30
          clear hr3 hr30
          go_wp2_with fail
          refine bodyPost_ret (v := .agg #[.int .i64 (S + 1), .slice A ids.length c]) ?_ rfl ⟨⟨S + 1, ids⟩, A, c, ⟨Hfew.out, by simp only; omega, .inr ⟨rfl, by simp only [HS.out]⟩⟩, rfl, ?_, own_cap Hown.out, ?_, ?_, ?_⟩
          · simp [results, Try.results22, go_sem, hc4, hc4']
          · exact (Rd.of_own encID_len (by omega) (own_set (own_set (own_set HKown.out (HK5.out.own_ne HKown.out (by decide)) _) (HK4.out.own_ne HKown.out (by decide)) _) (HK4.out.own_ne HKown.out (by decide)) _) hxlt).2
          · exact fun ad had => by subst had; exact (own_set (own_set (own_set HKown.out (HK5.out.own_ne HKown.out (by decide)) _) (HK4.out.own_ne HKown.out (by decide)) _) (HK4.out.own_ne HKown.out (by decide)) _).lt ad.block rfl
          · exact (((Ht3.out.set_ (by simp; omega) _).set_ (by simp; omega) _).set_ (by simp; omega) _).more (by omega)
          · exact g_set (g_set (g_set HKg.out (.inr (by simp)) _) (.inr (by simp)) _) (.inr (by simp)) _
        · have hb0 : (r3 == 0) = false := by rw [beq_eq_false_iff_ne]; exact hr30
          clear hr3 hr30
          go_wp2_with fail
          refine bodyPost_ret (v := .agg #[.int .i64 S, .slice A ids.length c]) ?_ rfl ⟨⟨S, ids⟩, A, c, ⟨Hfew.out, by simp only; omega, .inl HS.out.symm⟩, rfl, ?_, own_cap Hown.out, ?_, ?_, ?_⟩
          · simp [results, Try.results22, go_sem, hc4, hc4']
          · exact (Rd.of_own encID_len (by omega) (own_set (own_set HKown.out (HK4.out.own_ne HKown.out (by decide)) _) (HK4.out.own_ne HKown.out (by decide)) _) hxlt).2
          · exact fun ad had => by subst had; exact (own_set (own_set HKown.out (HK4.out.own_ne HKown.out (by decide)) _) (HK4.out.own_ne HKown.out (by decide)) _).lt ad.block rfl
          · exact ((Ht3.out.set_ (by simp; omega) _).set_ (by simp; omega) _).more (by omega)
          · exact g_set (g_set HKg.out (.inr (by simp)) _) (.inr (by simp)) _
end Go.Proofs.Ytjglpmcekbjoaaa
