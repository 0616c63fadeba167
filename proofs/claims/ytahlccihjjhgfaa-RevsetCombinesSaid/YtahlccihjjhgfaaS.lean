/- Contracts: combine, at the three functions that are handed to it. -/
import Derived.Test.YtahlccihjjhgfaaR
namespace Go.Proofs.Ytahlccihjjhgfaa
open Go.RowKit

def CombPost (g : Bool → Bool → Bool) (a b : RL) (w : World) (e : Ending) (w' : World) : Prop :=
  ∃ (T : RL) (A : Option Addr) (c : Nat), e = .returned (.tuple #[.slice A T.length c, .int .i64 0]) ∧ RdR w' w'.heap.size A T ∧ T.length ≤ c ∧ Canon T ∧ (∀ m, Mem m T ↔ g (a.any (inR m)) (b.any (inR m)) = true) ∧ Below w.heap.size w w'

def orB (x y : Bool) : Bool := x || y
def andB (x y : Bool) : Bool := x && y
def notB (x y : Bool) : Bool := x && !y

theorem own_cap {w : World} {base : Nat} {A : Option Addr} {n c : Nat} {xs : List Value} (h : w.ownsRow base 29 2 (.slice A n c) n xs) : n ≤ c := by
  rcases h.2 with ⟨hv, h0⟩ | ⟨g, cap, cur, hv, _, _, hc, _⟩
  · omega
  · injection hv with h1 h2 h3; omega

def CombRel (g : Bool → Bool → Bool) (a b : RL) (w2 : World) (v10 v11 v12 v13 : Value) (wr : World) : Prop :=
  ∃ (as' bs' S : RL) (A1 A2 A3 : Option Addr) (c1 c2 c3 : Nat) (n : Int), v10 = .slice A3 S.length c3 ∧ v11 = .slice A1 as'.length c1 ∧ v12 = .slice A2 bs'.length c2 ∧ v13 = .int .i64 n ∧
    RdR w2 w2.heap.size A1 as' ∧ RdR w2 w2.heap.size A2 bs' ∧ as'.length ≤ c1 ∧ bs'.length ≤ c2 ∧ Inv g a b as' bs' S n ∧ wr.ownsRow w2.heap.size 29 2 (.slice A3 S.length c3) S.length (flatR S) ∧ Below w2.heap.size w2 wr

theorem clo42 (x y : Bool) (w : World) (v : Bool) (h : orB x y = v) : Calls Try.prog 42 #[.bool x, .bool y] w fun e w' => e = .returned (.bool v) ∧ w = w' := by
  have := closure42 x y w
  subst h
  exact this

set_option maxRecDepth 100000 in
set_option maxHeartbeats 2000000 in
theorem combine42_ok (A B : Option Addr) (ca cb : Nat) (a b : RL) (w : World) (hra : RdR w w.heap.size A a) (hrb : RdR w w.heap.size B b) (hla : a.length ≤ ca) (hlb : b.length ≤ cb) (hka : checkB a = true) (hkb : checkB b = true) :
    Calls Try.prog 41 #[.slice A a.length ca, .slice B b.length cb, .func (.func 42) #[] #[]] w (CombPost orB a b w) := by
  have Hra := Lib.hid hra
  have Hrb := Lib.hid hrb
  have Hka := Lib.hid hka
  have Hkb := Lib.hid hkb
  have hna := canon_len (canon_iff.1 hka)
  have hnb := canon_len (canon_iff.1 hkb)
  clear hra hrb hka hkb
  go_enter Try.func41, Try.ntmps41
  go_wp2_with fail
  refine (Check_ok _ _ a _ Hra.out (by omega) Hka.out).mono ?_
  rintro e w1 ⟨rfl, hb1⟩
  go_wp2_with fail
  refine (Check_ok _ _ b _ (Hrb.out.on hb1) (by omega) Hkb.out).mono ?_
  rintro e w2 ⟨rfl, hb2⟩
  have hb02 := hb1.trans (hb2.mono hb1.size)
  clear hb1 hb2
  go_wp2_with fail
  go_loopw [10, 11, 12, 13] (fun v10 v11 v12 v13 wr => CombRel orB a b w2 v10 v11 v12 v13 wr) (fun _ _ _ n _ => (1073741826 - intOf n).toNat)
  case atStart => exact ⟨a, b, [], A, B, none, ca, cb, 0, 1, rfl, rfl, rfl, rfl, Hra.out.on hb02, Hrb.out.on hb02, hla, hlb, Inv.start (canon_iff.1 Hka.out) (canon_iff.1 Hkb.out) rfl, World.ownsRow_nil _ _ _ _, Below.refl _ _⟩
  case round =>
    obtain ⟨as', bs', S, A1, A2, A3, c1, c2, c3, n, rfl, rfl, rfl, rfl, hr1, hr2, hl1, hl2, hinv, hown, hb⟩ := hrel
    have hn1 := canon_len hinv.ca
    have hn2 := canon_len hinv.cb
    have hnS := canon_len hinv.cs
    have hsz := hb.size
    have Hr1 := Lib.hid hr1
    have Hr2 := Lib.hid hr2
    have Hinv := Lib.hid hinv
    have Hown := Lib.hid hown
    have hi1 := hinv.n1
    have hi2 := hinv.n2
    by_cases hne : 0 < as'.length ∨ 0 < bs'.length
    · have hn3 := hinv.lt hne
      obtain ⟨s1, s2, s3⟩ := hinv.step hn3 rfl
      have Hx1 : Hid (∀ x ∈ as', 0 ≤ x.2 ∧ x.2 ≤ 1073741824) := fun x hx => by have := hinv.ca.1 x hx; have h2 := this.2.1; have h3 := this.2.2; have h4 := this.1; omega
      have Hx2 : Hid (∀ x ∈ bs', 0 ≤ x.2 ∧ x.2 ≤ 1073741824) := fun x hx => by have := hinv.cb.1 x hx; have h2 := this.2.1; have h3 := this.2.2; have h4 := this.1; omega
      have Hx3 : Hid (∀ x ∈ S, 0 ≤ x.2 ∧ x.2 ≤ 4294967296) := fun x hx => by have := hinv.cs.1 x hx; have h2 := this.2.1; have h3 := this.2.2; have h4 := this.1; omega
      have Hs3 := Lib.hid s3
      clear hr1 hr2 hinv hown s3
      obtain ⟨x, HX⟩ : ∃ x, Hid (stB as' n = x) := ⟨_, rfl⟩
      obtain ⟨y, HY⟩ : ∃ y, Hid (stB bs' n = y) := ⟨_, rfl⟩
      obtain ⟨p, HP⟩ : ∃ p, Hid (stE as' n = p) := ⟨_, rfl⟩
      obtain ⟨q, HQ⟩ : ∃ q, Hid (stE bs' n = q) := ⟨_, rfl⟩
      rw [HP.out, HQ.out] at s1 s2
      rw [HX.out, HY.out, HP.out, HQ.out] at Hs3
      have c1' : ∀ W, Below w2.heap.size w2 W → Calls Try.prog 50 #[.slice A1 as'.length c1, .int .i64 n] W fun e w' => e = .returned (.tuple #[.bool x, .int .i64 p]) ∧ Below W.heap.size W w' := fun W hW => by
        have := state_any A1 c1 as' n W (Hr1.out.on hW) (by omega) Hx1.out
        rwa [HX.out, HP.out] at this
      have c2' : ∀ W, Below w2.heap.size w2 W → Calls Try.prog 50 #[.slice A2 bs'.length c2, .int .i64 n] W fun e w' => e = .returned (.tuple #[.bool y, .int .i64 q]) ∧ Below W.heap.size W w' := fun W hW => by
        have := state_any A2 c2 bs' n W (Hr2.out.on hW) (by omega) Hx2.out
        rwa [HY.out, HQ.out] at this
      have C1 := Lib.hid c1'
      have C2 := Lib.hid c2'
      clear c1' c2'
      obtain ⟨v, HV⟩ : ∃ v, Hid (orB x y = v) := ⟨_, rfl⟩
      rw [HV.out] at Hs3
      have hd1 : decide (0 < as'.length) = true ∨ (decide (0 < as'.length) = false ∧ decide (0 < bs'.length) = true) := by
        rcases Nat.eq_zero_or_pos as'.length with h0 | h0
        · right; exact ⟨by simp [h0], by simp; omega⟩
        · left; simp; omega
      have go : Calls Try.prog 50 #[.slice A1 as'.length c1, .int .i64 n] wr fun e w' => e = .returned (.tuple #[.bool x, .int .i64 p]) ∧ Below wr.heap.size wr w' := C1.out _ hb
      have Go1 := Lib.hid go
      clear go hne
      cases v with
      | true =>
        rcases hd1 with hd1 | ⟨hd1, hd2⟩
        all_goals
          go_wp2_with fail
          refine Go1.out.mono ?_
          rintro e w3 ⟨rfl, hb3⟩
          have hb23 := hb.trans (hb3.mono hb.size)
          have hown3 := Hown.out.kept (only_of_below hb3 none) (by cases A3 <;> simp [Value.ownBlock])
          have Hown3 := Lib.hid hown3
          clear hb3 hown3
          go_wp2_with fail
          refine (C2.out _ hb23).mono ?_
          rintro e w4 ⟨rfl, hb4⟩
          have hb24 := hb23.trans (hb4.mono hb23.size)
          have hown4 := Hown3.out.kept (only_of_below hb4 none) (by cases A3 <;> simp [Value.ownBlock])
          have Hown4 := Lib.hid hown4
          clear hb23 hb4 hown4 Hown3
          go_wp2_with fail
          refine (clo42 x y _ _ HV.out).mono ?_
          rintro e w5 ⟨rfl, rfl⟩
          go_wp2_with fail
          refine (extend_any w2.heap.size A3 c3 S n (min p q - 1) _ Hown4.out hb24.size (by omega) Hx3.out (by omega)).mono ?_
          rintro e w6 ⟨A6, c6, rfl, hown6, hg6⟩
          have hb26 : Below w2.heap.size w2 w6 := hb24.grown hg6 hb24.size (fun k hk => (Hown4.out.lt k hk).1)
          have Hown6 := Lib.hid hown6
          have hc6 := own_cap hown6
          clear hown6 hg6 hb24
          go_wp2_with fail
          refine (past_any w2.heap.size A1 c1 as' (min p q) w6 (Hr1.out.below hb26) (by omega) hl1).mono ?_
          rintro e w7 ⟨A7, c7, rfl, hr7, hl7, rfl⟩
          go_wp2_with fail
          refine (past_any w2.heap.size A2 c2 bs' (min p q) w6 (Hr2.out.below hb26) (by omega) hl2).mono ?_
          rintro e w8 ⟨A8, c8, rfl, hr8, hl8, rfl⟩
          have Hr7 := Lib.hid (hr7.keep (w' := w2) fun b o hb => (hb26.cell (p := ⟨b, o, none⟩) hb).symm)
          have Hr8 := Lib.hid (hr8.keep (w' := w2) fun b o hb => (hb26.cell (p := ⟨b, o, none⟩) hb).symm)
          clear hr7 hr8
          go_wp2_with fail
          go_roundw
          case rel => exact ⟨pastL as' (min p q), pastL bs' (min p q), ext S (n, min p q - 1), A7, A8, A6, c7, c8, c6, min p q, rfl, rfl, rfl, rfl, Hr7.out, Hr8.out, hl7, hl8, Hs3.out, Hown6.out, hb26⟩
          case measure => simp [intOf]; omega
      | false =>
        rcases hd1 with hd1 | ⟨hd1, hd2⟩
        all_goals
          go_wp2_with fail
          refine Go1.out.mono ?_
          rintro e w3 ⟨rfl, hb3⟩
          have hb23 := hb.trans (hb3.mono hb.size)
          have hown3 := Hown.out.kept (only_of_below hb3 none) (by cases A3 <;> simp [Value.ownBlock])
          have Hown3 := Lib.hid hown3
          clear hb3 hown3
          go_wp2_with fail
          refine (C2.out _ hb23).mono ?_
          rintro e w4 ⟨rfl, hb4⟩
          have hb24 := hb23.trans (hb4.mono hb23.size)
          have hown4 := Hown3.out.kept (only_of_below hb4 none) (by cases A3 <;> simp [Value.ownBlock])
          have Hown4 := Lib.hid hown4
          clear hb23 hb4 hown4 Hown3
          go_wp2_with fail
          refine (clo42 x y _ _ HV.out).mono ?_
          rintro e w5 ⟨rfl, rfl⟩
          go_wp2_with fail
          refine (past_any w2.heap.size A1 c1 as' (min p q) w4 (Hr1.out.below hb24) (by omega) hl1).mono ?_
          rintro e w7 ⟨A7, c7, rfl, hr7, hl7, rfl⟩
          go_wp2_with fail
          refine (past_any w2.heap.size A2 c2 bs' (min p q) w4 (Hr2.out.below hb24) (by omega) hl2).mono ?_
          rintro e w8 ⟨A8, c8, rfl, hr8, hl8, rfl⟩
          have Hr7 := Lib.hid (hr7.keep (w' := w2) fun b o hb => (hb24.cell (p := ⟨b, o, none⟩) hb).symm)
          have Hr8 := Lib.hid (hr8.keep (w' := w2) fun b o hb => (hb24.cell (p := ⟨b, o, none⟩) hb).symm)
          clear hr7 hr8
          go_wp2_with fail
          go_roundw
          case rel => exact ⟨pastL as' (min p q), pastL bs' (min p q), S, A7, A8, A3, c7, c8, c3, min p q, rfl, rfl, rfl, rfl, Hr7.out, Hr8.out, hl7, hl8, Hs3.out, Hown4.out, hb24⟩
          case measure => simp [intOf]; omega
    · have h1 : as' = [] := List.eq_nil_of_length_eq_zero (by omega)
      have h2 : bs' = [] := List.eq_nil_of_length_eq_zero (by omega)
      subst h1 h2
      clear hr1 hr2 hinv hown hne
      go_wp2_with fail
      go_ret2
      obtain ⟨d1, d2⟩ := Hinv.out.done rfl
      exact ⟨S, A3, c3, rfl, (RdR.of_own Hown.out).2, own_cap Hown.out, d1, d2, hb02.trans (hb.mono hb02.size)⟩

theorem clo43 (x y : Bool) (w : World) (v : Bool) (h : andB x y = v) : Calls Try.prog 43 #[.bool x, .bool y] w fun e w' => e = .returned (.bool v) ∧ w = w' := by
  have := closure43 x y w
  subst h
  exact this

set_option maxRecDepth 100000 in
set_option maxHeartbeats 2000000 in
theorem combine43_ok (A B : Option Addr) (ca cb : Nat) (a b : RL) (w : World) (hra : RdR w w.heap.size A a) (hrb : RdR w w.heap.size B b) (hla : a.length ≤ ca) (hlb : b.length ≤ cb) (hka : checkB a = true) (hkb : checkB b = true) :
    Calls Try.prog 41 #[.slice A a.length ca, .slice B b.length cb, .func (.func 43) #[] #[]] w (CombPost andB a b w) := by
  have Hra := Lib.hid hra
  have Hrb := Lib.hid hrb
  have Hka := Lib.hid hka
  have Hkb := Lib.hid hkb
  have hna := canon_len (canon_iff.1 hka)
  have hnb := canon_len (canon_iff.1 hkb)
  clear hra hrb hka hkb
  go_enter Try.func41, Try.ntmps41
  go_wp2_with fail
  refine (Check_ok _ _ a _ Hra.out (by omega) Hka.out).mono ?_
  rintro e w1 ⟨rfl, hb1⟩
  go_wp2_with fail
  refine (Check_ok _ _ b _ (Hrb.out.on hb1) (by omega) Hkb.out).mono ?_
  rintro e w2 ⟨rfl, hb2⟩
  have hb02 := hb1.trans (hb2.mono hb1.size)
  clear hb1 hb2
  go_wp2_with fail
  go_loopw [10, 11, 12, 13] (fun v10 v11 v12 v13 wr => CombRel andB a b w2 v10 v11 v12 v13 wr) (fun _ _ _ n _ => (1073741826 - intOf n).toNat)
  case atStart => exact ⟨a, b, [], A, B, none, ca, cb, 0, 1, rfl, rfl, rfl, rfl, Hra.out.on hb02, Hrb.out.on hb02, hla, hlb, Inv.start (canon_iff.1 Hka.out) (canon_iff.1 Hkb.out) rfl, World.ownsRow_nil _ _ _ _, Below.refl _ _⟩
  case round =>
    obtain ⟨as', bs', S, A1, A2, A3, c1, c2, c3, n, rfl, rfl, rfl, rfl, hr1, hr2, hl1, hl2, hinv, hown, hb⟩ := hrel
    have hn1 := canon_len hinv.ca
    have hn2 := canon_len hinv.cb
    have hnS := canon_len hinv.cs
    have hsz := hb.size
    have Hr1 := Lib.hid hr1
    have Hr2 := Lib.hid hr2
    have Hinv := Lib.hid hinv
    have Hown := Lib.hid hown
    have hi1 := hinv.n1
    have hi2 := hinv.n2
    by_cases hne : 0 < as'.length ∨ 0 < bs'.length
    · have hn3 := hinv.lt hne
      obtain ⟨s1, s2, s3⟩ := hinv.step hn3 rfl
      have Hx1 : Hid (∀ x ∈ as', 0 ≤ x.2 ∧ x.2 ≤ 1073741824) := fun x hx => by have := hinv.ca.1 x hx; have h2 := this.2.1; have h3 := this.2.2; have h4 := this.1; omega
      have Hx2 : Hid (∀ x ∈ bs', 0 ≤ x.2 ∧ x.2 ≤ 1073741824) := fun x hx => by have := hinv.cb.1 x hx; have h2 := this.2.1; have h3 := this.2.2; have h4 := this.1; omega
      have Hx3 : Hid (∀ x ∈ S, 0 ≤ x.2 ∧ x.2 ≤ 4294967296) := fun x hx => by have := hinv.cs.1 x hx; have h2 := this.2.1; have h3 := this.2.2; have h4 := this.1; omega
      have Hs3 := Lib.hid s3
      clear hr1 hr2 hinv hown s3
      obtain ⟨x, HX⟩ : ∃ x, Hid (stB as' n = x) := ⟨_, rfl⟩
      obtain ⟨y, HY⟩ : ∃ y, Hid (stB bs' n = y) := ⟨_, rfl⟩
      obtain ⟨p, HP⟩ : ∃ p, Hid (stE as' n = p) := ⟨_, rfl⟩
      obtain ⟨q, HQ⟩ : ∃ q, Hid (stE bs' n = q) := ⟨_, rfl⟩
      rw [HP.out, HQ.out] at s1 s2
      rw [HX.out, HY.out, HP.out, HQ.out] at Hs3
      have c1' : ∀ W, Below w2.heap.size w2 W → Calls Try.prog 50 #[.slice A1 as'.length c1, .int .i64 n] W fun e w' => e = .returned (.tuple #[.bool x, .int .i64 p]) ∧ Below W.heap.size W w' := fun W hW => by
        have := state_any A1 c1 as' n W (Hr1.out.on hW) (by omega) Hx1.out
        rwa [HX.out, HP.out] at this
      have c2' : ∀ W, Below w2.heap.size w2 W → Calls Try.prog 50 #[.slice A2 bs'.length c2, .int .i64 n] W fun e w' => e = .returned (.tuple #[.bool y, .int .i64 q]) ∧ Below W.heap.size W w' := fun W hW => by
        have := state_any A2 c2 bs' n W (Hr2.out.on hW) (by omega) Hx2.out
        rwa [HY.out, HQ.out] at this
      have C1 := Lib.hid c1'
      have C2 := Lib.hid c2'
      clear c1' c2'
      obtain ⟨v, HV⟩ : ∃ v, Hid (andB x y = v) := ⟨_, rfl⟩
      rw [HV.out] at Hs3
      have hd1 : decide (0 < as'.length) = true ∨ (decide (0 < as'.length) = false ∧ decide (0 < bs'.length) = true) := by
        rcases Nat.eq_zero_or_pos as'.length with h0 | h0
        · right; exact ⟨by simp [h0], by simp; omega⟩
        · left; simp; omega
      have go : Calls Try.prog 50 #[.slice A1 as'.length c1, .int .i64 n] wr fun e w' => e = .returned (.tuple #[.bool x, .int .i64 p]) ∧ Below wr.heap.size wr w' := C1.out _ hb
      have Go1 := Lib.hid go
      clear go hne
      cases v with
      | true =>
        rcases hd1 with hd1 | ⟨hd1, hd2⟩
        all_goals
          go_wp2_with fail
          refine Go1.out.mono ?_
          rintro e w3 ⟨rfl, hb3⟩
          have hb23 := hb.trans (hb3.mono hb.size)
          have hown3 := Hown.out.kept (only_of_below hb3 none) (by cases A3 <;> simp [Value.ownBlock])
          have Hown3 := Lib.hid hown3
          clear hb3 hown3
          go_wp2_with fail
          refine (C2.out _ hb23).mono ?_
          rintro e w4 ⟨rfl, hb4⟩
          have hb24 := hb23.trans (hb4.mono hb23.size)
          have hown4 := Hown3.out.kept (only_of_below hb4 none) (by cases A3 <;> simp [Value.ownBlock])
          have Hown4 := Lib.hid hown4
          clear hb23 hb4 hown4 Hown3
          go_wp2_with fail
          refine (clo43 x y _ _ HV.out).mono ?_
          rintro e w5 ⟨rfl, rfl⟩
          go_wp2_with fail
          refine (extend_any w2.heap.size A3 c3 S n (min p q - 1) _ Hown4.out hb24.size (by omega) Hx3.out (by omega)).mono ?_
          rintro e w6 ⟨A6, c6, rfl, hown6, hg6⟩
          have hb26 : Below w2.heap.size w2 w6 := hb24.grown hg6 hb24.size (fun k hk => (Hown4.out.lt k hk).1)
          have Hown6 := Lib.hid hown6
          have hc6 := own_cap hown6
          clear hown6 hg6 hb24
          go_wp2_with fail
          refine (past_any w2.heap.size A1 c1 as' (min p q) w6 (Hr1.out.below hb26) (by omega) hl1).mono ?_
          rintro e w7 ⟨A7, c7, rfl, hr7, hl7, rfl⟩
          go_wp2_with fail
          refine (past_any w2.heap.size A2 c2 bs' (min p q) w6 (Hr2.out.below hb26) (by omega) hl2).mono ?_
          rintro e w8 ⟨A8, c8, rfl, hr8, hl8, rfl⟩
          have Hr7 := Lib.hid (hr7.keep (w' := w2) fun b o hb => (hb26.cell (p := ⟨b, o, none⟩) hb).symm)
          have Hr8 := Lib.hid (hr8.keep (w' := w2) fun b o hb => (hb26.cell (p := ⟨b, o, none⟩) hb).symm)
          clear hr7 hr8
          go_wp2_with fail
          go_roundw
          case rel => exact ⟨pastL as' (min p q), pastL bs' (min p q), ext S (n, min p q - 1), A7, A8, A6, c7, c8, c6, min p q, rfl, rfl, rfl, rfl, Hr7.out, Hr8.out, hl7, hl8, Hs3.out, Hown6.out, hb26⟩
          case measure => simp [intOf]; omega
      | false =>
        rcases hd1 with hd1 | ⟨hd1, hd2⟩
        all_goals
          go_wp2_with fail
          refine Go1.out.mono ?_
          rintro e w3 ⟨rfl, hb3⟩
          have hb23 := hb.trans (hb3.mono hb.size)
          have hown3 := Hown.out.kept (only_of_below hb3 none) (by cases A3 <;> simp [Value.ownBlock])
          have Hown3 := Lib.hid hown3
          clear hb3 hown3
          go_wp2_with fail
          refine (C2.out _ hb23).mono ?_
          rintro e w4 ⟨rfl, hb4⟩
          have hb24 := hb23.trans (hb4.mono hb23.size)
          have hown4 := Hown3.out.kept (only_of_below hb4 none) (by cases A3 <;> simp [Value.ownBlock])
          have Hown4 := Lib.hid hown4
          clear hb23 hb4 hown4 Hown3
          go_wp2_with fail
          refine (clo43 x y _ _ HV.out).mono ?_
          rintro e w5 ⟨rfl, rfl⟩
          go_wp2_with fail
          refine (past_any w2.heap.size A1 c1 as' (min p q) w4 (Hr1.out.below hb24) (by omega) hl1).mono ?_
          rintro e w7 ⟨A7, c7, rfl, hr7, hl7, rfl⟩
          go_wp2_with fail
          refine (past_any w2.heap.size A2 c2 bs' (min p q) w4 (Hr2.out.below hb24) (by omega) hl2).mono ?_
          rintro e w8 ⟨A8, c8, rfl, hr8, hl8, rfl⟩
          have Hr7 := Lib.hid (hr7.keep (w' := w2) fun b o hb => (hb24.cell (p := ⟨b, o, none⟩) hb).symm)
          have Hr8 := Lib.hid (hr8.keep (w' := w2) fun b o hb => (hb24.cell (p := ⟨b, o, none⟩) hb).symm)
          clear hr7 hr8
          go_wp2_with fail
          go_roundw
          case rel => exact ⟨pastL as' (min p q), pastL bs' (min p q), S, A7, A8, A3, c7, c8, c3, min p q, rfl, rfl, rfl, rfl, Hr7.out, Hr8.out, hl7, hl8, Hs3.out, Hown4.out, hb24⟩
          case measure => simp [intOf]; omega
    · have h1 : as' = [] := List.eq_nil_of_length_eq_zero (by omega)
      have h2 : bs' = [] := List.eq_nil_of_length_eq_zero (by omega)
      subst h1 h2
      clear hr1 hr2 hinv hown hne
      go_wp2_with fail
      go_ret2
      obtain ⟨d1, d2⟩ := Hinv.out.done rfl
      exact ⟨S, A3, c3, rfl, (RdR.of_own Hown.out).2, own_cap Hown.out, d1, d2, hb02.trans (hb.mono hb02.size)⟩

theorem clo44 (x y : Bool) (w : World) (v : Bool) (h : notB x y = v) : Calls Try.prog 44 #[.bool x, .bool y] w fun e w' => e = .returned (.bool v) ∧ w = w' := by
  have := closure44 x y w
  subst h
  exact this

set_option maxRecDepth 100000 in
set_option maxHeartbeats 2000000 in
theorem combine44_ok (A B : Option Addr) (ca cb : Nat) (a b : RL) (w : World) (hra : RdR w w.heap.size A a) (hrb : RdR w w.heap.size B b) (hla : a.length ≤ ca) (hlb : b.length ≤ cb) (hka : checkB a = true) (hkb : checkB b = true) :
    Calls Try.prog 41 #[.slice A a.length ca, .slice B b.length cb, .func (.func 44) #[] #[]] w (CombPost notB a b w) := by
  have Hra := Lib.hid hra
  have Hrb := Lib.hid hrb
  have Hka := Lib.hid hka
  have Hkb := Lib.hid hkb
  have hna := canon_len (canon_iff.1 hka)
  have hnb := canon_len (canon_iff.1 hkb)
  clear hra hrb hka hkb
  go_enter Try.func41, Try.ntmps41
  go_wp2_with fail
  refine (Check_ok _ _ a _ Hra.out (by omega) Hka.out).mono ?_
  rintro e w1 ⟨rfl, hb1⟩
  go_wp2_with fail
  refine (Check_ok _ _ b _ (Hrb.out.on hb1) (by omega) Hkb.out).mono ?_
  rintro e w2 ⟨rfl, hb2⟩
  have hb02 := hb1.trans (hb2.mono hb1.size)
  clear hb1 hb2
  go_wp2_with fail
  go_loopw [10, 11, 12, 13] (fun v10 v11 v12 v13 wr => CombRel notB a b w2 v10 v11 v12 v13 wr) (fun _ _ _ n _ => (1073741826 - intOf n).toNat)
  case atStart => exact ⟨a, b, [], A, B, none, ca, cb, 0, 1, rfl, rfl, rfl, rfl, Hra.out.on hb02, Hrb.out.on hb02, hla, hlb, Inv.start (canon_iff.1 Hka.out) (canon_iff.1 Hkb.out) rfl, World.ownsRow_nil _ _ _ _, Below.refl _ _⟩
  case round =>
    obtain ⟨as', bs', S, A1, A2, A3, c1, c2, c3, n, rfl, rfl, rfl, rfl, hr1, hr2, hl1, hl2, hinv, hown, hb⟩ := hrel
    have hn1 := canon_len hinv.ca
    have hn2 := canon_len hinv.cb
    have hnS := canon_len hinv.cs
    have hsz := hb.size
    have Hr1 := Lib.hid hr1
    have Hr2 := Lib.hid hr2
    have Hinv := Lib.hid hinv
    have Hown := Lib.hid hown
    have hi1 := hinv.n1
    have hi2 := hinv.n2
    by_cases hne : 0 < as'.length ∨ 0 < bs'.length
    · have hn3 := hinv.lt hne
      obtain ⟨s1, s2, s3⟩ := hinv.step hn3 rfl
      have Hx1 : Hid (∀ x ∈ as', 0 ≤ x.2 ∧ x.2 ≤ 1073741824) := fun x hx => by have := hinv.ca.1 x hx; have h2 := this.2.1; have h3 := this.2.2; have h4 := this.1; omega
      have Hx2 : Hid (∀ x ∈ bs', 0 ≤ x.2 ∧ x.2 ≤ 1073741824) := fun x hx => by have := hinv.cb.1 x hx; have h2 := this.2.1; have h3 := this.2.2; have h4 := this.1; omega
      have Hx3 : Hid (∀ x ∈ S, 0 ≤ x.2 ∧ x.2 ≤ 4294967296) := fun x hx => by have := hinv.cs.1 x hx; have h2 := this.2.1; have h3 := this.2.2; have h4 := this.1; omega
      have Hs3 := Lib.hid s3
      clear hr1 hr2 hinv hown s3
      obtain ⟨x, HX⟩ : ∃ x, Hid (stB as' n = x) := ⟨_, rfl⟩
      obtain ⟨y, HY⟩ : ∃ y, Hid (stB bs' n = y) := ⟨_, rfl⟩
      obtain ⟨p, HP⟩ : ∃ p, Hid (stE as' n = p) := ⟨_, rfl⟩
      obtain ⟨q, HQ⟩ : ∃ q, Hid (stE bs' n = q) := ⟨_, rfl⟩
      rw [HP.out, HQ.out] at s1 s2
      rw [HX.out, HY.out, HP.out, HQ.out] at Hs3
      have c1' : ∀ W, Below w2.heap.size w2 W → Calls Try.prog 50 #[.slice A1 as'.length c1, .int .i64 n] W fun e w' => e = .returned (.tuple #[.bool x, .int .i64 p]) ∧ Below W.heap.size W w' := fun W hW => by
        have := state_any A1 c1 as' n W (Hr1.out.on hW) (by omega) Hx1.out
        rwa [HX.out, HP.out] at this
      have c2' : ∀ W, Below w2.heap.size w2 W → Calls Try.prog 50 #[.slice A2 bs'.length c2, .int .i64 n] W fun e w' => e = .returned (.tuple #[.bool y, .int .i64 q]) ∧ Below W.heap.size W w' := fun W hW => by
        have := state_any A2 c2 bs' n W (Hr2.out.on hW) (by omega) Hx2.out
        rwa [HY.out, HQ.out] at this
      have C1 := Lib.hid c1'
      have C2 := Lib.hid c2'
      clear c1' c2'
      obtain ⟨v, HV⟩ : ∃ v, Hid (notB x y = v) := ⟨_, rfl⟩
      rw [HV.out] at Hs3
      have hd1 : decide (0 < as'.length) = true ∨ (decide (0 < as'.length) = false ∧ decide (0 < bs'.length) = true) := by
        rcases Nat.eq_zero_or_pos as'.length with h0 | h0
        · right; exact ⟨by simp [h0], by simp; omega⟩
        · left; simp; omega
      have go : Calls Try.prog 50 #[.slice A1 as'.length c1, .int .i64 n] wr fun e w' => e = .returned (.tuple #[.bool x, .int .i64 p]) ∧ Below wr.heap.size wr w' := C1.out _ hb
      have Go1 := Lib.hid go
      clear go hne
      cases v with
      | true =>
        rcases hd1 with hd1 | ⟨hd1, hd2⟩
        all_goals
          go_wp2_with fail
          refine Go1.out.mono ?_
          rintro e w3 ⟨rfl, hb3⟩
          have hb23 := hb.trans (hb3.mono hb.size)
          have hown3 := Hown.out.kept (only_of_below hb3 none) (by cases A3 <;> simp [Value.ownBlock])
          have Hown3 := Lib.hid hown3
          clear hb3 hown3
          go_wp2_with fail
          refine (C2.out _ hb23).mono ?_
          rintro e w4 ⟨rfl, hb4⟩
          have hb24 := hb23.trans (hb4.mono hb23.size)
          have hown4 := Hown3.out.kept (only_of_below hb4 none) (by cases A3 <;> simp [Value.ownBlock])
          have Hown4 := Lib.hid hown4
          clear hb23 hb4 hown4 Hown3
          go_wp2_with fail
          refine (clo44 x y _ _ HV.out).mono ?_
          rintro e w5 ⟨rfl, rfl⟩
          go_wp2_with fail
          refine (extend_any w2.heap.size A3 c3 S n (min p q - 1) _ Hown4.out hb24.size (by omega) Hx3.out (by omega)).mono ?_
          rintro e w6 ⟨A6, c6, rfl, hown6, hg6⟩
          have hb26 : Below w2.heap.size w2 w6 := hb24.grown hg6 hb24.size (fun k hk => (Hown4.out.lt k hk).1)
          have Hown6 := Lib.hid hown6
          have hc6 := own_cap hown6
          clear hown6 hg6 hb24
          go_wp2_with fail
          refine (past_any w2.heap.size A1 c1 as' (min p q) w6 (Hr1.out.below hb26) (by omega) hl1).mono ?_
          rintro e w7 ⟨A7, c7, rfl, hr7, hl7, rfl⟩
          go_wp2_with fail
          refine (past_any w2.heap.size A2 c2 bs' (min p q) w6 (Hr2.out.below hb26) (by omega) hl2).mono ?_
          rintro e w8 ⟨A8, c8, rfl, hr8, hl8, rfl⟩
          have Hr7 := Lib.hid (hr7.keep (w' := w2) fun b o hb => (hb26.cell (p := ⟨b, o, none⟩) hb).symm)
          have Hr8 := Lib.hid (hr8.keep (w' := w2) fun b o hb => (hb26.cell (p := ⟨b, o, none⟩) hb).symm)
          clear hr7 hr8
          go_wp2_with fail
          go_roundw
          case rel => exact ⟨pastL as' (min p q), pastL bs' (min p q), ext S (n, min p q - 1), A7, A8, A6, c7, c8, c6, min p q, rfl, rfl, rfl, rfl, Hr7.out, Hr8.out, hl7, hl8, Hs3.out, Hown6.out, hb26⟩
          case measure => simp [intOf]; omega
      | false =>
        rcases hd1 with hd1 | ⟨hd1, hd2⟩
        all_goals
          go_wp2_with fail
          refine Go1.out.mono ?_
          rintro e w3 ⟨rfl, hb3⟩
          have hb23 := hb.trans (hb3.mono hb.size)
          have hown3 := Hown.out.kept (only_of_below hb3 none) (by cases A3 <;> simp [Value.ownBlock])
          have Hown3 := Lib.hid hown3
          clear hb3 hown3
          go_wp2_with fail
          refine (C2.out _ hb23).mono ?_
          rintro e w4 ⟨rfl, hb4⟩
          have hb24 := hb23.trans (hb4.mono hb23.size)
          have hown4 := Hown3.out.kept (only_of_below hb4 none) (by cases A3 <;> simp [Value.ownBlock])
          have Hown4 := Lib.hid hown4
          clear hb23 hb4 hown4 Hown3
          go_wp2_with fail
          refine (clo44 x y _ _ HV.out).mono ?_
          rintro e w5 ⟨rfl, rfl⟩
          go_wp2_with fail
          refine (past_any w2.heap.size A1 c1 as' (min p q) w4 (Hr1.out.below hb24) (by omega) hl1).mono ?_
          rintro e w7 ⟨A7, c7, rfl, hr7, hl7, rfl⟩
          go_wp2_with fail
          refine (past_any w2.heap.size A2 c2 bs' (min p q) w4 (Hr2.out.below hb24) (by omega) hl2).mono ?_
          rintro e w8 ⟨A8, c8, rfl, hr8, hl8, rfl⟩
          have Hr7 := Lib.hid (hr7.keep (w' := w2) fun b o hb => (hb24.cell (p := ⟨b, o, none⟩) hb).symm)
          have Hr8 := Lib.hid (hr8.keep (w' := w2) fun b o hb => (hb24.cell (p := ⟨b, o, none⟩) hb).symm)
          clear hr7 hr8
          go_wp2_with fail
          go_roundw
          case rel => exact ⟨pastL as' (min p q), pastL bs' (min p q), S, A7, A8, A3, c7, c8, c3, min p q, rfl, rfl, rfl, rfl, Hr7.out, Hr8.out, hl7, hl8, Hs3.out, Hown4.out, hb24⟩
          case measure => simp [intOf]; omega
    · have h1 : as' = [] := List.eq_nil_of_length_eq_zero (by omega)
      have h2 : bs' = [] := List.eq_nil_of_length_eq_zero (by omega)
      subst h1 h2
      clear hr1 hr2 hinv hown hne
      go_wp2_with fail
      go_ret2
      obtain ⟨d1, d2⟩ := Hinv.out.done rfl
      exact ⟨S, A3, c3, rfl, (RdR.of_own Hown.out).2, own_cap Hown.out, d1, d2, hb02.trans (hb.mono hb02.size)⟩
end Go.Proofs.Ytahlccihjjhgfaa
