/- Contracts: Copy, Clone, checks, all, limited, Same, SameIDs, Has. -/
import Derived.Test.YtjglpmcekbjoaaaN
import Derived.Test.YtjglpmcekbjoaaaAR
namespace Go.Proofs.Ytjglpmcekbjoaaa
open Go.RowKit
attribute [local go_sem] wext_cell

/-- A table and an error. -/
def TwoC (x : Nat) (p : List CT × Int) (w : World) (e : Ending) (w' : World) : Prop :=
  ∃ (A : Option Addr) (c : Nat), e = .returned (.tuple #[.slice A p.1.length c, .int .i64 p.2]) ∧ RdC w' x A p.1 ∧ p.1.length ≤ c ∧ Below w.heap.size w w'
/-- A table. -/
def OneC (x : Nat) (t : List CT) (w : World) (e : Ending) (w' : World) : Prop :=
  ∃ (A : Option Addr) (c : Nat), e = .returned (.slice A t.length c) ∧ RdC w' x A t ∧ t.length ≤ c ∧ Below w.heap.size w w'
/-- A list of IDs. -/
def OneI (x : Nat) (l : List ID) (w : World) (e : Ending) (w' : World) : Prop :=
  ∃ (A : Option Addr) (c : Nat), e = .returned (.slice A l.length c) ∧ RdID w' x A l ∧ Below w.heap.size w w'
/-- A list of IDs and an error. -/
def TwoI (x : Nat) (p : List ID × Int) (w : World) (e : Ending) (w' : World) : Prop :=
  ∃ (A : Option Addr) (c : Nat), e = .returned (.tuple #[.slice A p.1.length c, .int .i64 p.2]) ∧ RdID w' x A p.1 ∧ Below w.heap.size w w'
theorem NewC.one {x : Nat} {t : List CT} {w : World} {e : Ending} {w' : World} (h : NewC x t w e w') : OneC x t w e w' := by
  obtain ⟨A, c, h1, h2, h3, h4, h5⟩ := h
  exact ⟨A, c, h1, h2, h3, h5⟩
theorem twoC_err {x : Nat} {n : Int} {p : List CT × Int} {w w' : World} (h : p = ([], n)) (hb : Below w.heap.size w w') : TwoC x p w (.returned (.tuple #[.slice none 0 0, .int .i64 n])) w' := by
  subst h
  exact ⟨none, 0, rfl, Rd.nil, Nat.le_refl _, hb⟩
theorem twoI_err {x : Nat} {n : Int} {p : List ID × Int} {w w' : World} (h : p = ([], n)) (hb : Below w.heap.size w w') : TwoI x p w (.returned (.tuple #[.slice none 0 0, .int .i64 n])) w' := by
  subst h
  exact ⟨none, 0, rfl, Rd.nil, hb⟩
theorem flatC_one (t : List CT) : ∀ u ∈ t.flatMap encC, u.oneCell' = true := by
  intro u hu
  obtain ⟨c, _, hc⟩ := List.mem_flatMap.1 hu
  exact encC_one c u hc

set_option maxHeartbeats 1000000 in
theorem Copy_any (x : Nat) (t : List CT) (A : Option Addr) (c : Nat) (w : World) (hr : RdC w x A t) (hx : x < w.heap.size) (hl : t.length ≤ 4294967296) :
    Calls Try.prog 48 #[.slice A t.length c] w (OneC x t w) := by
  obtain ⟨i0, hi, hz0, hz1, hz2⟩ := info_parts info66
  have Hr := Lib.hid hr
  clear hr
  go_enter Try.func48, Try.ntmps48
  go_wp2_with (at_builtin; refine wpList_append_opt rfl _ _ _ rfl w.heap.size 66 i0 _ 3 24 Try.underlying28 hi hz0 hz1 hz2 rfl (by decide) _ 0 [] rfl (World.ownsRow_nil _ _ _ _) A t.length c (t.flatMap encC) rfl (flat_len encC_len _) (Hr.out.opt encC_len (by omega)).1 (Hr.out.opt encC_len (by omega)).2 (flatC_one t) (by unfold maxLen; omega) (by omega) (Nat.le_refl _) ?_)
  intro v1 w1 hown1 hg1
  have Hb1 : Hid (Below w.heap.size w w1) := (Below.refl _ w).grown hg1 (Nat.le_refl _) (fun k hk => by simp [Value.ownBlock] at hk)
  obtain ⟨A1, c1, rfl⟩ := own_slice hown1
  have Hr1 := Lib.hid (Rd.of_own (x := x) (d := ct0) encC_len (by omega) hown1 hx)
  have Hc1 := Lib.hid (own_cap hown1)
  clear hown1 hg1
  go_wp2_with fail
  go_ret
  exact ⟨A1, c1, rfl, Hr1.out.2, Hc1.out, Hb1.out⟩

def limT (t : List CT) : List CT × Int := if tblE t = 0 then (t, 0) else ([], 281)
set_option maxHeartbeats 1000000 in
theorem limited_any (x : Nat) (t : List CT) (A : Option Addr) (c : Nat) (w : World) (hr : RdC w x A t) (hn : t.length ≤ 9223372036854775807) (hc : t.length ≤ c) :
    Calls Try.prog 43 #[.slice A t.length c] w (TwoC x (limT t) w) := by
  have Hr := Lib.hid hr
  clear hr
  obtain ⟨p, Hp⟩ : ∃ p, Hid (limT t = p) := ⟨_, rfl⟩
  rw [Hp.out]
  go_enter Try.func43, Try.ntmps43
  go_wp2_with fail
  refine (rCheck_any x t A c _ Hr.out hn).mono ?_
  rintro e w1 ⟨rfl, hb1⟩
  by_cases hE : tblE t = 0
  · have hp := Hp.out
    rw [limT, if_pos hE] at hp
    subst hp
    rw [hE]
    have Hb1 := Lib.hid hb1
    clear hE hb1
    go_wp2_with fail
    go_ret2
    exact ⟨A, c, rfl, Hr.out.on Hb1.out, hc, Hb1.out⟩
  · have hp := Hp.out
    rw [limT, if_neg hE] at hp
    subst hp
    have hbe : (tblE t != 0) = true := by rw [bne_iff_ne]; exact hE
    have Hb1 := Lib.hid hb1
    clear hE hb1
    go_wp2_with fail
    go_ret2
    exact twoC_err rfl Hb1.out

/-- The reference's 'all'. -/
def allR (t : List CT) (l : List ID) : List CT := l.foldl (fun t i => putR t i 1) t
theorem allR_snoc (t : List CT) (l : List ID) (i : ID) : allR t (l ++ [i]) = putR (allR t l) i 1 := by simp [allR]
theorem putR_len (t : List CT) (i : ID) (n : Int) : (putR t i n).length ≤ t.length + 1 := by
  induction t with
  | nil => simp [putR]
  | cons c t ih =>
    rw [putR]
    split
    · simp; omega
    · split <;> simp
theorem putR_bd {t : List CT} {i : ID} {n lo hi m : Int} (hm : 0 ≤ m) (hlo : lo ≤ 0) (hhi : 0 ≤ hi) (hn : -m ≤ n ∧ n ≤ m) (h : ∀ c ∈ t, lo ≤ c.2 ∧ c.2 ≤ hi) : ∀ c ∈ putR t i n, lo - m ≤ c.2 ∧ c.2 ≤ hi + m := by
  induction t with
  | nil => intro c hc; simp [putR] at hc; subst hc; simp only; omega
  | cons d t ih =>
    intro c hc
    have hd := h d (by simp)
    rw [putR] at hc
    split at hc
    · rcases List.mem_cons.1 hc with rfl | hc
      · omega
      · exact ih (fun c hc => h c (by simp [hc])) c hc
    · split at hc
      · rcases List.mem_cons.1 hc with rfl | hc
        · simp only; omega
        · have := h c (by simp [hc]); omega
      · rcases List.mem_cons.1 hc with rfl | hc
        · simp only; omega
        · have := h c hc; omega
theorem allR_len (t : List CT) (l : List ID) : (allR t l).length ≤ t.length + l.length := by
  induction l generalizing t with
  | nil => simp [allR]
  | cons i l ih =>
    have h1 := ih (putR t i 1)
    have h2 := putR_len t i 1
    have e : allR t (i :: l) = allR (putR t i 1) l := rfl
    rw [e, List.length_cons]
    omega
theorem allR_bd {t : List CT} {lo hi : Int} (hlo : lo ≤ 0) (hhi : 0 ≤ hi) (h : ∀ c ∈ t, lo ≤ c.2 ∧ c.2 ≤ hi) (l : List ID) : ∀ c ∈ allR t l, lo - l.length ≤ c.2 ∧ c.2 ≤ hi + l.length := by
  induction l generalizing t lo hi with
  | nil => intro c hc; have := h c hc; simp; omega
  | cons i l ih =>
    intro c hc
    have := ih (t := putR t i 1) (lo := lo - 1) (hi := hi + 1) (by omega) (by omega) (putR_bd (by omega) hlo hhi (by omega) h) c hc
    rw [List.length_cons]
    push_cast
    omega

set_option maxHeartbeats 2000000 in
theorem all_any (x : Nat) (t : List CT) (A : Option Addr) (c : Nat) (m : Man) (B : Option Addr) (d : Nat) (w : World) (hr : RdC w x A t) (hm : RdID w x B m.ids) (hx : x < w.heap.size) (hl : t.length ≤ 2147483648) (hc : t.length ≤ c) (hn : m.ids.length ≤ 1048576)
    (hbd : ∀ c ∈ t, -1099511627776 ≤ c.2 ∧ c.2 ≤ 1099511627776) :
    Calls Try.prog 42 #[.slice A t.length c, .agg #[.int .i64 m.size, .slice B m.ids.length d]] w (OneC x (allR t m.ids) w) := by
  have Hr := Lib.hid hr
  have Hm := Lib.hid hm
  have Hbd := Lib.hid hbd
  clear hr hm hbd
  go_enter Try.func42, Try.ntmps42
  go_wp2_with fail
  go_loopw [0, 5] (fun v0 v5 wr => ∃ (k : Nat) (A' : Option Addr) (c' : Nat), k ≤ m.ids.length ∧ v5 = .int .i64 k ∧ v0 = .slice A' (allR t (m.ids.take k)).length c' ∧ RdC wr x A' (allR t (m.ids.take k)) ∧ (allR t (m.ids.take k)).length ≤ c' ∧ IsB wr w.heap.size 38 #[.int .i64 m.size, .slice B m.ids.length d] ∧ Below w.heap.size w wr) (fun _ v5 _ => m.ids.length - (intOf v5).toNat)
  case atStart => exact ⟨0, A, c, Nat.zero_le _, rfl, rfl, Hr.out.alloc _, hc, IsB.new _ _ _, bel1 _ _⟩
  case round =>
    obtain ⟨k, A', c', hk, rfl, rfl, hr', hc', hB, hb⟩ := hrel
    have hsz := hb.size
    have hm0 : wr.cell? ⟨w.heap.size, 0, none⟩ = some (.int .i64 m.size) := by rw [hB.cell]; rfl
    have hm1 : wr.cell? ⟨w.heap.size, 1, none⟩ = some (.slice B m.ids.length d) := by rw [hB.cell]; rfl
    have hBl := hB.lt
    have hlen := allR_len t (m.ids.take k)
    have hbd := allR_bd (by omega) (by omega) Hbd.out (m.ids.take k)
    have htk : (m.ids.take k).length ≤ 1048576 := by rw [List.length_take]; omega
    obtain ⟨T, HT⟩ : ∃ T, Hid (allR t (m.ids.take k) = T) := ⟨_, rfl⟩
    rw [HT.out] at hr' hc' hlen hbd ⊢
    have Hr' := Lib.hid hr'
    have HB := Lib.hid hB
    have Hbd' := Lib.hid hbd
    have Hb := Lib.hid hb
    clear hr' hB hbd hb
    by_cases hlt : k < m.ids.length
    · obtain ⟨b, o, rfl, hbB, _, hc0⟩ := Hm.out (by omega)
      obtain ⟨s, z, HI⟩ : ∃ s z, Hid (m.ids.getD k (0, 0) = (s, z)) := ⟨_, _, rfl⟩
      have hd0 : wr.cell? ⟨b, o + k * 2, none⟩ = some (.int .u64 s) := B_cell Hb.out hbB (hc0 k hlt 0 _ (by rw [HI.out]; rfl))
      have hd1 : wr.cell? ⟨b, o + k * 2 + 1, none⟩ = some (.int .i64 z) := B_cell Hb.out hbB (hc0 k hlt 1 _ (by rw [HI.out]; rfl))
      clear hc0
      go_wp2_with fail
      refine (Put_any x T A' c' s z 1 _ Hr'.out (by omega) (by omega) (by omega) (fun c hc => by have := Hbd'.out c hc; omega)).mono ?_
      rintro e w2 ⟨A2, c2, rfl, hr2, hc2, _, hb2⟩
      have Hr2 := Lib.hid hr2
      have Hb2 := Lib.hid hb2
      clear hr2 hb2
      go_wp2_with fail
      go_roundw
      case rel =>
        have e9 : allR t (m.ids.take (k + 1)) = putR T (s, z) 1 := by rw [take_snoc _ (0, 0) _ hlt, allR_snoc, HT.out, HI.out]
        exact ⟨k + 1, A2, c2, by omega, by go_num, by rw [e9], by rw [e9]; exact Hr2.out, by rw [e9]; exact hc2, HB.out.on Hb2.out, Hb.out.trans (Hb2.out.mono hsz)⟩
      case measure => simp [intOf]; omega
    · obtain rfl : k = m.ids.length := by omega
      rw [List.take_length] at HT
      go_wp2_with fail
      go_ret
      rw [HT.out]
      exact ⟨A', c', rfl, Hr'.out, hc', Hb.out⟩

set_option maxHeartbeats 2000000 in
theorem checks_any (x : Nat) (ms : List Man) (A : Option Addr) (c : Nat) (w : World) (hr : RdM w x A ms) (hn : ms.length ≤ 1000000) (hi : ∀ m ∈ ms, m.ids.length ≤ 9223372036854775807) :
    Calls Try.prog 41 #[.slice A ms.length c] w (Gives (.int .i64 (errM ms)) w) := by
  have Hr := Lib.hid hr
  have Hi := Lib.hid hi
  clear hr hi
  go_enter Try.func41, Try.ntmps41
  go_wp2_with fail
  go_loopw [3] (fun v wr => ∃ k : Nat, k ≤ ms.length ∧ v = .int .i64 k ∧ Hid (errM (ms.take k) = 0) ∧ Below w.heap.size w wr) (fun v _ => ms.length - (intOf v).toNat)
  case atStart => exact ⟨0, Nat.zero_le _, rfl, rfl, Below.refl _ _⟩
  case round =>
    obtain ⟨k, hk, rfl, He, hb⟩ := hrel
    have hsz := hb.size
    have Hb := Lib.hid hb
    clear hb
    by_cases hlt : k < ms.length
    · obtain ⟨rs, h1, h2, h3⟩ := Hr.out
      obtain ⟨b, o, rfl, hbB, _, hc⟩ := h1 (by omega)
      obtain ⟨l1, l2, l3, l4⟩ := h3 k hlt
      have hmem := getD_mem ms man0 k hlt
      obtain ⟨m, HI⟩ : ∃ m, Hid (ms.getD k man0 = m) := ⟨_, rfl⟩
      obtain ⟨⟨rz, rA, rl, rc⟩, HR⟩ : ∃ r, Hid (rs.getD k mr0 = r) := ⟨_, rfl⟩
      rw [HI.out] at l1 l2 l4 hmem
      rw [HR.out] at l1 l2 l3 l4
      simp only at l1 l2 l3 l4
      subst l1 l2
      have hil := Hi.out m hmem
      have hc0 : wr.cell? ⟨b, o + k * 2, none⟩ = some (.int .i64 m.size) := B_cell Hb.out hbB (hc k (by omega) 0 _ (by rw [HR.out]; rfl))
      have hc1 : wr.cell? ⟨b, o + k * 2 + 1, none⟩ = some (.slice rA m.ids.length rc) := B_cell Hb.out hbB (hc k (by omega) 1 _ (by rw [HR.out]; rfl))
      have L4 := Lib.hid l4
      have HE : Hid (manE m ≠ 0 → errM ms = manE m) := fun h => by have := errM_at He.out hlt (by rw [HI.out]; exact h); rwa [HI.out] at this
      have HZ : Hid (manE m = 0 → errM (ms.take (k + 1)) = 0) := fun h => by rw [take_snoc _ man0 _ hlt, errM_snoc _ _ He.out, HI.out]; exact h
      clear h1 h2 h3 hc l4 hmem
      go_wp2_with fail
      refine (rmanCheck_any x m rA rc _ (L4.out.on Hb.out) hil).mono ?_
      rintro e w1 ⟨rfl, hb1⟩
      have Hbw : Hid (Below w.heap.size w w1) := Hb.out.trans (hb1.mono hsz)
      clear hb1
      by_cases hE : manE m = 0
      · have Hz := Lib.hid (HZ.out hE)
        rw [hE]
        clear hE
        go_wp2_with fail
        go_roundw
        case rel => exact ⟨k + 1, by omega, by go_num, Hz.out, Hbw.out⟩
        case measure => simp [intOf]; omega
      · have HE1 := Lib.hid (HE.out hE)
        have hbe : (manE m != 0) = true := by rw [bne_iff_ne]; exact hE
        clear hE
        go_wp2_with fail
        go_ret
        exact gv HE1.out Hbw.out
    · obtain rfl : k = ms.length := by omega
      rw [List.take_length] at He
      go_wp2_with fail
      go_ret
      exact gv He.out Hb.out
end Go.Proofs.Ytjglpmcekbjoaaa
