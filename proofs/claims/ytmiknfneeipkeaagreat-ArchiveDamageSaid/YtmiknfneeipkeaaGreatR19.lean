/- Contracts of the walk, part 19. -/
import Derived.Handy
import Derived.Test.YtmiknfneeipkeaaGreatR18
import Derived.Test.YtmiknfneeipkeaaGreatR12
namespace Go.Proofs
open Go.Shelf
def Tryz.lay166_ren : Go.Shelf.Ren := ⟨fun | 20 => 166 | n => n, fun | 22 => 78 | 24 => 85 | 25 => 145 | 3 => 3 | 0 => 0 | 4 => 4 | n => n, fun | n => n⟩
theorem Tryz.lay166 : Go.Proofs.SlLaysF0.n20 Tryz.prog Tryz.lay166_ren := {
  mixed := by kernel_rfl
  f20 := ⟨Tryz.f166.name, by decide, Tryz.func166.trans (congrArg some (by kernel_rfl))⟩
  t0 := Tryz.underlying0
  a0 := Tryz.isAgg0
  z0 := Tryz.sizeOf0
  v0 := Tryz.zeroValue0
  t3 := Tryz.underlying3
  a3 := Tryz.isAgg3
  z3 := Tryz.sizeOf3
  v3 := Tryz.zeroValue3
  t4 := Tryz.underlying4
  a4 := Tryz.isAgg4
  z4 := Tryz.sizeOf4
  v4 := Tryz.zeroValue4
  t22 := Tryz.underlying78
  a22 := Tryz.isAgg78
  z22 := Tryz.sizeOf78
  v22 := Tryz.zeroValue78
  t25 := Tryz.underlying145
  a25 := Tryz.isAgg145
  z25 := Tryz.sizeOf145
  v25 := Tryz.zeroValue145 }
end Go.Proofs
namespace Go.Proofs.YtmiknfneeipkeaaGreat
open Go.RowKit Go.MapKept Go.ChangeMaps Go.Shelf Go.Sort
attribute [local go_sem] wext_cell
abbrev CN := ID × MR
def encCN (e : CN) : List Value := [.int .u64 e.1.1, .int .i64 e.1.2, .int .i64 e.2.size, .slice e.2.A e.2.len e.2.cap]
def cn0 : CN := (id0, mr0)
theorem encCN_len (e : CN) : (encCN e).length = 4 := rfl
theorem encCN_one (e : CN) : ∀ u ∈ encCN e, u.oneCell' = true := by
  intro u hu
  simp [encCN] at hu
  rcases hu with rfl | rfl | rfl | rfl <;> rfl
instance : Inhabited CN := ⟨cn0⟩
def cmpCN (x y : CN) : Int := cmpID x.1 y.1
theorem swoCN : SWO (ltOf cmpCN) where
  irrefl x := swoID.irrefl x.1
  trans x y z h1 h2 := swoID.trans x.1 y.1 z.1 h1 h2
  ntrans x y z h1 h2 := swoID.ntrans x.1 y.1 z.1 h1 h2
set_option maxHeartbeats 1000000 in
theorem closure85 (x y : CN) (W : World) : Calls Tryz.prog 85 #[.agg (encCN x).toArray, .agg (encCN y).toArray] W fun e w' => e = .returned (.int .i64 (cmpCN x y)) ∧ ∃ q os', w' = grow (W.drewN q) os' := by
  obtain ⟨⟨x1, x2⟩, ⟨x3, x4, x5, x6⟩⟩ := x
  obtain ⟨⟨y1, y2⟩, ⟨y3, y4, y5, y6⟩⟩ := y
  have H := Lib.hid (fun W' => acmp_grow x1 x2 y1 y2 W')
  unfold cmpCN
  simp only [encCN]
  generalize cmpID (x1, x2) (y1, y2) = r at H ⊢
  go_enter Tryz.func85, Tryz.ntmps85
  go_wp2_with fail
  refine (H.out _).mono ?_
  rintro e w' ⟨rfl, q, os, rfl⟩
  go_wp2_with fail
  go_ret
  exact ⟨rfl, q, _, grow_grow2 W _ _ q os⟩
set_option maxHeartbeats 2000000 in
theorem stable_walk (s fv : Value) (n : Nat) (hn : n < 20) (w : World) (R : World → Prop) (h : Calls Tryz.prog 166 #[s, .int .i64 0, .int .i64 (n : Int), fv] w (fun e w' => e = .returned (.tuple #[]) ∧ R w')) : Calls Tryz.prog 128 #[s, .int .i64 (n : Int), fv] w (fun e w' => e = .returned (.tuple #[]) ∧ R w') := by
  have H := Lib.hid h
  clear h
  go_enter Tryz.func128, Tryz.ntmps128
  go_wp2_with fail
  go_loop [7, 8] (fun v7 v8 => v7 = .int .i64 0 ∧ v8 = .int .i64 20) (fun _ _ => 0)
  case atStart => exact ⟨rfl, rfl⟩
  case round =>
    obtain ⟨rfl, rfl⟩ := hrel
    go_wp2_with (go_at_call 166; (with_reducible refine H.out.mono ?_); refine halt_ ?_)
    rintro e w1 rfl hR
    have HR := Lib.hid hR
    clear hR H
    go_wp2_with fail
    go_loopw [6] (fun v6 wr => v6 = .int .i64 20 ∧ wr = w1) (fun _ _ => 0)
    case atStart => exact ⟨rfl, rfl⟩
    case round =>
      obtain ⟨rfl, rfl⟩ := hrel
      go_wp2_with fail
      go_returns
      exact ⟨rfl, HR.out⟩
abbrev StableP (g n cap : Nat) (xs : List CN) (w : World) (w' : World) : Prop := ∃ d' m os, PermIn 0 xs.toArray.size xs.toArray d' ∧ SortedIn (ltOf cmpCN) 0 xs.toArray.size d' ∧ w' = sortWorldK encCN 4 w g 0 m d' os
set_option maxHeartbeats 1000000 in
theorem stable84 (s fv : Value) (n : Nat) (w : World) (R : World → Prop) (hlen : (Builtin.len_ #[78] 3 #[s]).run Tryz.prog w = .ok (.int .i64 (n : Int)) w) (h : Calls Tryz.prog 128 #[s, .int .i64 (n : Int), fv] w (fun e w' => e = .returned (.tuple #[]) ∧ R w')) : Calls Tryz.prog 84 #[s, fv] w (fun e w' => e = .returned (.tuple #[]) ∧ R w') := by
  have H := Lib.hid h
  clear h
  go_enter Tryz.func84, Tryz.ntmps84
  go_wp2_with (go_at_call 128; (with_reducible refine H.out.mono ?_); refine halt_ ?_)
  rintro e w1 ⟨rfl, hR⟩
  have HR := Lib.hid hR
  clear hR H
  go_wp2_with fail
  go_returns
  exact ⟨rfl, HR.out⟩
theorem sortCN_any (base g n cap : Nat) (xs : List CN) (w : World) (h : w.ownsRow base 85 4 (.slice (some ⟨g, 0, none⟩) n cap) n (xs.flatMap encCN)) (hn : xs.length < 20) :
    Calls Tryz.prog 84 #[.slice (some ⟨g, 0, none⟩) n cap, .func (.func 85) #[] #[]] w (SortOwn encCN 4 cmpCN base g n cap 85 xs w) := by
  have hg := h.lt g rfl
  have eg : ∀ args w, (callFunc 85 args).run Tryz.prog w = .ok (.enter 85 args) w := enters_of Tryz.func85 (by kernel_rfl) rfl
  have hins := AnyQ.insertionSortCmpFunc Tryz.lay166 4 Tryz.isAgg85 Tryz.sizeOf85 encCN (fun _ => rfl) encCN_one cmpCN 85 #[] g 0 cap 0 xs.toArray.size xs.toArray w eg (fun _ _ _ _ x y => closure85 x y _) (holdsK_of_own encCN_len (by omega) h) hg.2 (by omega) (Nat.le_refl _) (by simp; omega)
  have hps := insertionSort_holds (lt := ltOf cmpCN) swoCN xs.toArray 0 xs.toArray.size (by omega) (Nat.le_refl _)
  have h1 : Calls Tryz.prog 166 #[.slice (some ⟨g, 0, none⟩) xs.toArray.size cap, .int .i64 0, .int .i64 (xs.toArray.size : Int), .func (.func 85) #[] #[]] w (fun e w' => e = .returned (.tuple #[]) ∧ StableP g n cap xs w w') := hins.mono (fun e w' ⟨he, m, os, hw⟩ => ⟨he, _, m, os, hps.1, hps.2, hw⟩)
  exact sort_own encCN_len h (by omega) (stable84 _ _ _ w _ (by simp [Builtin.len_, run_underlying Tryz.underlying78, Result.andThen, goInt]) (stable_walk _ _ _ (by simpa using hn) w _ h1))
theorem sortCN_none (p : Option Addr) (cap : Nat) (w : World) : Calls Tryz.prog 84 #[.slice p 0 cap, .func (.func 85) #[] #[]] w fun e w' => e = .returned (.tuple #[]) ∧ w' = w :=
  stable84 _ _ 0 w _ (by simp [Builtin.len_, run_underlying Tryz.underlying78, Result.andThen, goInt]) (stable_walk _ _ 0 (by omega) w _ (AnyF.insertionSortCmpFunc_none Tryz.lay166 p cap _ w))
end Go.Proofs.YtmiknfneeipkeaaGreat
namespace Go.Proofs.YtmiknfneeipkeaaGreat
open Go.RowKit Go.MapKept Go.ChangeMaps Go.Shelf Go.Sort
attribute [local go_sem] wext_cell
set_option maxHeartbeats 2000000 in
theorem Equal_any (x y : Nat) (a b : List ID) (A B : Option Addr) (c d : Nat) (w : World) (ha : RdID w x A a) (hb : RdID w y B b) (hla : a.length ≤ 9223372036854775807) (hlb : b.length ≤ 9223372036854775807) :
    Calls Tryz.prog 86 #[.slice A a.length c, .slice B b.length d] w (Gives (.bool (decide (a = b))) w) := by
  have Ha := Lib.hid ha
  have Hb := Lib.hid hb
  clear ha hb
  by_cases hlen : a.length = b.length
  · have hbe : (a.length != b.length) = false := by simp [hlen]
    have hbi : (((a.length : Nat) : Int) != ((b.length : Nat) : Int)) = false := by simp [hlen]
    have Hlen := Lib.hid hlen
    clear hlen
    go_enter Tryz.func86, Tryz.ntmps86
    go_wp2_with fail
    go_loopw [13] (fun v wr => ∃ k : Nat, k ≤ a.length ∧ v = .int .i64 k ∧ Hid (a.take k = b.take k) ∧ Below w.heap.size w wr) (fun v _ => a.length - (intOf v).toNat)
    case atStart => exact ⟨0, Nat.zero_le _, rfl, rfl, Below.refl _ _⟩
    case round =>
      obtain ⟨k, hk, rfl, Hk, hbw⟩ := hrel
      have Hbw := Lib.hid hbw
      clear hbw
      by_cases hlt : k < a.length
      · have hlt' : k < b.length := by have := Hlen.out; omega
        obtain ⟨b1, o1, rfl, hb1, _, hc1⟩ := Ha.out (by omega)
        obtain ⟨b2, o2, rfl, hb2, _, hc2⟩ := Hb.out (by omega)
        obtain ⟨s0, s1, HI⟩ : ∃ s0 s1, Hid (a.getD k (0, 0) = (s0, s1)) := ⟨_, _, rfl⟩
        obtain ⟨r0, r1, HJ⟩ : ∃ r0 r1, Hid (b.getD k (0, 0) = (r0, r1)) := ⟨_, _, rfl⟩
        have p0 : wr.cell? ⟨b1, o1 + k * 2, none⟩ = some (.int .u64 s0) := B_cell Hbw.out hb1 (hc1 k hlt 0 _ (by rw [HI.out]; rfl))
        have q0 : wr.cell? ⟨b2, o2 + k * 2, none⟩ = some (.int .u64 r0) := B_cell Hbw.out hb2 (hc2 k hlt' 0 _ (by rw [HJ.out]; rfl))
        have p1 : wr.cell? ⟨b1, o1 + k * 2 + 1, none⟩ = some (.int .i64 s1) := B_cell Hbw.out hb1 (hc1 k hlt 1 _ (by rw [HI.out]; rfl))
        have q1 : wr.cell? ⟨b2, o2 + k * 2 + 1, none⟩ = some (.int .i64 r1) := B_cell Hbw.out hb2 (hc2 k hlt' 1 _ (by rw [HJ.out]; rfl))
        clear hc1 hc2
        by_cases e0 : s0 = r0
        · obtain rfl := e0
          by_cases e1 : s1 = r1
          · obtain rfl := e1
            go_wp2_with fail
            go_quiet (fail)
            go_wp2_with fail
            go_roundw
            case rel => exact ⟨k + 1, by omega, by go_num, take_both (d := (0, 0)) hlt hlt' Hk.out (by rw [HI.out, HJ.out]), bdrewN Hbw.out _⟩
            case measure => simp [intOf]; omega
          · have hne : (s1 == r1) = false := by rw [beq_eq_false_iff_ne]; exact e1
            have HF : Hid (decide (a = b) = false) := by
              unfold Hid
              rw [decide_eq_false_iff_not]
              exact ne_of_getD (0, 0) k (fun h => e1 (by rw [HI.out, HJ.out] at h; simp at h; omega))
            clear e1
            go_wp2_with fail
            go_quiet (fail)
            go_wp2_with fail
            go_ret
            exact gb HF.out (bdrewN Hbw.out _)
        · have hne : (s0 == r0) = false := by rw [beq_eq_false_iff_ne]; exact e0
          have HF : Hid (decide (a = b) = false) := by
            unfold Hid
            rw [decide_eq_false_iff_not]
            exact ne_of_getD (0, 0) k (fun h => e0 (by rw [HI.out, HJ.out] at h; simp at h; omega))
          clear e0
          go_wp2_with fail
          go_quiet (fail)
          go_wp2_with fail
          go_ret
          exact gb HF.out (bdrewN Hbw.out _)
      · obtain rfl : k = a.length := by omega
        have HT : Hid (decide (a = b) = true) := by
          unfold Hid
          rw [decide_eq_true_eq]
          exact eq_of_take Hlen.out Hk.out
        go_wp2_with fail
        go_ret
        exact gb HT.out Hbw.out
  · have hbe : (a.length != b.length) = true := by rw [bne_iff_ne]; exact hlen
    have hbi : (((a.length : Nat) : Int) != ((b.length : Nat) : Int)) = true := by rw [bne_iff_ne]; omega
    have HF : Hid (decide (a = b) = false) := by
      unfold Hid
      rw [decide_eq_false_iff_not]
      intro e
      exact hlen (by rw [e])
    clear hlen
    go_enter Tryz.func86, Tryz.ntmps86
    go_wp2_with fail
    go_ret
    exact gb HF.out (Below.refl _ _)
end Go.Proofs.YtmiknfneeipkeaaGreat
namespace Go.Proofs.YtmiknfneeipkeaaGreat
open Go.RowKit Go.MapKept Go.ChangeMaps Go.Shelf Go.Sort
abbrev MP := MR × Man
def keyM (m : Man) : ID := wholeP m.ids
def cnOf (p : MP) : CN := (keyM p.2, p.1)
def OneM (ms : List Man) : Prop := ∀ a ∈ ms, ∀ b ∈ ms, keyM a = keyM b → a.ids = b.ids
def ConM (ms ys : List Man) : Prop := ys.Pairwise (fun a b => ltID (keyM a) (keyM b) = true) ∧ ∀ m, m ∈ ys ↔ m ∈ ms
theorem conM_uniq {ms ys zs : List Man} (h : ConM ms ys) (h' : ConM ms zs) : ys = zs := by
  have key : ∀ {a b : List Man}, a.Pairwise (fun x y => ltID (keyM x) (keyM y) = true) → b.Pairwise (fun x y => ltID (keyM x) (keyM y) = true) → (∀ m, m ∈ a ↔ m ∈ b) → a = b := by
    intro a
    induction a with
    | nil =>
      intro b _ _ h
      cases b with
      | nil => rfl
      | cons x b => exact absurd ((h x).2 (.head _)) (by simp)
    | cons x a ih =>
      intro b ha hb h
      cases b with
      | nil => exact absurd ((h x).1 (.head _)) (by simp)
      | cons y b =>
        obtain ⟨a1, a2⟩ := List.pairwise_cons.1 ha
        obtain ⟨b1, b2⟩ := List.pairwise_cons.1 hb
        have hxy : x = y := by
          rcases List.mem_cons.1 ((h x).1 (.head _)) with e | hx
          · exact e
          · rcases List.mem_cons.1 ((h y).2 (.head _)) with e | hy
            · exact e.symm
            · have h1 := b1 x hx
              have h2 := a1 y hy
              have := swoID.trans (keyM x) (keyM y) (keyM x) (by rw [lt_cmpID]; exact h2) (by rw [lt_cmpID]; exact h1)
              rw [swoID.irrefl] at this
              cases this
        subst hxy
        have hn : ∀ (l : List Man), (∀ m ∈ l, ltID (keyM x) (keyM m) = true) → x ∉ l := fun l hl hx => by
          have := hl x hx
          rw [← lt_cmpID, swoID.irrefl] at this
          cases this
        rw [ih a2 b2 (fun m => ?_)]
        constructor
        · intro hm
          rcases List.mem_cons.1 ((h m).1 (List.mem_cons_of_mem _ hm)) with e | h1
          · exact absurd (e ▸ hm) (hn a a1)
          · exact h1
        · intro hm
          rcases List.mem_cons.1 ((h m).2 (List.mem_cons_of_mem _ hm)) with e | h1
          · exact absurd (e ▸ hm) (hn b b1)
          · exact h1
  exact key h.1 h'.1 (fun m => (h.2 m).trans (h'.2 m).symm)
theorem snocInd {α : Type} {P : List α → Prop} (h0 : P []) (h1 : ∀ l a, P l → P (l ++ [a])) (l : List α) : P l := by
  have : ∀ (n : Nat) (l : List α), l.length = n → P l := by
    intro n
    induction n with
    | zero => intro l hl; rw [List.eq_nil_of_length_eq_zero hl]; exact h0
    | succ n ih =>
      intro l hl
      rcases List.eq_nil_or_concat l with rfl | ⟨l', a, rfl⟩
      · exact h0
      · rw [List.concat_eq_append] at *
        exact h1 _ _ (ih l' (by simpa using hl))
  exact this _ l rfl
def ddStep (acc : List MP) (p : MP) : List MP := if (acc.getLast?.map fun q => keyM q.2) = some (keyM p.2) then acc else acc ++ [p]
def ddM (l : List MP) : List MP := l.foldl ddStep []
theorem ddM_snoc (l : List MP) (p : MP) : ddM (l ++ [p]) = ddStep (ddM l) p := by simp [ddM]
theorem ddM_nil : ddM [] = [] := rfl
theorem ddM_len (l : List MP) : (ddM l).length ≤ l.length := by
  refine snocInd (P := fun l => (ddM l).length ≤ l.length) (by simp [ddM_nil]) (fun l p ih => ?_) l
  rw [ddM_snoc, ddStep]
  split
  · simp; omega
  · simp; omega
theorem ddM_sub (l : List MP) : ∀ p ∈ ddM l, p ∈ l := by
  refine snocInd (P := fun l => ∀ p ∈ ddM l, p ∈ l) (fun p hp => by cases hp) (fun l p ih => ?_) l
  intro q hq
  rw [ddM_snoc, ddStep] at hq
  split at hq
  · exact List.mem_append_left _ (ih q hq)
  · rcases List.mem_append.1 hq with h | h
    · exact List.mem_append_left _ (ih q h)
    · exact List.mem_append_right _ h
theorem ddM_key (l : List MP) (p : MP) : ((ddM (l ++ [p])).getLast?.map fun q => keyM q.2) = some (keyM p.2) := by
  rw [ddM_snoc, ddStep]
  split
  · assumption
  · simp
theorem ddM_mem (l : List MP) : ∀ p ∈ l, ∃ q ∈ ddM l, keyM q.2 = keyM p.2 := by
  refine snocInd (P := fun l => ∀ p ∈ l, ∃ q ∈ ddM l, keyM q.2 = keyM p.2) (fun p hp => by cases hp) (fun l p ih => ?_) l
  intro r hr
  rcases List.mem_append.1 hr with h | h
  · obtain ⟨q, hq, e⟩ := ih r h
    refine ⟨q, ?_, e⟩
    rw [ddM_snoc, ddStep]
    split
    · exact hq
    · exact List.mem_append_left _ hq
  · rw [List.mem_singleton.1 h]
    have hk := ddM_key l p
    cases hl : (ddM (l ++ [p])).getLast? with
    | none =>
      rw [hl] at hk
      cases hk
    | some q =>
      rw [hl] at hk
      exact ⟨q, List.mem_of_getLast? hl, by simpa using hk⟩
theorem ltID_tot {x y : ID} (h1 : ltID x y = false) (h2 : ltID y x = false) : x = y := by
  simp only [ltID, decide_eq_false_iff_not] at h1 h2
  exact Prod.ext (by omega) (by omega)
theorem ltID_irr (x : ID) : ltID x x = false := by simp [ltID]
def SortM (l : List MP) : Prop := l.Pairwise (fun a b => ltID (keyM b.2) (keyM a.2) = false)
theorem ddM_asc (l : List MP) : SortM l → (ddM l).Pairwise (fun a b => ltID (keyM a.2) (keyM b.2) = true) := by
  refine snocInd (P := fun l => SortM l → (ddM l).Pairwise (fun a b => ltID (keyM a.2) (keyM b.2) = true)) (fun _ => .nil) (fun l p ih hs => ?_) l
  have hs1 := List.pairwise_append.1 hs
  have ha := ih hs1.1
  rw [ddM_snoc, ddStep]
  split
  · exact ha
  · rename_i hne
    refine List.pairwise_append.2 ⟨ha, List.pairwise_singleton _ _, fun q hq r hr => ?_⟩
    rw [List.mem_singleton.1 hr]
    have h1 := hs1.2.2 q (ddM_sub l q hq) p (.head _)
    cases hlt : ltID (keyM q.2) (keyM p.2) with
    | true => rfl
    | false =>
      have e := ltID_tot hlt h1
      exfalso
      have hnil : ddM l ≠ [] := List.ne_nil_of_mem hq
      have hd := List.dropLast_concat_getLast hnil
      have hlast := List.getLast?_eq_some_getLast hnil
      rw [hlast] at hne
      have hne' : keyM ((ddM l).getLast hnil).2 ≠ keyM p.2 := fun h => hne (by simp [h])
      rw [← hd] at hq
      rcases List.mem_append.1 hq with h | h
      · rw [← hd] at ha
        have h2 := (List.pairwise_append.1 ha).2.2 q h _ (.head _)
        have h3 := hs1.2.2 _ (ddM_sub l _ (List.getLast_mem hnil)) p (.head _)
        rw [e] at h2
        rw [h2] at h3
        cases h3
      · rw [List.mem_singleton.1 h] at e
        exact hne' e
def GoodM (l : List MP) : Prop := ∀ p ∈ l, ∀ q ∈ ddM l, keyM q.2 = keyM p.2 → q.2.ids = p.2.ids
theorem good_same {l : List MP} {p q : MP} (hg : GoodM l) (hl : (ddM l).getLast? = some q) (hk : keyM q.2 = keyM p.2) (hi : q.2.ids = p.2.ids) : ddM (l ++ [p]) = ddM l ∧ GoodM (l ++ [p]) := by
  have e : ddM (l ++ [p]) = ddM l := by rw [ddM_snoc, ddStep, if_pos (by rw [hl]; simp [hk])]
  refine ⟨e, fun p' hp' q' hq' he => ?_⟩
  rw [e] at hq'
  rcases List.mem_append.1 hp' with h | h
  · exact hg p' h q' hq' he
  · rw [List.mem_singleton.1 h] at he ⊢
    rw [← hi]
    exact hg q (ddM_sub l q (List.mem_of_getLast? hl)) q' hq' (he.trans hk.symm)
theorem good_new {l : List MP} {p : MP} (hs : SortM (l ++ [p])) (hg : GoodM l) (hl : ∀ q, (ddM l).getLast? = some q → keyM q.2 ≠ keyM p.2) : ddM (l ++ [p]) = ddM l ++ [p] ∧ GoodM (l ++ [p]) := by
  have e : ddM (l ++ [p]) = ddM l ++ [p] := by
    rw [ddM_snoc, ddStep, if_neg]
    intro h
    cases hq : (ddM l).getLast? with
    | none => rw [hq] at h; cases h
    | some q =>
      rw [hq] at h
      exact hl q hq (by simpa using h)
  have ha := ddM_asc _ hs
  rw [e] at ha
  have hne : ∀ q ∈ ddM l, keyM q.2 ≠ keyM p.2 := fun q hq h => by
    have := (List.pairwise_append.1 ha).2.2 q hq p (.head _)
    rw [h, ltID_irr] at this
    cases this
  refine ⟨e, fun p' hp' q' hq' he => ?_⟩
  rw [e] at hq'
  rcases List.mem_append.1 hp' with h | h <;> rcases List.mem_append.1 hq' with h' | h'
  · exact hg p' h q' h' he
  · rw [List.mem_singleton.1 h'] at he
    obtain ⟨r, hr1, hr2⟩ := ddM_mem l p' h
    exact absurd (hr2.trans he.symm) (hne r hr1)
  · rw [List.mem_singleton.1 h] at he
    exact absurd he (hne q' h')
  · rw [List.mem_singleton.1 h, List.mem_singleton.1 h']
theorem con_of_sorted {ms : List Man} {Z : List MP} (hv : ∀ m ∈ ms, manE m = 0) (hp : (Z.map (·.2)).Perm ms) (hs : SortM Z) (hg : GoodM Z) : OneM ms ∧ ConM ms ((ddM Z).map (·.2)) := by
  have hin : ∀ m ∈ ms, ∃ p ∈ Z, p.2 = m := fun m hm => by
    have := hp.mem_iff.2 hm
    obtain ⟨p, h1, h2⟩ := List.mem_map.1 this
    exact ⟨p, h1, h2⟩
  have hout : ∀ p ∈ Z, p.2 ∈ ms := fun p h => hp.mem_iff.1 (List.mem_map.2 ⟨p, h, rfl⟩)
  have ha := ddM_asc Z hs
  refine ⟨fun a ha' b hb' he => ?_, List.pairwise_map.2 ha, fun m => ⟨fun hm => ?_, fun hm => ?_⟩⟩
  · obtain ⟨p, hp1, rfl⟩ := hin a ha'
    obtain ⟨q, hq1, rfl⟩ := hin b hb'
    obtain ⟨r, hr1, hr2⟩ := ddM_mem Z p hp1
    rw [← hg p hp1 r hr1 hr2, ← hg q hq1 r hr1 (hr2.trans he)]
  · obtain ⟨q, hq, rfl⟩ := List.mem_map.1 hm
    exact hout q (ddM_sub Z q hq)
  · obtain ⟨p, hp1, rfl⟩ := hin m hm
    obtain ⟨r, hr1, hr2⟩ := ddM_mem Z p hp1
    have he := hg p hp1 r hr1 hr2
    have h1 := (manE_zero (hv _ hm)).2.1
    have h2 := (manE_zero (hv _ (hout r (ddM_sub Z r hr1)))).2.1
    refine List.mem_map.2 ⟨r, hr1, ?_⟩
    show r.2 = p.2
    cases hr : r.2 with
    | mk rz ri =>
      cases hpp : p.2 with
      | mk pz pi =>
        rw [hr, hpp] at he
        rw [hpp] at h1
        rw [hr] at h2
        simp only at he h1 h2
        subst he
        rw [h1, h2]
theorem perm_map_inv {α β : Type} (f : α → β) {l l' : List β} (h : l.Perm l') : ∀ P : List α, P.map f = l → ∃ Z : List α, Z.Perm P ∧ Z.map f = l' := by
  induction h with
  | nil =>
    intro P hP
    exact ⟨P, List.Perm.refl _, hP⟩
  | cons x _ ih =>
    intro P hP
    cases P with
    | nil => simp at hP
    | cons p P =>
      simp only [List.map_cons, List.cons.injEq] at hP
      obtain ⟨Z, h1, h2⟩ := ih P hP.2
      exact ⟨p :: Z, h1.cons p, by simp [hP.1, h2]⟩
  | swap x y l =>
    intro P hP
    match P, hP with
    | p :: q :: P, hP =>
      simp only [List.map_cons, List.cons.injEq] at hP
      exact ⟨q :: p :: P, List.Perm.swap _ _ _, by simp [hP.1, hP.2.1, hP.2.2]⟩
  | trans _ _ ih1 ih2 =>
    intro P hP
    obtain ⟨Z, h1, h2⟩ := ih1 P hP
    obtain ⟨Y, h3, h4⟩ := ih2 Z h2
    exact ⟨Y, h3.trans h1, h4⟩
end Go.Proofs.YtmiknfneeipkeaaGreat
