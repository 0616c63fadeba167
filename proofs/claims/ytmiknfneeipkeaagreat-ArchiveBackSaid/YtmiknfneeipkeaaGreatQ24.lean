/- Contracts of the walk, part 24. -/
import Derived.Test.YtmiknfneeipkeaaGreatQ23
import Derived.Test.YtmiknfneeipkeaaGreatQ19
import Derived.Test.YtmiknfneeipkeaaGreatQ22
namespace Go.Proofs.YtmiknfneeipkeaaGreat
open Go.RowKit Go.MapKept Go.ChangeMaps Go.Shelf Go.Sort
attribute [local go_sem] wext_cell
abbrev rdrOb (g : Nat) (A : Option Addr) (n c k : Nat) (X Y : Value) : Ob := cellOb g 231 #[.slice A n c, .int .i64 (k : Int), X, Y]
theorem RS.drewN {w : World} {A : Option Addr} {bs : List UInt8} (h : RS w A bs) (m : Nat) : RS (w.drewN m) A bs := h
section
variable {b : Nat} {w0 w w' : World} {l : List Ob}
theorem SW.drewN (h : SW b w0 l w) (m : Nat) : SW b w0 l (w.drewN m) := h.on (bdrewN (Below.refl _ _) m)
abbrev PUintP (g : Nat) (A : Option Addr) (c k : Nat) (bs : List UInt8) (X Y : Value) (b : Nat) (w0 : World) (l : List Ob) (e : Ending) (w' : World) : Prop :=
  (∃ v n, takeU 0 0 (bs.drop k) = some (v, n) ∧ k + n ≤ bs.length ∧ e = .returned (.tuple #[.int .u64 (v : Int), .bool true]) ∧ SW b w0 (rdrOb g A bs.length c (k + n) X Y :: l) w') ∨
  (takeU 0 0 (bs.drop k) = none ∧ e = .returned (.tuple #[.int .u64 0, .bool false]) ∧ SW b w0 (rdrOb g A bs.length c k X Y :: l) w')
set_option maxRecDepth 100000 in
set_option maxHeartbeats 8000000 in
theorem pUint_any {g : Nat} {A : Option Addr} {c k : Nat} {bs : List UInt8} {X Y : Value} (h : SW b w0 (rdrOb g A bs.length c k X Y :: l) w) (hr : rsOb A bs ∈ l) (hv : (A = none → c = 0) ∧ bs.length ≤ c ∧ bs.length ≤ 9223372036854775807) (hk : k ≤ bs.length) :
    Calls Tryz.prog 198 #[vPtr g] w (PUintP g A c k bs X Y b w0 l) := by
  have S0 := Lib.hid h
  have hR : RS w A bs := h.1.holds (rsOb A bs) (.tail _ hr)
  have HU := Lib.hid (fun m => codecUintQ_any A c bs k (w.drewN m) (hR.drewN m) hv.1 hv.2.1 hv.2.2 hk)
  have a0 := (h.cell 0 rfl).cell 0
  have a1 := (h.cell 0 rfl).cell 1
  have az := fun o => (h.cell 0 rfl).frozen o
  have HK := Lib.hid hk
  clear h hR hv hk
  cases ht : takeU 0 0 (bs.drop k) with
  | none =>
    have HC : Hid (∀ m, Calls Tryz.prog 193 #[.slice A bs.length c, .int .i64 (k : Int)] (w.drewN m) (fun e w' => e = .returned (.tuple #[.int .u64 0, .int .i64 0, .int .i64 (takeE 0 (bs.drop k))]) ∧ w' = w.drewN m)) := fun m => (HU.out m).mono fun e w' h => by
      obtain ⟨rfl, ⟨v', n', h1, _⟩ | ⟨h1, rfl⟩⟩ := h
      · rw [ht] at h1; cases h1
      · exact ⟨rfl, rfl⟩
    have hq : (takeE 0 (bs.drop k) != 0) = true := by rw [bne_iff_ne]; exact takeE_ne _ _
    obtain ⟨q, HQ⟩ : ∃ x, Hid (takeE 0 (bs.drop k) = x) := ⟨_, rfl⟩
    rw [HQ.out] at HC hq
    have HT := Lib.hid ht
    clear HU ht
    go_enter Tryz.func198, Tryz.ntmps198
    go_wp2_with fail
    go_quiet ((go_at_call 193; exact Calls.quiet_of_same (HC.out _)))
    go_wp2_with fail
    have S1 := Lib.hid (S0.out.drewN nq)
    go_ret2
    exact .inr ⟨HT.out, rfl, S1.out⟩
  | some p => 
    obtain ⟨v, n⟩ := p
    have HC : Hid (∀ m, Calls Tryz.prog 193 #[.slice A bs.length c, .int .i64 (k : Int)] (w.drewN m) (fun e w' => e = .returned (.tuple #[.int .u64 (v : Int), .int .i64 ((k + n : Nat) : Int), .int .i64 0]) ∧ w' = w.drewN m)) := fun m => (HU.out m).mono fun e w' h => by
      obtain ⟨rfl, ⟨v', n', h1, rfl⟩ | ⟨h1, rfl⟩⟩ := h
      · rw [ht] at h1
        injection h1 with h1
        injection h1 with h1 h2
        subst h1 h2
        exact ⟨rfl, rfl⟩
      · rw [ht] at h1; cases h1
    have HT := Lib.hid ht
    clear HU ht
    go_enter Tryz.func198, Tryz.ntmps198
    go_wp2_with fail
    go_quiet ((go_at_call 193; exact Calls.quiet_of_same (HC.out _)))
    have hkn : k + n ≤ bs.length := by
      have h1 := takeU_le _ _ _ _ _ HT.out
      rw [List.length_drop] at h1
      have := HK.out
      omega
    go_wp2_with fail
    have S1 := Lib.hid ((S0.out.drewN nq).setAt 0 rfl 1 (.int .i64 ((k : Int) + n)))
    go_ret2
    exact .inl ⟨v, n, HT.out, hkn, rfl, by have e := S1.out; rw [← Int.natCast_add] at e; rw [← Int.natCast_add]; exact e⟩
abbrev PMarkP (g : Nat) (A : Option Addr) (c k : Nat) (bs : List UInt8) (X Y : Value) (b : Nat) (w0 : World) (l : List Ob) (e : Ending) (w' : World) : Prop :=
  (k < bs.length ∧ e = .returned (.tuple #[.int .u8 ((bs.getD k 0).toNat : Int), .bool true]) ∧ SW b w0 (rdrOb g A bs.length c (k + 1) X Y :: l) w') ∨
  (k = bs.length ∧ e = .returned (.tuple #[.int .u8 0, .bool false]) ∧ SW b w0 (rdrOb g A bs.length c k X Y :: l) w')
set_option maxRecDepth 100000 in
set_option maxHeartbeats 8000000 in
theorem pMark_any {g : Nat} {A : Option Addr} {c k : Nat} {bs : List UInt8} {X Y : Value} (h : SW b w0 (rdrOb g A bs.length c k X Y :: l) w) (hr : rsOb A bs ∈ l) (hv : (A = none → c = 0) ∧ bs.length ≤ c ∧ bs.length ≤ 9223372036854775807) (hk : k ≤ bs.length) :
    Calls Tryz.prog 196 #[vPtr g] w (PMarkP g A c k bs X Y b w0 l) := by
  have S0 := Lib.hid h
  have HR := Lib.hid hr
  have a0 := (h.cell 0 rfl).cell 0
  have a1 := (h.cell 0 rfl).cell 1
  have az := fun o => (h.cell 0 rfl).frozen o
  clear h
  obtain ⟨hv1, hv2, hv3⟩ := hv
  by_cases hp : k < bs.length
  · have hge : decide ((bs.length : Int) ≤ (k : Int)) = false := decide_eq_false (by omega)
    have hge2 : decide (bs.length ≤ k) = false := decide_eq_false (by omega)
    go_enter Tryz.func196, Tryz.ntmps196
    go_wp2_with fail
    go_quiet (fail)
    go_upto_region 4 with fail
    have S1 := Lib.hid ((S0.out.drewN nq).setAt 0 rfl 1 (.int .i64 ((k : Int) + 1)))
    obtain ⟨w2, HW⟩ : ∃ W, Hid ((w.drewN nq).setCell ⟨g, 1, none⟩ (.int .i64 ((k : Int) + 1)) = W) := ⟨_, rfl⟩
    rw [HW.out] at S1 ⊢
    clear HW S0 a0 a1 az
    have hR : RS w2 A bs := S1.out.1.holds (rsOb A bs) (.tail _ HR.out)
    cases A with
    | none => exact absurd (hR.1 rfl) (by omega)
    | some ad =>
      obtain ⟨g2, o, rfl, hcell⟩ := hR.2 ad rfl (by omega)
      have hcl := hcell k hp
      obtain ⟨x, HX⟩ : ∃ x, Hid (bs.getD k 0 = x) := ⟨_, rfl⟩
      rw [HX.out] at hcl
      have a0 := (S1.out.cell 0 rfl).cell 0
      have a1 := (S1.out.cell 0 rfl).cell 1
      clear hcell hR
      go_quiet (fail)
      go_wp2_with fail
      have S2 := Lib.hid (S1.out.drewN nq)
      go_ret2
      exact .inl ⟨hp, by rw [HX.out]; rfl, by have e := S2.out; exact e⟩
  · obtain rfl : k = bs.length := by omega
    go_enter Tryz.func196, Tryz.ntmps196
    go_wp2_with fail
    go_quiet (fail)
    go_wp2_with fail
    have S1 := Lib.hid (S0.out.drewN nq)
    go_ret2
    exact .inr ⟨rfl, rfl, S1.out⟩
abbrev PBytesP (g : Nat) (A : Option Addr) (c k n : Nat) (bs : List UInt8) (X Y : Value) (b : Nat) (w0 : World) (l : List Ob) (e : Ending) (w' : World) : Prop :=
  (∃ d, k + n ≤ bs.length ∧ e = .returned (.tuple #[vB d, .bool true]) ∧ SW b w0 (bufOb d ((bs.drop k).take n) :: rdrOb g A bs.length c (k + n) X Y :: l) w') ∨
  (bs.length < k + n ∧ e = .returned (.tuple #[.slice none 0 0, .bool false]) ∧ SW b w0 (rdrOb g A bs.length c k X Y :: l) w')
set_option maxRecDepth 100000 in
set_option maxHeartbeats 8000000 in
theorem pBytes_any {g : Nat} {A : Option Addr} {c k n : Nat} {bs : List UInt8} {X Y : Value} (h : SW b w0 (rdrOb g A bs.length c k X Y :: l) w) (hr : rsOb A bs ∈ l) (hv : (A = none → c = 0) ∧ bs.length ≤ c ∧ bs.length ≤ 9223372036854775807) (hk : k ≤ bs.length) (hn0 : 0 < n) (hn : n ≤ 8192) :
    Calls Tryz.prog 223 #[vPtr g, .int .i64 (n : Int)] w (PBytesP g A c k n bs X Y b w0 l) := by
  have S0 := Lib.hid h
  have HR := Lib.hid hr
  have a0 := (h.cell 0 rfl).cell 0
  have a1 := (h.cell 0 rfl).cell 1
  have az := fun o => (h.cell 0 rfl).frozen o
  have HVV := Lib.hid hv
  clear h
  obtain ⟨hv1, hv2, hv3⟩ := hv
  by_cases hp : bs.length < k + n
  · have hge : decide ((bs.length : Int) - (k : Int) < (n : Int)) = true := decide_eq_true (by omega)
    go_enter Tryz.func223, Tryz.ntmps223
    go_wp2_with fail
    go_quiet (fail)
    go_wp2_with fail
    have S1 := Lib.hid (S0.out.drewN nq)
    go_ret2
    exact .inr ⟨hp, rfl, S1.out⟩
  · have hge : decide ((bs.length : Int) - (k : Int) < (n : Int)) = false := decide_eq_false (by omega)
    go_enter Tryz.func223, Tryz.ntmps223
    go_wp2_with fail
    go_quiet (fail)
    go_upto_region 4 with fail
    have S1 := Lib.hid ((S0.out.drewN nq).setAt 0 rfl 1 (.int .i64 ((k : Int) + n)))
    obtain ⟨w2, HW⟩ : ∃ W, Hid ((w.drewN nq).setCell ⟨g, 1, none⟩ (.int .i64 ((k : Int) + n)) = W) := ⟨_, rfl⟩
    rw [HW.out] at S1 ⊢
    clear HW S0 a0 a1 az
    have hR := S1.out.view (.tail _ HR.out) HVV.out
    have hT := (hR.drop k hk).take n (by rw [List.length_drop]; omega)
    cases A with
    | none => exact absurd (hR.1.1 rfl) (by omega)
    | some ad =>
      obtain ⟨g2, o, rfl, _⟩ := hR.1.2 ad rfl (by omega)
      have HTL : Hid (((bs.drop k).take n).length = n) := by rw [Hid, List.length_take, List.length_drop]; omega
      have HC := Lib.hid (fun q => CloneB_any _ (c - k) _ (w2.drewN q) ((hT.1.drewN q).sb) (by rw [HTL.out]; omega))
      rw [HTL.out] at HC
      have a0 := (S1.out.cell 0 rfl).cell 0
      have a1 := (S1.out.cell 0 rfl).cell 1
      clear hR hT
      refine wp_region_draw_tail 14 (by kernel_rfl) (by kernel_rfl) ?_
      simp only [List.take_succ_cons, List.take_zero, List.drop_succ_cons, List.drop_zero]
      repeat (go_big_quiet_step (fail))
      refine wpQuiet_nil ?_
      intro q
      have hkc : ((k : Int) + n) - n = k := by omega
      have hsub : k + n - k = n := by omega
      have hcn : ¬ c = k := by omega
      have HCC := Lib.hid (HC.out q)
      rw [cutA, if_neg hcn] at HCC
      simp only [Option.map_some] at HCC
      clear HC
      go_wp2_with (go_at_call 68; (with_reducible refine HCC.out.mono ?_); refine halt_ ?_)
      rintro e w5 ⟨d, rfl, hrb, hfr, hb5⟩
      have S9 : Hid (SW b w0 (bufOb d ((bs.drop k).take n) :: rdrOb g (some ⟨g2, o, none⟩) bs.length c (k + n) X Y :: l) w5) := by
        have h1 := (S1.out.drewN q).newBuT hb5 hrb hfr
        have e := h1
        rw [← Int.natCast_add] at e
        exact e
      clear hrb hfr hb5 HCC
      go_wp2_with fail
      go_ret2
      exact .inl ⟨d, by omega, rfl, S9.out⟩
end
end Go.Proofs.YtmiknfneeipkeaaGreat
namespace Go.Proofs.YtmiknfneeipkeaaGreat
open Go.RowKit Go.MapKept Go.ChangeMaps Go.Shelf Go.Sort
def bsOb (S : List CH) : Ob where
  own := fun _ => False
  rd := fun i => ∃ e ∈ S, 0 < e.2.bs.length ∧ ∃ o, e.2.d.A = some ⟨i, o, none⟩
  holds := fun w => ∀ e ∈ S, BSok w e.2
  stable := fun w w' h hs hk => fun e he => (h e he).keep (fun i hi => hk i (.inr ⟨e, he, hi⟩))
section
variable {b : Nat} {w0 w w' : World} {l : List Ob}
theorem SW.bufsBs {T : List BS} {S : List CH} (h : SW b w0 (bufsOb T :: l) w) (hs : ∀ e ∈ S, e.2 ∈ T) : SW b w0 (bsOb S :: l) w := by
  have hT : (bufsOb T).holds w := h.get 0 rfl
  refine SW.fuse (pre := [bufsOb T]) h (fun e he => ?_) (fun _ h => h) (fun i hi => ?_)
  · have hr := hT _ (hs e he)
    exact ⟨hr.rs, hr.1.symm, hr.2.1⟩
  · obtain ⟨e, he, _, o, ho⟩ := hi
    exact ⟨_, .head _, .inr ⟨e.2, hs e he, by simp [blk, ho]⟩⟩
theorem SW.bsSub {S S' : List CH} (h : SW b w0 (bsOb S :: l) w) (hs : ∀ e ∈ S', e ∈ S) : SW b w0 (bsOb S' :: l) w := by
  have hT : (bsOb S).holds w := h.get 0 rfl
  refine SW.fuse (pre := [bsOb S]) h (fun e he => hT e (hs e he)) (fun _ h => h) (fun i hi => ?_)
  obtain ⟨e, he, hp⟩ := hi
  exact ⟨_, .head _, .inr ⟨e, hs e he, hp⟩⟩
theorem SW.bsCons {S : List CH} {d : BD} {bs : List UInt8} (h : SW b w0 (bxOb d bs :: bsOb S :: l) w) (i : ID) (hd : d.len = bs.length ∧ d.len ≤ d.cap) : SW b w0 (bsOb ((i, ⟨d, bs⟩) :: S) :: l) w := by
  have hX := h.get 0 (o := bxOb d bs) rfl
  have hT : (bsOb S).holds w := h.get 1 rfl
  refine SW.fuse (pre := [bxOb d bs, bsOb S]) h (fun e he => ?_) (fun _ h => h) (fun j hj => ?_)
  · rcases List.mem_cons.1 he with rfl | he
    · exact ⟨SB.rs (hX.1.elim (fun r => r.src) (fun r => r.2.2.2)), hd.1, hd.2⟩
    · exact hT e he
  · obtain ⟨e, he, hp, o, ho⟩ := hj
    rcases List.mem_cons.1 he with rfl | he
    · exact ⟨_, .head _, .inl (by show blk d = some j; simp only at ho; simp [blk, ho])⟩
    · exact ⟨_, .tail _ (.head _), .inr ⟨e, he, hp, o, ho⟩⟩
end
end Go.Proofs.YtmiknfneeipkeaaGreat
