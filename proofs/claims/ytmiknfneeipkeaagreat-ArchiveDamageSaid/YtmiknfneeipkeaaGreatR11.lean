/- Contracts of the walk, part 11. -/
import Derived.IntWalk
import Derived.Laws.MakeOwn
import Derived.RegionTactic
import Derived.ChangeAlike
import Derived.Shelf.SlSortCmp.NoneTotal
import Derived.Shelf.SlicesE.Clone
import Derived.Ground.SlsfProg
import Derived.Ground.SlgnProg
import Derived.Ground.NamesProg
import Derived.Shelf.SlGeneric
import Derived.Test.YtmiknfneeipkeaaGreatProg
import Derived.Test.YtmiknfneeipkeaaGreatR03
import Derived.Test.YtmiknfneeipkeaaGreatR01
import Derived.Test.YtmiknfneeipkeaaGreatR10
import Derived.Test.YtmiknfneeipkeaaGreatR04
import Derived.Test.YtmiknfneeipkeaaGreatR05
namespace Go.Proofs.YtmiknfneeipkeaaGreat
open Go.RowKit Go.MapKept Go.ChangeMaps Go.Shelf Go.Sort
def foldI (v n : Int) : Int := if n ≤ 1 then 0 else if v.tmod n < 0 then v.tmod n + n else v.tmod n
theorem foldI_in (v n : Int) : 0 ≤ foldI v n ∧ (1 < n → foldI v n < n) := by
  unfold foldI
  split
  · omega
  · have t1 := tmod_lt' v n (by omega)
    have t2 := tmod_gt' v n (by omega)
    split <;> omega
set_option maxHeartbeats 400000 in
theorem Fold_x (v n : Int) (w : World) (hn : n ≤ 4294967296) : Calls Tryz.prog 29 #[.int .i64 v, .int .i64 n] w (fun e w' => e = .returned (.int .i64 (foldI v n)) ∧ w = w') := by
  by_cases h1 : n ≤ 1
  · have e : foldI v n = 0 := if_pos h1
    rw [e]
    go_enter Tryz.func29, Tryz.ntmps29
    go_wp2
    go_ret
    exact ⟨rfl, rfl⟩
  · have t1 := tmod_lt' v n (by omega)
    have t2 := tmod_gt' v n (by omega)
    have e : foldI v n = if v.tmod n < 0 then v.tmod n + n else v.tmod n := if_neg h1
    rw [e]
    obtain ⟨t, ht⟩ : ∃ t, v.tmod n = t := ⟨_, rfl⟩
    rw [ht] at t1 t2 ⊢
    have hn0 : (n == 0) = false := by rw [beq_eq_false_iff_ne]; omega
    have hnm : (n == -1) = false := by rw [beq_eq_false_iff_ne]; omega
    by_cases h2 : t < 0
    · rw [if_pos h2]
      go_enter Tryz.func29, Tryz.ntmps29
      go_wp2
      go_ret
      exact ⟨rfl, rfl⟩
    · rw [if_neg h2]
      go_enter Tryz.func29, Tryz.ntmps29
      go_wp2
      go_ret
      exact ⟨rfl, rfl⟩
def tapeV (L : List Int) (n : Nat) : Int := if n < L.length then L.getD n 0 else ((n : Int) * 7).tmod 11
def tnext (L : List Int) (n : Nat) (k : Int) : Int := foldI (tapeV L n) k
theorem tnext_in (L : List Int) (n : Nat) (k : Int) : 0 ≤ tnext L n k ∧ (1 < k → tnext L n k < k) := foldI_in _ _
def RdL (w : World) (g : Nat) (A : Option Addr) (L : List Int) : Prop := 0 < L.length → ∃ b o, A = some ⟨b, o, none⟩ ∧ b < w.heap.size ∧ b ≠ g ∧ ∀ j, j < L.length → w.cell? ⟨b, o + j, none⟩ = some (.int .i64 (L.getD j 0))
def tpOb (g : Nat) (A : Option Addr) (c : Nat) (L : List Int) (n : Nat) : Ob where
  own := fun i => i = g
  rd := fun i => 0 < L.length ∧ ∃ o, A = some ⟨i, o, none⟩
  holds := fun w => IsB w g 26 #[.slice A L.length c, .int .i64 n] ∧ RdL w g A L ∧ L.length ≤ 9223372036854775807
  stable := fun w w' h hs hk => by
    refine ⟨(hk g (.inl rfl)).trans h.1, fun hp => ?_, h.2.2⟩
    obtain ⟨b, o, e, hlt, hne, hc⟩ := h.2.1 hp
    have h2 := hk b (.inr ⟨hp, o, e⟩)
    refine ⟨b, o, e, Nat.lt_of_lt_of_le hlt hs.2.2.2, hne, fun j hj => ?_⟩
    rw [← hc j hj]
    simp [World.cell?, h2]
section
variable {b : Nat} {w0 w : World} {l : List Ob} {g : Nat} {A : Option Addr} {c : Nat} {L : List Int} {n : Nat}
theorem SW.tick (h : SW b w0 l w) (k : Nat) (hk : l[k]? = some (tpOb g A c L n)) : SW b w0 (l.set k (tpOb g A c L (n + 1))) (w.setCell ⟨g, 1, none⟩ (.int .i64 ((n : Int) + 1))) := by
  have hh := h.get k hk
  have hgr : w.grownBy (w.setCell ⟨g, 1, none⟩ (.int .i64 ((n : Int) + 1))) (some g) := g_set (p := ⟨g, 1, none⟩) (g_refl _ _) (.inl rfl) _
  have hlt := hh.1.lt
  have hsz : (w.setCell ⟨g, 1, none⟩ (.int .i64 ((n : Int) + 1))).heap.size = w.heap.size := by simp [World.setCell]
  have hnew : (tpOb g A c L (n + 1)).holds (w.setCell ⟨g, 1, none⟩ (.int .i64 ((n : Int) + 1))) := by
    refine ⟨by simpa using hh.1.set_ 1 (.int .i64 ((n : Int) + 1)), fun hp => ?_, hh.2.2⟩
    obtain ⟨b', o, e, hl, hne, hc⟩ := hh.2.1 hp
    exact ⟨b', o, e, by rw [hsz]; exact hl, hne, fun j hj => (g_cell hgr hl hne).trans (hc j hj)⟩
  have := h.1.stepAt k hk (o' := tpOb g A c L (n + 1)) (Fr.grown hgr rfl (fun i hi => .inl hi)) (fun i hi => .inr (.inl hi)) hnew (fun i hi => by
    rw [hsz]
    rcases hi with hi | ⟨hp, o, e⟩
    · have hi : i = g := hi
      rw [hi]
      exact hlt
    · obtain ⟨b', o', e', hl, _⟩ := hh.2.1 hp
      rw [e] at e'
      injection e' with e'
      injection e' with e' _
      rw [e']
      exact hl)
  exact ⟨this.1, h.2.trans this.2⟩
set_option maxRecDepth 100000 in
set_option maxHeartbeats 1000000 in
theorem Next_x (h : SW b w0 l w) (k : Nat) (hk : l[k]? = some (tpOb g A c L n)) (m : Int) (hm : m ≤ 4294967296) (hn : n ≤ 1000000) :
    Calls Tryz.prog 9 #[vPtr g, .int .i64 m] w (fun e w' => e = .returned (.int .i64 (tnext L n m)) ∧ SW b w0 (l.set k (tpOb g A c L (n + 1))) w') := by
  have hh := h.get k hk
  have hc0 : w.cell? ⟨g, 0, none⟩ = some (.slice A L.length c) := hh.1.cell 0
  have hc1 : w.cell? ⟨g, 1, none⟩ = some (.int .i64 n) := hh.1.cell 1
  have hf1 : w.frozen? ⟨g, 1, none⟩ = false := hh.1.frozen 1
  have H1 := Lib.hid (fun q : Nat => (h.on (bdrewN (Below.refl _ _) q)).tick k hk)
  have h3 := hh.2.2
  by_cases hlt : n < L.length
  · obtain ⟨b', o, rfl, hb, _, hc⟩ := hh.2.1 (by omega)
    have hcl : w.cell? ⟨b', o + n, none⟩ = some (.int .i64 (L.getD n 0)) := hc n hlt
    have et : tapeV L n = L.getD n 0 := if_pos hlt
    unfold tnext
    rw [et]
    clear hc hh h et
    obtain ⟨v, Hv⟩ : ∃ v, Hid (L.getD n 0 = v) := ⟨_, rfl⟩
    rw [Hv.out] at hcl ⊢
    have hltb : decide (n < L.length) = true := by simp; omega
    go_enter Tryz.func9, Tryz.ntmps9
    go_wp2_with fail
    go_quiet (fail)
    go_wp2_with fail
    go_quiet (fail)
    go_wp2_with fail
    refine (Fold_x v m _ hm).mono ?_
    rintro e w1 ⟨rfl, rfl⟩
    go_wp2_with fail
    go_ret
    exact ⟨rfl, H1.out _⟩
  · have et : tapeV L n = ((n : Int) * 7).tmod 11 := if_neg hlt
    unfold tnext
    rw [et]
    clear hh h et
    have hltb : decide (n < L.length) = false := by simp; omega
    go_enter Tryz.func9, Tryz.ntmps9
    go_wp2_with fail
    go_quiet (fail)
    go_wp2_with fail
    refine (Fold_x _ m _ hm).mono ?_
    rintro e w1 ⟨rfl, rfl⟩
    go_wp2_with fail
    go_ret
    exact ⟨rfl, H1.out _⟩
end
end Go.Proofs.YtmiknfneeipkeaaGreat
namespace Go.Proofs.YtmiknfneeipkeaaGreat
open Go.RowKit Go.MapKept Go.ChangeMaps Go.Shelf Go.Sort
attribute [local go_sem] wext_cell
def tbytes (L : List Int) (n : Nat) (k : Int) : Nat → List UInt8
  | 0 => []
  | c + 1 => tbytes L n k c ++ [UInt8.ofNat (tnext L (n + c) k).toNat]
theorem tbytes_len (L : List Int) (n : Nat) (k : Int) : ∀ c, (tbytes L n k c).length = c
  | 0 => rfl
  | c + 1 => by rw [tbytes, List.length_append, tbytes_len L n k c]; rfl
theorem sb_const (w : World) (g : Nat) (hg : g = w.heap.size) (bs : List UInt8) (fr : Nat × Nat) : SB (w.alloc (.cells (bs.map encU).toArray 5 fr)) (some ⟨g, 0, none⟩) bs := by
  subst hg
  refine ⟨(fun e => by cases e), fun ad e j u hu => ?_⟩
  injection e with e
  subst e
  rw [lit_add, Nat.zero_add]
  have : (w.alloc (.cells (bs.map encU).toArray 5 fr)).heap[w.heap.size]? = some (.cells (bs.map encU).toArray 5 fr) := heap_alloc_new w _
  rw [cell_of_row _ _ j _ _ _ this, List.getElem?_toArray]
  exact hu
theorem mk_slice (w : World) (n : Nat) (hn : n ≤ 100000) : ∃ cs : Array Value, n ≤ cs.size ∧ (Instr.makeSlice 40 (.int .i64 0) (.int .i64 n)).run Tryz.prog w = .ok (.slice (some ⟨w.heap.size, 0, none⟩) 0 n) (w.alloc (.cells cs 5)) := by
  obtain ⟨i0, hi, hz0, hz1, hz2⟩ := info_parts info5
  have := run_makeSlice (P := Tryz.prog) w 40 5 i0 _ Tryz.underlying40 hi hz0 .i64 .i64 0 n (by omega) (by omega) (by rw [hz1]; omega) (by rw [hz2]; omega) (by omega)
  simp only [Int.toNat_zero, Int.toNat_natCast] at this
  exact ⟨_, by rw [size_madeCells, hz1]; omega, this⟩
section
variable {b : Nat} {w0 w w' : World} {l : List Ob} {g : Nat} {A : Option Addr} {c : Nat} {L : List Int} {n : Nat}
theorem SW.newBuT {d : BD} {bs : List UInt8} (h : SW b w0 l w) (hb : Below w.heap.size w w') (hr : RB w' d bs) (hn : ∀ g, blk d = some g → w.heap.size ≤ g) : SW b w0 (bufOb d bs :: l) w' := by
  have := h.1.add (o' := bufOb d bs) hb hr (fun i hi => ⟨hn i hi, hr.lt hi⟩) (fun i hi => hi.elim) (fun i hi => hi.elim)
  exact ⟨this.1, h.2.trans this.2⟩
theorem SW.appB {d d' : BD} {bs bs' : List UInt8} (h : SW b w0 l w) (k : Nat) (hk : l[k]? = some (bufOb d bs)) (ha : AppB w d bs' d' w') : SW b w0 (l.set k (bufOb d' bs')) w' := ⟨(h.1.app k hk ha).1, h.2.trans (h.1.app k hk ha).2⟩
set_option maxRecDepth 100000 in
set_option maxHeartbeats 4000000 in
theorem Bytes_x (h : SW b w0 l w) (kk : Nat) (hk : l[kk]? = some (tpOb g A c L n)) (m : Nat) (k : Int) (hm : m ≤ 10000) (hk1 : 1 < k) (hk2 : k ≤ 256) (hn : n + m ≤ 1000000) :
    Calls Tryz.prog 35 #[vPtr g, .int .i64 m, .int .i64 k] w (fun e w' => ∃ d, e = .returned (.slice d.A d.len d.cap) ∧ SW b w0 (bufOb d (tbytes L n k m) :: l.set kk (tpOb g A c L (n + m))) w') := by
  obtain ⟨cs, hcs, hmk⟩ := mk_slice w m (by omega)
  have hmx : max (m : Int) 0 = m := by omega
  have hkl : kk < l.length := (List.getElem?_eq_some_iff.1 hk).1
  have S0 : Hid (SW b w0 (bufOb ⟨some ⟨w.heap.size, 0, none⟩, 0, m⟩ [] :: l) (w.alloc (.cells cs 5))) := h.newBuT ((Below.refl _ _).alloc (Nat.le_refl _) _) (new_bytes w cs _ _ _ _ rfl rfl (Nat.zero_le _) hcs (by simp)) (fun g hg => by simp [blk] at hg; omega)
  have HK := Lib.hid hk
  clear h hk
  go_enter Tryz.func35, Tryz.ntmps35
  go_wp2_with fail
  go_loopw [7, 8] (fun v i wr => ∃ (j : Nat) (d : BD), j ≤ m ∧ i = .int .i64 j ∧ v = .slice d.A d.len d.cap ∧ SW b w0 (bufOb d (tbytes L n k j) :: l.set kk (tpOb g A c L (n + j))) wr) (fun _ i _ => m - (intOf i).toNat)
  case atStart =>
    refine ⟨0, ⟨some ⟨w.heap.size, 0, none⟩, 0, m⟩, by omega, rfl, rfl, ?_⟩
    have e : l.set kk (tpOb g A c L (n + 0)) = l := set_self l kk _ HK.out
    rw [e]
    exact S0.out
  case round =>
    obtain ⟨j, d, hj, rfl, rfl, hs⟩ := hrel
    have S1 := Lib.hid hs
    clear hs hmk S0
    have HN := Lib.hid (Next_x S1.out (kk + 1) (by rw [List.getElem?_cons_succ, List.getElem?_set_self hkl]) k (by omega) (by omega))
    simp only [List.set_cons_succ, List.set_set] at HN
    by_cases hlt : j < m
    · go_wp2_with (first
        | (go_at_call 9; (with_reducible refine HN.out.mono ?_); refine halt_ ?_)
        | (at_builtin; refine halt_ ?_))
      rintro e w1 ⟨rfl, s2⟩
      have S2 := Lib.hid s2
      clear s2 HN
      obtain ⟨hy0, hy1⟩ := tnext_in L (n + j) k
      have hy1 := hy1 hk1
      have HT : Hid (tbytes L n k (j + 1) = tbytes L n k j ++ [UInt8.ofNat (tnext L (n + j) k).toNat]) := rfl
      have HL := Lib.hid (tbytes_len L n k j)
      generalize tbytes L n k j = bs at S1 S2 HL HT
      generalize tnext L (n + j) k = y at hy0 hy1 HT ⊢
      have hyw : IntKind.u8.wrap y = y := IntWalk.u8_in y (by omega)
      obtain ⟨yb, hyb⟩ : ∃ yb : UInt8, ((yb.toNat : Nat) : Int) = y := ⟨UInt8.ofNat y.toNat, by rw [UInt8.toNat_ofNat']; omega⟩
      subst hyb
      have e1 : UInt8.ofNat (((yb.toNat : Nat) : Int)).toNat = yb := by simp
      rw [e1] at HT
      clear S1 e1
      go_wp2_with (at_builtin; refine halt_ ?_)
      have hrb : RB w1 d bs := S2.out.get 0 (o := bufOb d bs) rfl
      have SB1 : Hid (SB (w1.alloc (.cells #[.int .u8 ((yb.toNat : Nat) : Int)] 5)) (some ⟨w1.heap.size, 0, none⟩) [yb]) := sb_const w1 _ rfl [yb] (0, 0)
      refine wpList_append_bytes rfl _ _ rfl d bs rfl (hrb.on (bel1 _ _)) (some ⟨w1.heap.size, 0, none⟩) 1 [yb] rfl SB1.out (by rw [HL.out]; simp only [List.length_cons, List.length_nil]; omega) ?_
      intro d2 w2 hl2 happ
      have S3 : Hid (SW b w0 (bufOb d2 (tbytes L n k (j + 1)) :: l.set kk (tpOb g A c L (n + (j + 1)))) w2) := by
        rw [Hid, HT.out]
        have := (S2.out.alloc (.cells #[.int .u8 ((yb.toNat : Nat) : Int)] 5)).appB 0 rfl happ
        exact this
      clear happ hl2 hyw hy0 hy1 hrb SB1 S2
      go_wp2_with fail
      go_roundw
      case rel => exact ⟨j + 1, d2, by omega, by go_num, rfl, S3.out⟩
      case measure => simp [intOf]; omega
    · obtain rfl : j = m := by omega
      go_wp2_with fail
      go_ret
      exact ⟨d, rfl, S1.out⟩
end
end Go.Proofs.YtmiknfneeipkeaaGreat
namespace Go.Proofs.YtmiknfneeipkeaaGreat
open Go.RowKit Go.MapKept Go.ChangeMaps Go.Shelf Go.Sort
attribute [local go_sem] wext_cell
def numD (bs : List UInt8) (at_ : Nat) (f : Bool) (most : Nat) : Nat × Nat × Bool :=
  if f = true then (0, at_, true) else match takeU 0 0 (bs.drop at_) with
  | some (v, n) => if most < v then (0, at_, true) else (v, at_ + n, false)
  | none => (0, at_, true)
theorem numD_at (bs : List UInt8) (a : Nat) (f : Bool) (most : Nat) (h : a ≤ bs.length) : (numD bs a f most).2.1 ≤ bs.length ∧ (numD bs a f most).1 ≤ most ∧ a ≤ (numD bs a f most).2.1 := by
  unfold numD
  split
  · exact ⟨h, Nat.zero_le _, Nat.le_refl _⟩
  · split
    · rename_i v n e
      have := takeU_le _ _ _ _ _ e
      rw [List.length_drop] at this
      split
      · exact ⟨h, Nat.zero_le _, Nat.le_refl _⟩
      · exact ⟨by simp only; omega, by simp only; omega, by simp only; omega⟩
    · exact ⟨h, Nat.zero_le _, Nat.le_refl _⟩
section
variable {b : Nat} {w0 w w' : World} {l : List Ob}
set_option maxRecDepth 100000 in
set_option maxHeartbeats 4000000 in
theorem number_any {A : Option Addr} {c : Nat} {bs : List UInt8} {ga gf gb k : Nat} {f : Bool} (h : SW b w0 (cellOb ga 3 #[.int .i64 (k : Int)] :: cellOb gf 4 #[.bool f] :: cellOb gb 40 #[.slice A bs.length c] :: l) w) (hr : rsOb A bs ∈ l) (hA : A = none → c = 0) (hc : bs.length ≤ c) (hc2 : bs.length ≤ 9223372036854775807) (hk : k ≤ bs.length) (most : Nat) :
    Calls Tryz.prog 221 #[.int .u64 (most : Int), vPtr gb, vPtr ga, vPtr gf] w (fun e w' => e = .returned (.int .u64 ((numD bs k f most).1 : Int)) ∧ SW b w0 (cellOb ga 3 #[.int .i64 ((numD bs k f most).2.1 : Int)] :: cellOb gf 4 #[.bool (numD bs k f most).2.2] :: cellOb gb 40 #[.slice A bs.length c] :: l) w') := by
  have S0 := Lib.hid h
  have hR : RS w A bs := h.1.holds (rsOb A bs) (.tail _ (.tail _ (.tail _ hr)))
  have HU := Lib.hid (codecUint_any A c bs k w hR hA hc hc2 hk)
  have a0 := (h.cell 0 rfl).cell 0
  have f0 := (h.cell 1 rfl).cell 0
  have b0 := (h.cell 2 rfl).cell 0
  have az := fun o => (h.cell 0 rfl).frozen o
  have fz := fun o => (h.cell 1 rfl).frozen o
  clear h hR
  go_enter Tryz.func221, Tryz.ntmps221
  go_wp2_with (go_at_call 193; (with_reducible refine HU.out.mono ?_); refine halt_ ?_)
  rintro e w1 ⟨rfl, hu⟩
  cases f with
  | true =>
    have HN : Hid (numD bs k true most = (0, k, true)) := by rw [Hid, numD, if_pos rfl]
    rcases hu with ⟨v, n, ht, rfl⟩ | ⟨ht, q, hq, rfl⟩
    · have S1 := Lib.hid (S0.out.setAt 1 rfl 0 (.bool true))
      clear ht HU S0
      go_wp2_with fail
      go_ret
      exact ⟨by rw [HN.out]; rfl, by rw [HN.out]; exact S1.out⟩
    · have S1 := Lib.hid (S0.out.setAt 1 rfl 0 (.bool true))
      clear ht hq HU S0
      go_wp2_with fail
      go_ret
      exact ⟨by rw [HN.out]; rfl, by rw [HN.out]; exact S1.out⟩
  | false =>
    rcases hu with ⟨v, n, ht, rfl⟩ | ⟨ht, q, hq, rfl⟩
    · have hn := takeU_le _ _ _ _ _ ht
      by_cases hm : most < v
      · have HN : Hid (numD bs k false most = (0, k, true)) := by rw [Hid, numD, if_neg (by simp), ht]; simp only; rw [if_pos hm]
        have S1 := Lib.hid (S0.out.setAt 1 rfl 0 (.bool true))
        have hmi : (most : Int) < (v : Int) := by omega
        have hmd : decide ((most : Int) < (v : Int)) = true := decide_eq_true hmi
        have hmd2 : decide (most < v) = true := decide_eq_true hm
        clear ht HU S0 hn
        go_wp2_with fail
        go_ret
        exact ⟨by rw [HN.out]; rfl, by rw [HN.out]; exact S1.out⟩
      · have HN : Hid (numD bs k false most = (v, k + n, false)) := by rw [Hid, numD, if_neg (by simp), ht]; simp only; rw [if_neg hm]
        have SA := Lib.hid (S0.out.setAt 1 rfl 0 (.bool false))
        have a1 := (SA.out.cell 0 rfl).cell 0
        have az1 := fun o => (SA.out.cell 0 rfl).frozen o
        have f1 := (SA.out.cell 1 rfl).cell 0
        have S1 := Lib.hid ((S0.out.setAt 1 rfl 0 (.bool false)).setAt 0 rfl 0 (.int .i64 ((k + n : Nat) : Int)))
        have hmd : decide ((most : Int) < (v : Int)) = false := decide_eq_false (by omega)
        have hmd2 : decide (most < v) = false := decide_eq_false hm
        clear ht HU S0 hn
        go_wp2_with fail
        go_ret
        exact ⟨by rw [HN.out]; rfl, by rw [HN.out]; exact S1.out⟩
    · have HN : Hid (numD bs k false most = (0, k, true)) := by rw [Hid, numD, if_neg (by simp), ht]
      have S1 := Lib.hid (S0.out.setAt 1 rfl 0 (.bool true))
      have hqn : (q != 0) = true := by rw [bne_iff_ne]; exact hq
      clear ht hq HU S0
      go_wp2_with fail
      go_ret
      exact ⟨by rw [HN.out]; rfl, by rw [HN.out]; exact S1.out⟩
end
end Go.Proofs.YtmiknfneeipkeaaGreat
namespace Go.Proofs.YtmiknfneeipkeaaGreat
open Go.RowKit
attribute [local go_sem] wext_cell
def sumZ (l : List ID) : Int := (l.map (·.2)).sum
theorem sumZ_snoc (l : List ID) (i : ID) : sumZ (l ++ [i]) = sumZ l + i.2 := by simp [sumZ]
structure Man where
  size : Int
  ids : List ID
structure MR where
  size : Int
  A : Option Addr
  len : Nat
  cap : Nat
def encMR (r : MR) : List Value := [.int .i64 r.size, .slice r.A r.len r.cap]
def mr0 : MR := ⟨0, none, 0, 0⟩
def man0 : Man := ⟨0, []⟩
theorem encMR_len (r : MR) : (encMR r).length = 2 := rfl
def Link (w : World) (x : Nat) (r : MR) (m : Man) : Prop := r.size = m.size ∧ r.len = m.ids.length ∧ r.len ≤ r.cap ∧ RdID w x r.A m.ids
def RdM (w : World) (x : Nat) (A : Option Addr) (ms : List Man) : Prop :=
  ∃ rs : List MR, Rd encMR 2 mr0 w x A rs ∧ rs.length = ms.length ∧ ∀ j, j < ms.length → Link w x (rs.getD j mr0) (ms.getD j man0)
theorem RdM.on {w w' : World} {x : Nat} {A : Option Addr} {ms : List Man} (h : RdM w x A ms) (hb : Below w.heap.size w w') : RdM w' x A ms := by
  obtain ⟨rs, h1, h2, h3⟩ := h
  exact ⟨rs, h1.on hb, h2, fun j hj => let ⟨a, b, c, d⟩ := h3 j hj; ⟨a, b, c, d.on hb⟩⟩
theorem RdM.gr {w w' : World} {x : Nat} {A : Option Addr} {ms : List Man} (h : RdM w x A ms) (hb : w.grownBy w' (some x)) : RdM w' x A ms := by
  obtain ⟨rs, h1, h2, h3⟩ := h
  exact ⟨rs, h1.gr hb, h2, fun j hj => let ⟨a, b, c, d⟩ := h3 j hj; ⟨a, b, c, d.gr hb⟩⟩
theorem getD_snoc_lt {α : Type} (l : List α) (y d : α) (j : Nat) (h : j < l.length) : (l ++ [y]).getD j d = l.getD j d := by
  rw [List.getD_eq_getElem?_getD, List.getD_eq_getElem?_getD, List.getElem?_append_left h]
theorem getD_snoc_eq {α : Type} (l : List α) (y d : α) (j : Nat) (h : j = l.length) : (l ++ [y]).getD j d = y := by
  subst h
  rw [List.getD_eq_getElem?_getD, List.getElem?_append_right (Nat.le_refl _)]
  simp
def validB (i : ID) : Bool := decide (0 ≤ i.2) && decide (i.2 ≤ 1048576) && decide (i.1 < 2305843009213693951) && (decide (0 < i.2) || i.1 == 0)
set_option maxHeartbeats 1000000 in
theorem Valid_any (s z : Int) (w : World) : Calls Tryz.prog 112 #[.agg #[.int .u64 s, .int .i64 z]] w (Gives (.bool (validB (s, z))) w) := by
  have fin : ∀ b : Bool, validB (s, z) = b → ∀ W, W = w.alloc (.cells #[.int .u64 s, .int .i64 z] 36) → Gives (.bool (validB (s, z))) w (.returned (.bool b)) W := by
    rintro b h W rfl
    exact ⟨by rw [h], bel1 _ _⟩
  by_cases h1 : 0 ≤ z
  · by_cases h2 : z ≤ 1048576
    · by_cases h3 : s < 2305843009213693951
      · by_cases h4 : 0 < z
        · go_enter Tryz.func112, Tryz.ntmps112
          go_wp2_with fail
          go_ret
          exact fin _ (by simp [validB]; omega) _ rfl
        · by_cases h5 : s = 0
          · subst h5
            have V : Hid (validB (0, z) = true) := by simp [Hid, validB]; omega
            go_enter Tryz.func112, Tryz.ntmps112
            go_wp2_with fail
            go_ret
            exact fin _ V.out _ rfl
          · have hb : (s == 0) = false := by rw [beq_eq_false_iff_ne]; exact h5
            go_enter Tryz.func112, Tryz.ntmps112
            go_wp2_with fail
            go_ret
            exact fin _ (by simp [validB]; omega) _ rfl
      · go_enter Tryz.func112, Tryz.ntmps112
        go_wp2_with fail
        go_ret
        exact fin _ (by simp [validB]; omega) _ rfl
    · go_enter Tryz.func112, Tryz.ntmps112
      go_wp2_with fail
      go_ret
      exact fin _ (by simp [validB]; omega) _ rfl
  · go_enter Tryz.func112, Tryz.ntmps112
    go_wp2_with fail
    go_ret
    exact fin _ (by simp [validB]; omega) _ rfl
set_option maxHeartbeats 1000000 in
theorem rValid_any (s z : Int) (w : World) : Calls Tryz.prog 78 #[.agg #[.int .u64 s, .int .i64 z]] w (Gives (.bool (validB (s, z))) w) := by
  have fin : ∀ b : Bool, validB (s, z) = b → ∀ W, W = w.alloc (.cells #[.int .u64 s, .int .i64 z] 36) → Gives (.bool (validB (s, z))) w (.returned (.bool b)) W := by
    rintro b h W rfl
    exact ⟨by rw [h], bel1 _ _⟩
  by_cases h1 : 0 ≤ z
  · by_cases h2 : z ≤ 1048576
    · by_cases h3 : s < 2305843009213693951
      · by_cases h4 : 0 < z
        · go_enter Tryz.func78, Tryz.ntmps78
          go_wp2_with fail
          go_ret
          exact fin _ (by simp [validB]; omega) _ rfl
        · by_cases h5 : s = 0
          · subst h5
            have V : Hid (validB (0, z) = true) := by simp [Hid, validB]; omega
            go_enter Tryz.func78, Tryz.ntmps78
            go_wp2_with fail
            go_ret
            exact fin _ V.out _ rfl
          · have hb : (s == 0) = false := by rw [beq_eq_false_iff_ne]; exact h5
            go_enter Tryz.func78, Tryz.ntmps78
            go_wp2_with fail
            go_ret
            exact fin _ (by simp [validB]; omega) _ rfl
      · go_enter Tryz.func78, Tryz.ntmps78
        go_wp2_with fail
        go_ret
        exact fin _ (by simp [validB]; omega) _ rfl
    · go_enter Tryz.func78, Tryz.ntmps78
      go_wp2_with fail
      go_ret
      exact fin _ (by simp [validB]; omega) _ rfl
  · go_enter Tryz.func78, Tryz.ntmps78
    go_wp2_with fail
    go_ret
    exact fin _ (by simp [validB]; omega) _ rfl
def chunkB (i : ID) : Bool := validB i && decide (1 ≤ i.2) && decide (i.2 ≤ 8192)
def manE (m : Man) : Int := if 1024 < m.ids.length then 251 else if m.ids.all chunkB = false then 250 else if m.size = sumZ m.ids ∧ m.size ≤ 1048576 then 0 else 252
theorem getD_mem {α : Type} (l : List α) (d : α) (k : Nat) (h : k < l.length) : l.getD k d ∈ l := by
  rw [List.getD_eq_getElem?_getD, List.getElem?_eq_getElem h]
  exact List.getElem_mem h
theorem take_snoc {α : Type} (l : List α) (d : α) (k : Nat) (h : k < l.length) : l.take (k + 1) = l.take k ++ [l.getD k d] := by
  rw [List.take_add_one, List.getD_eq_getElem?_getD, List.getElem?_eq_getElem h]
  rfl
theorem chunkB_sound {i : ID} (h : chunkB i = true) : 1 ≤ i.2 ∧ i.2 ≤ 8192 := by
  simp [chunkB] at h
  omega
theorem sum_take_bd {l : List ID} : ∀ {k : Nat}, (l.take k).all chunkB = true → 0 ≤ sumZ (l.take k) ∧ sumZ (l.take k) ≤ 8192 * k := by
  have key : ∀ (l : List ID), l.all chunkB = true → 0 ≤ sumZ l ∧ sumZ l ≤ 8192 * l.length := by
    intro l
    induction l with
    | nil => intro _; simp [sumZ]
    | cons i l ih =>
      intro h
      rw [List.all_cons, Bool.and_eq_true] at h
      have h1 := chunkB_sound h.1
      have h2 := ih h.2
      simp only [sumZ, List.map_cons, List.sum_cons, List.length_cons] at *
      omega
  intro k h
  have := key _ h
  have hl : (l.take k).length ≤ k := by rw [List.length_take]; omega
  omega
theorem manE_bad {m : Man} {k : Nat} (hl : m.ids.length ≤ 1024) (hk : k < m.ids.length) (h : chunkB (m.ids.getD k (0, 0)) = false) : manE m = 250 := by
  unfold manE
  rw [if_neg (by omega), if_pos]
  rw [List.all_eq_false]
  exact ⟨_, getD_mem _ _ _ hk, by rw [h]; simp⟩
theorem manE_end {m : Man} (hl : m.ids.length ≤ 1024) (h : m.ids.all chunkB = true) : manE m = if m.size = sumZ m.ids ∧ m.size ≤ 1048576 then 0 else 252 := by
  unfold manE
  rw [if_neg (by omega), if_neg (by simp [h])]
set_option maxHeartbeats 2000000 in
theorem manCheck_any (x : Nat) (m : Man) (A : Option Addr) (c : Nat) (w : World) (hr : RdID w x A m.ids) (hn : m.ids.length ≤ 9223372036854775807) :
    Calls Tryz.prog 74 #[.agg #[.int .i64 m.size, .slice A m.ids.length c]] w (Gives (.int .i64 (manE m)) w) := by
  have Hr := Lib.hid hr
  clear hr
  by_cases hl : m.ids.length ≤ 1024
  · go_enter Tryz.func74, Tryz.ntmps74
    go_wp2_with fail
    go_loopw [3, 13] (fun n i wr => ∃ k : Nat, k ≤ m.ids.length ∧ i = .int .i64 k ∧ n = .int .i64 (sumZ (m.ids.take k)) ∧ (m.ids.take k).all chunkB = true ∧ IsB wr w.heap.size 33 #[.int .i64 m.size, .slice A m.ids.length c] ∧ Below w.heap.size w wr) (fun _ i _ => m.ids.length - (intOf i).toNat)
    case atStart => exact ⟨0, Nat.zero_le _, rfl, by simp [sumZ], by simp, IsB.new _ _ _, bel1 _ _⟩
    case round =>
      obtain ⟨k, hk, rfl, rfl, hall, hB, hb⟩ := hrel
      have hsz := hb.size
      have hbd := sum_take_bd hall
      have HB := Lib.hid hB
      have Hall := Lib.hid hall
      clear hB hall
      obtain ⟨S, HS⟩ : ∃ S, Hid (sumZ (m.ids.take k) = S) := ⟨_, rfl⟩
      rw [HS.out] at hbd ⊢
      by_cases hlt : k < m.ids.length
      · obtain ⟨b, o, rfl, hbB, _, hc⟩ := Hr.out (by omega)
        obtain ⟨s, z, HI⟩ : ∃ s z, Hid (m.ids.getD k (0, 0) = (s, z)) := ⟨_, _, rfl⟩
        have hc0 : wr.cell? ⟨b, o + k * 2, none⟩ = some (.int .u64 s) := by rw [hb.cell (p := ⟨b, o + k * 2, none⟩) hbB]; exact hc k hlt 0 _ (by rw [HI.out]; rfl)
        have hc1 : wr.cell? ⟨b, o + k * 2 + 1, none⟩ = some (.int .i64 z) := by rw [hb.cell (p := ⟨b, o + k * 2 + 1, none⟩) hbB]; exact hc k hlt 1 _ (by rw [HI.out]; rfl)
        clear hc
        go_wp2_with fail
        refine (Valid_any s z _).mono ?_
        rintro e w1 ⟨rfl, hb1⟩
        have hn0 : w1.cell? ⟨wr.heap.size, 0, none⟩ = some (.int .u64 s) := by rw [hb1.cell (p := ⟨wr.heap.size, 0, none⟩) (by simp)]; exact new_cell _ _ _ _ rfl 0
        have hn1 : w1.cell? ⟨wr.heap.size, 1, none⟩ = some (.int .i64 z) := by rw [hb1.cell (p := ⟨wr.heap.size, 1, none⟩) (by simp)]; exact new_cell _ _ _ _ rfl 1
        have hbw : Hid (Below w.heap.size w w1) := (hb.alloc hb.size _).trans (hb1.mono (by simp; omega))
        have HB1 : Hid (IsB w1 w.heap.size 33 #[.int .i64 m.size, .slice (some ⟨b, o, none⟩) m.ids.length c]) := (HB.out.alloc _).on hb1
        clear hb1
        cases hv : validB (s, z) with
        | false =>
          have HE : Hid (manE m = 250) := manE_bad hl hlt (by rw [HI.out]; simp [chunkB, hv])
          clear hv
          go_wp2_with fail
          go_ret
          exact gv HE.out (hbw.out)
        | true =>
          by_cases h1 : z < 1
          · have HE : Hid (manE m = 250) := manE_bad hl hlt (by rw [HI.out]; simp [chunkB]; omega)
            clear hv
            go_wp2_with fail
            go_ret
            exact gv HE.out (hbw.out)
          · by_cases h2 : 8192 < z
            · have HE : Hid (manE m = 250) := manE_bad hl hlt (by rw [HI.out]; simp [chunkB]; omega)
              clear hv
              go_wp2_with fail
              go_ret
              exact gv HE.out (hbw.out)
            · have HC : Hid (chunkB (s, z) = true) := by simp [Hid, chunkB, hv]; omega
              clear hv
              go_wp2_with fail
              go_roundw
              case rel => exact ⟨k + 1, by omega, by go_num, by rw [take_snoc _ (0, 0) _ hlt, sumZ_snoc, HS.out, HI.out], by rw [take_snoc _ (0, 0) _ hlt, List.all_append, Hall.out, HI.out]; simp [HC.out], HB1.out, hbw.out⟩
              case measure => simp [intOf]; omega
      · obtain rfl : k = m.ids.length := by omega
        rw [List.take_length] at Hall HS
        have hE := manE_end hl Hall.out
        rw [HS.out] at hE
        have hc0 : wr.cell? ⟨w.heap.size, 0, none⟩ = some (.int .i64 m.size) := by rw [HB.out.cell]; rfl
        by_cases h1 : m.size = S
        · subst h1
          by_cases h2 : m.size ≤ 1048576
          · rw [if_pos ⟨rfl, h2⟩] at hE
            have HE := Lib.hid hE
            clear hE
            go_wp2_with fail
            go_ret
            exact gv HE.out (hb)
          · rw [if_neg (by omega)] at hE
            have HE := Lib.hid hE
            clear hE
            go_wp2_with fail
            go_ret
            exact gv HE.out (hb)
        · have hbe : (m.size != S) = true := by rw [bne_iff_ne]; exact h1
          rw [if_neg (by omega)] at hE
          have HE := Lib.hid hE
          clear hE h1
          go_wp2_with fail
          go_ret
          exact gv HE.out (hb)
  · have HE : Hid (manE m = 251) := by unfold Hid manE; rw [if_pos (by omega)]
    go_enter Tryz.func74, Tryz.ntmps74
    go_wp2_with fail
    go_ret
    exact gv HE.out (bel1 _ _)
set_option maxHeartbeats 2000000 in
theorem rmanCheck_any (x : Nat) (m : Man) (A : Option Addr) (c : Nat) (w : World) (hr : RdID w x A m.ids) (hn : m.ids.length ≤ 9223372036854775807) :
    Calls Tryz.prog 37 #[.agg #[.int .i64 m.size, .slice A m.ids.length c]] w (Gives (.int .i64 (manE m)) w) := by
  have Hr := Lib.hid hr
  clear hr
  by_cases hl : m.ids.length ≤ 1024
  · go_enter Tryz.func37, Tryz.ntmps37
    go_wp2_with fail
    go_loopw [3, 4] (fun n i wr => ∃ k : Nat, k ≤ m.ids.length ∧ i = .int .i64 k ∧ n = .int .i64 (sumZ (m.ids.take k)) ∧ (m.ids.take k).all chunkB = true ∧ IsB wr w.heap.size 33 #[.int .i64 m.size, .slice A m.ids.length c] ∧ Below w.heap.size w wr) (fun _ i _ => m.ids.length - (intOf i).toNat)
    case atStart => exact ⟨0, Nat.zero_le _, rfl, by simp [sumZ], by simp, IsB.new _ _ _, bel1 _ _⟩
    case round =>
      obtain ⟨k, hk, rfl, rfl, hall, hB, hb⟩ := hrel
      have hsz := hb.size
      have hbd := sum_take_bd hall
      have hm0 : wr.cell? ⟨w.heap.size, 0, none⟩ = some (.int .i64 m.size) := by rw [hB.cell]; rfl
      have hm1 : wr.cell? ⟨w.heap.size, 1, none⟩ = some (.slice A m.ids.length c) := by rw [hB.cell]; rfl
      have hBlt := hB.lt
      have HB := Lib.hid hB
      have Hall := Lib.hid hall
      clear hB hall
      obtain ⟨S, HS⟩ : ∃ S, Hid (sumZ (m.ids.take k) = S) := ⟨_, rfl⟩
      rw [HS.out] at hbd ⊢
      by_cases hlt : k < m.ids.length
      · obtain ⟨b, o, rfl, hbB, _, hc⟩ := Hr.out (by omega)
        obtain ⟨s, z, HI⟩ : ∃ s z, Hid (m.ids.getD k (0, 0) = (s, z)) := ⟨_, _, rfl⟩
        have hc0 : wr.cell? ⟨b, o + k * 2, none⟩ = some (.int .u64 s) := by rw [hb.cell (p := ⟨b, o + k * 2, none⟩) hbB]; exact hc k hlt 0 _ (by rw [HI.out]; rfl)
        have hc1 : wr.cell? ⟨b, o + k * 2 + 1, none⟩ = some (.int .i64 z) := by rw [hb.cell (p := ⟨b, o + k * 2 + 1, none⟩) hbB]; exact hc k hlt 1 _ (by rw [HI.out]; rfl)
        clear hc
        go_wp2_with fail
        refine (rValid_any s z _).mono ?_
        rintro e w1 ⟨rfl, hb1⟩
        have hn0 : w1.cell? ⟨wr.heap.size, 0, none⟩ = some (.int .u64 s) := by rw [hb1.cell (p := ⟨wr.heap.size, 0, none⟩) (by simp)]; exact new_cell _ _ _ _ rfl 0
        have hn1 : w1.cell? ⟨wr.heap.size, 1, none⟩ = some (.int .i64 z) := by rw [hb1.cell (p := ⟨wr.heap.size, 1, none⟩) (by simp)]; exact new_cell _ _ _ _ rfl 1
        have hbw : Hid (Below w.heap.size w w1) := (hb.alloc hb.size _).trans (hb1.mono (by simp; omega))
        have HB1 : Hid (IsB w1 w.heap.size 33 #[.int .i64 m.size, .slice (some ⟨b, o, none⟩) m.ids.length c]) := (HB.out.alloc _).on hb1
        clear hb1
        cases hv : validB (s, z) with
        | false =>
          have HE : Hid (manE m = 250) := manE_bad hl hlt (by rw [HI.out]; simp [chunkB, hv])
          clear hv
          go_wp2_with fail
          go_ret
          exact gv HE.out (hbw.out)
        | true =>
          by_cases h1 : z < 1
          · have HE : Hid (manE m = 250) := manE_bad hl hlt (by rw [HI.out]; simp [chunkB]; omega)
            clear hv
            go_wp2_with fail
            go_ret
            exact gv HE.out (hbw.out)
          · by_cases h2 : 8192 < z
            · have HE : Hid (manE m = 250) := manE_bad hl hlt (by rw [HI.out]; simp [chunkB]; omega)
              clear hv
              go_wp2_with fail
              go_ret
              exact gv HE.out (hbw.out)
            · have HC : Hid (chunkB (s, z) = true) := by simp [Hid, chunkB, hv]; omega
              clear hv
              go_wp2_with fail
              go_roundw
              case rel => exact ⟨k + 1, by omega, by go_num, by rw [take_snoc _ (0, 0) _ hlt, sumZ_snoc, HS.out, HI.out], by rw [take_snoc _ (0, 0) _ hlt, List.all_append, Hall.out, HI.out]; simp [HC.out], HB1.out, hbw.out⟩
              case measure => simp [intOf]; omega
      · obtain rfl : k = m.ids.length := by omega
        rw [List.take_length] at Hall HS
        have hE := manE_end hl Hall.out
        rw [HS.out] at hE
        by_cases h1 : m.size = S
        · subst h1
          by_cases h2 : m.size ≤ 1048576
          · rw [if_pos ⟨rfl, h2⟩] at hE
            have HE := Lib.hid hE
            clear hE
            go_wp2_with fail
            go_ret
            exact gv HE.out (hb)
          · rw [if_neg (by omega)] at hE
            have HE := Lib.hid hE
            clear hE
            go_wp2_with fail
            go_ret
            exact gv HE.out (hb)
        · have hbe : (m.size != S) = true := by rw [bne_iff_ne]; exact h1
          rw [if_neg (by omega)] at hE
          have HE := Lib.hid hE
          clear hE h1
          go_wp2_with fail
          go_ret
          exact gv HE.out (hb)
  · have HE : Hid (manE m = 251) := by unfold Hid manE; rw [if_pos (by omega)]
    go_enter Tryz.func37, Tryz.ntmps37
    go_wp2_with fail
    go_ret
    exact gv HE.out (bel1 _ _)
end Go.Proofs.YtmiknfneeipkeaaGreat
namespace Go.Proofs.YtmiknfneeipkeaaGreat
open Go.RowKit Go.MapKept Go.ChangeMaps
attribute [local go_sem] wext_cell
abbrev CT := ID × Int
def encC (c : CT) : List Value := [.int .u64 c.1.1, .int .i64 c.1.2, .int .i64 c.2]
abbrev ct0 : CT := ((0, 0), 0)
abbrev RdC (w : World) (x : Nat) (A : Option Addr) (t : List CT) : Prop := Rd encC 3 ct0 w x A t
abbrev Mp (w : World) (b : Nat) (L : List CT) : Prop := MapIs okID vID vN w b L
theorem zero3 (w : World) : (zeroValue 3).run Tryz.prog w = .ok (.int .i64 0) w := by kernel_rfl
def nAt (L : List CT) (i : ID) : Int := (asc L i).getD 0
theorem Mp.look {w : World} {b : Nat} {L : List CT} (h : Mp w b L) (s z : Int) (ha : okID (s, z)) : (Instr.lookup 118 (.map (some b)) (.agg #[.int .u64 s, .int .i64 z]) false).run Tryz.prog w = .ok (.int .i64 (nAt L (s, z))) w := by
  have := MapIs.look mkI Tryz.underlying118 (zero3 w) h ha false
  rw [show (Value.agg #[.int .u64 s, .int .i64 z]) = vID (s, z) from rfl, this]
  unfold nAt
  cases asc L (s, z) <;> simp
def putN (L : List CT) (i : ID) (n : Int) : List CT := setL L i (nAt L i + n)
theorem nAt_putN (L : List CT) (i j : ID) (n : Int) : nAt (putN L i n) j = if i = j then nAt L i + n else nAt L j := by
  unfold putN
  conv => lhs; unfold nAt
  rw [asc_setL]
  split <;> rfl
theorem Mp.step {W : World} {b : Nat} {L : List CT} (h : Mp W b L) (s z n : Int) (hok : okID (s, z)) :
    ∃ (v0 : Value) (st : Nat) (w1 w3 : World), (Instr.lookup 118 (.map (some b)) (.agg #[.int .u64 s, .int .i64 z]) false).run Tryz.prog W.drew = .ok (.int .i64 (nAt L (s, z))) W.drew ∧
      (Instr.mapEntry 118 (.map (some b)) (.agg #[.int .u64 s, .int .i64 z])).run Tryz.prog W.drew = .ok (.tuple #[v0, .int .i64 st]) w1 ∧
      (Instr.lookup 118 (.map (some b)) (.agg #[.int .u64 s, .int .i64 z]) false).run Tryz.prog w1 = .ok (.int .i64 (nAt L (s, z))) w1 ∧
      (Instr.entryStore 118 (.map (some b)) (.int .i64 st) (.int .i64 (nAt L (s, z) + n))).run Tryz.prog w1 = .ok () w3 ∧ Mp w3 b (putN L (s, z) n) ∧ W.grownBy w3 (some b) ∧ w3.heap.size = W.heap.size := by
  have hd : Mp W.drew b L := h.same rfl
  obtain ⟨v0, st, w1, e1, e2, e3, e4, e5⟩ := MapIs.entry mkI Tryz.underlying118 (z := 0) zero3 hd hok
  obtain ⟨w3, f1, f2, f3, f4⟩ := e5 w1 (nAt L (s, z) + n) rfl
  refine ⟨v0, st, w1, w3, hd.look s z hok, e1, ?_, f1, f2, ?_, f4.trans e3⟩
  · rw [Mp.look e4 s z hok]
    have : nAt (setL L (s, z) ((asc L (s, z)).getD 0)) (s, z) = nAt L (s, z) := by
      unfold nAt
      rw [asc_setL, if_pos rfl]
      rfl
    rw [this]
  · have g1 : W.grownBy W.drew (some b) := ⟨rfl, rfl, rfl, Nat.le_refl _, fun _ _ _ => rfl⟩
    exact g_trans g1 (g_trans e2 f3)
def errM : List Man → Int
  | [] => 0
  | m :: ms => if manE m = 0 then errM ms else manE m
def addIDs (L : List CT) (l : List ID) : List CT := l.foldl (fun L i => putN L i 1) L
theorem errM_snoc (ms : List Man) (m : Man) (h : errM ms = 0) : errM (ms ++ [m]) = manE m := by
  induction ms with
  | nil => simp only [List.nil_append, errM]; split <;> simp_all
  | cons a ms ih =>
    simp only [List.cons_append, errM] at h ⊢
    split at h
    · rename_i e; rw [if_pos e]; exact ih h
    · rename_i e; exact absurd h e
theorem errM_more (ms l : List Man) (h : errM ms ≠ 0) : errM (ms ++ l) = errM ms := by
  induction ms with
  | nil => exact absurd rfl h
  | cons a ms ih =>
    simp only [List.cons_append, errM] at h ⊢
    split
    · rename_i e; rw [if_pos e] at h; exact ih h
    · rfl
theorem errM_at {ms : List Man} {k : Nat} (h : errM (ms.take k) = 0) (hk : k < ms.length) (he : manE (ms.getD k man0) ≠ 0) : errM ms = manE (ms.getD k man0) := by
  have h1 := errM_snoc (ms.take k) (ms.getD k man0) h
  rw [← take_snoc _ _ _ hk] at h1
  have h2 := errM_more (ms.take (k + 1)) (ms.drop (k + 1)) (by rw [h1]; exact he)
  rw [List.take_append_drop, h1] at h2
  exact h2
theorem manE_len {m : Man} (h : manE m = 0) : m.ids.length ≤ 1024 := by
  unfold manE at h
  split at h
  · cases h
  · omega
theorem manE_all {m : Man} (h : manE m = 0) : m.ids.all chunkB = true := by
  unfold manE at h
  split at h
  · cases h
  · split at h
    · cases h
    · rename_i h2
      simpa using h2
end Go.Proofs.YtmiknfneeipkeaaGreat
namespace Go.Proofs
open Go.Shelf
def Tryz.lay82_ren : Go.Shelf.Ren := ⟨fun | 6 => 82 | 15 => 127 | 14 => 126 | 28 => 164 | 29 => 165 | 20 => 156 | 21 => 157 | 22 => 158 | 23 => 159 | 24 => 160 | 25 => 161 | 26 => 162 | 27 => 163 | 46 => 199 | 47 => 200 | 48 => 201 | 49 => 202 | 50 => 203 | 57 => 224 | n => n, fun | 22 => 31 | 24 => 36 | 25 => 115 | 3 => 3 | 39 => 174 | 0 => 0 | 53 => 245 | 55 => 34 | 4 => 4 | 46 => 239 | 45 => 238 | 50 => 113 | 5 => 5 | 9 => 9 | 66 => 275 | 70 => 279 | 76 => 295 | 77 => 296 | n => n, fun | n => n⟩
theorem Tryz.lay82 : Go.Proofs.SlLaysF0.n6 Tryz.prog Tryz.lay82_ren := {
  mixed := by kernel_rfl
  f6 := ⟨Tryz.f82.name, by decide, Tryz.func82.trans (congrArg some (by kernel_rfl))⟩
  f14 := ⟨Tryz.f126.name, by decide, Tryz.func126.trans (congrArg some (by kernel_rfl))⟩
  f15 := Tryz.func127.trans (congrArg some (by kernel_rfl))
  f20 := ⟨Tryz.f156.name, by decide, Tryz.func156.trans (congrArg some (by kernel_rfl))⟩
  f21 := ⟨Tryz.f157.name, by decide, Tryz.func157.trans (congrArg some (by kernel_rfl))⟩
  f22 := ⟨Tryz.f158.name, by decide, Tryz.func158.trans (congrArg some (by kernel_rfl))⟩
  f23 := ⟨Tryz.f159.name, by decide, Tryz.func159.trans (congrArg some (by kernel_rfl))⟩
  f24 := ⟨Tryz.f160.name, by decide, Tryz.func160.trans (congrArg some (by kernel_rfl))⟩
  f25 := ⟨Tryz.f161.name, by decide, Tryz.func161.trans (congrArg some (by kernel_rfl))⟩
  f26 := ⟨Tryz.f162.name, by decide, Tryz.func162.trans (congrArg some (by kernel_rfl))⟩
  f27 := ⟨Tryz.f163.name, by decide, Tryz.func163.trans (congrArg some (by kernel_rfl))⟩
  f28 := Tryz.func164.trans (congrArg some (by kernel_rfl))
  f29 := Tryz.func165.trans (congrArg some (by kernel_rfl))
  f46 := ⟨Tryz.f199.name, by decide, Tryz.func199.trans (congrArg some (by kernel_rfl))⟩
  f47 := Tryz.func200.trans (congrArg some (by kernel_rfl))
  f48 := Tryz.func201.trans (congrArg some (by kernel_rfl))
  f49 := ⟨Tryz.f202.name, by decide, Tryz.func202.trans (congrArg some (by kernel_rfl))⟩
  f50 := ⟨Tryz.f203.name, by decide, Tryz.func203.trans (congrArg some (by kernel_rfl))⟩
  f57 := ⟨Tryz.f224.name, by decide, Tryz.func224.trans (congrArg some (by kernel_rfl))⟩
  t0 := Tryz.underlying0
  a0 := Tryz.isAgg0
  z0 := Tryz.sizeOf0
  v0 := Tryz.zeroValue0
  t3 := Tryz.underlying3
  a3 := Tryz.isAgg3
  z3 := Tryz.sizeOf3
  v3 := Tryz.zeroValue3
  t4 := Tryz.underlying4
  a4 := Tryz.isAgg4
  z4 := Tryz.sizeOf4
  v4 := Tryz.zeroValue4
  t5 := Tryz.underlying5
  a5 := Tryz.isAgg5
  z5 := Tryz.sizeOf5
  v5 := Tryz.zeroValue5
  t9 := Tryz.underlying9
  a9 := Tryz.isAgg9
  z9 := Tryz.sizeOf9
  v9 := Tryz.zeroValue9
  t22 := Tryz.underlying31
  a22 := Tryz.isAgg31
  z22 := Tryz.sizeOf31
  v22 := Tryz.zeroValue31
  t25 := Tryz.underlying115
  a25 := Tryz.isAgg115
  z25 := Tryz.sizeOf115
  v25 := Tryz.zeroValue115
  t39 := Tryz.underlying174
  a39 := Tryz.isAgg174
  z39 := Tryz.sizeOf174
  v39 := Tryz.zeroValue174
  t45 := Tryz.underlying238
  a45 := Tryz.isAgg238
  z45 := Tryz.sizeOf238
  v45 := Tryz.zeroValue238
  t46 := Tryz.underlying239
  a46 := Tryz.isAgg239
  z46 := Tryz.sizeOf239
  v46 := Tryz.zeroValue239
  t50 := Tryz.underlying113
  a50 := Tryz.isAgg113
  z50 := Tryz.sizeOf113
  v50 := Tryz.zeroValue113
  t53 := Tryz.underlying245
  a53 := Tryz.isAgg245
  z53 := Tryz.sizeOf245
  v53 := Tryz.zeroValue245
  t55 := Tryz.underlying34
  a55 := Tryz.isAgg34
  z55 := Tryz.sizeOf34
  v55 := Tryz.zeroValue34
  t66 := Tryz.underlying275
  a66 := Tryz.isAgg275
  z66 := Tryz.sizeOf275
  v66 := Tryz.zeroValue275
  t70 := Tryz.underlying279
  a70 := Tryz.isAgg279
  z70 := Tryz.sizeOf279
  v70 := Tryz.zeroValue279
  t76 := Tryz.underlying295
  a76 := Tryz.isAgg295
  z76 := Tryz.sizeOf295
  v76 := Tryz.zeroValue295
  t77 := Tryz.underlying296
  a77 := Tryz.isAgg296
  z77 := Tryz.sizeOf296
  v77 := Tryz.zeroValue296 }
def Tryz.lay87_ren : Go.Shelf.Ren := ⟨fun | 6 => 87 | 15 => 127 | 14 => 129 | 28 => 164 | 29 => 165 | 20 => 168 | 21 => 169 | 22 => 170 | 23 => 171 | 24 => 172 | 25 => 173 | 26 => 174 | 27 => 175 | 46 => 205 | 47 => 200 | 48 => 201 | 49 => 206 | 50 => 207 | 57 => 226 | n => n, fun | 22 => 23 | 24 => 42 | 25 => 148 | 3 => 3 | 39 => 174 | 0 => 0 | 53 => 245 | 55 => 34 | 4 => 4 | 46 => 239 | 45 => 238 | 50 => 113 | 5 => 5 | 9 => 9 | 66 => 275 | 70 => 279 | 76 => 295 | 77 => 296 | n => n, fun | n => n⟩
theorem Tryz.lay87 : Go.Proofs.SlLaysF0.n6 Tryz.prog Tryz.lay87_ren := {
  mixed := by kernel_rfl
  f6 := ⟨Tryz.f87.name, by decide, Tryz.func87.trans (congrArg some (by kernel_rfl))⟩
  f14 := ⟨Tryz.f129.name, by decide, Tryz.func129.trans (congrArg some (by kernel_rfl))⟩
  f15 := Tryz.func127.trans (congrArg some (by kernel_rfl))
  f20 := ⟨Tryz.f168.name, by decide, Tryz.func168.trans (congrArg some (by kernel_rfl))⟩
  f21 := ⟨Tryz.f169.name, by decide, Tryz.func169.trans (congrArg some (by kernel_rfl))⟩
  f22 := ⟨Tryz.f170.name, by decide, Tryz.func170.trans (congrArg some (by kernel_rfl))⟩
  f23 := ⟨Tryz.f171.name, by decide, Tryz.func171.trans (congrArg some (by kernel_rfl))⟩
  f24 := ⟨Tryz.f172.name, by decide, Tryz.func172.trans (congrArg some (by kernel_rfl))⟩
  f25 := ⟨Tryz.f173.name, by decide, Tryz.func173.trans (congrArg some (by kernel_rfl))⟩
  f26 := ⟨Tryz.f174.name, by decide, Tryz.func174.trans (congrArg some (by kernel_rfl))⟩
  f27 := ⟨Tryz.f175.name, by decide, Tryz.func175.trans (congrArg some (by kernel_rfl))⟩
  f28 := Tryz.func164.trans (congrArg some (by kernel_rfl))
  f29 := Tryz.func165.trans (congrArg some (by kernel_rfl))
  f46 := ⟨Tryz.f205.name, by decide, Tryz.func205.trans (congrArg some (by kernel_rfl))⟩
  f47 := Tryz.func200.trans (congrArg some (by kernel_rfl))
  f48 := Tryz.func201.trans (congrArg some (by kernel_rfl))
  f49 := ⟨Tryz.f206.name, by decide, Tryz.func206.trans (congrArg some (by kernel_rfl))⟩
  f50 := ⟨Tryz.f207.name, by decide, Tryz.func207.trans (congrArg some (by kernel_rfl))⟩
  f57 := ⟨Tryz.f226.name, by decide, Tryz.func226.trans (congrArg some (by kernel_rfl))⟩
  t0 := Tryz.underlying0
  a0 := Tryz.isAgg0
  z0 := Tryz.sizeOf0
  v0 := Tryz.zeroValue0
  t3 := Tryz.underlying3
  a3 := Tryz.isAgg3
  z3 := Tryz.sizeOf3
  v3 := Tryz.zeroValue3
  t4 := Tryz.underlying4
  a4 := Tryz.isAgg4
  z4 := Tryz.sizeOf4
  v4 := Tryz.zeroValue4
  t5 := Tryz.underlying5
  a5 := Tryz.isAgg5
  z5 := Tryz.sizeOf5
  v5 := Tryz.zeroValue5
  t9 := Tryz.underlying9
  a9 := Tryz.isAgg9
  z9 := Tryz.sizeOf9
  v9 := Tryz.zeroValue9
  t22 := Tryz.underlying23
  a22 := Tryz.isAgg23
  z22 := Tryz.sizeOf23
  v22 := Tryz.zeroValue23
  t25 := Tryz.underlying148
  a25 := Tryz.isAgg148
  z25 := Tryz.sizeOf148
  v25 := Tryz.zeroValue148
  t39 := Tryz.underlying174
  a39 := Tryz.isAgg174
  z39 := Tryz.sizeOf174
  v39 := Tryz.zeroValue174
  t45 := Tryz.underlying238
  a45 := Tryz.isAgg238
  z45 := Tryz.sizeOf238
  v45 := Tryz.zeroValue238
  t46 := Tryz.underlying239
  a46 := Tryz.isAgg239
  z46 := Tryz.sizeOf239
  v46 := Tryz.zeroValue239
  t50 := Tryz.underlying113
  a50 := Tryz.isAgg113
  z50 := Tryz.sizeOf113
  v50 := Tryz.zeroValue113
  t53 := Tryz.underlying245
  a53 := Tryz.isAgg245
  z53 := Tryz.sizeOf245
  v53 := Tryz.zeroValue245
  t55 := Tryz.underlying34
  a55 := Tryz.isAgg34
  z55 := Tryz.sizeOf34
  v55 := Tryz.zeroValue34
  t66 := Tryz.underlying275
  a66 := Tryz.isAgg275
  z66 := Tryz.sizeOf275
  v66 := Tryz.zeroValue275
  t70 := Tryz.underlying279
  a70 := Tryz.isAgg279
  z70 := Tryz.sizeOf279
  v70 := Tryz.zeroValue279
  t76 := Tryz.underlying295
  a76 := Tryz.isAgg295
  z76 := Tryz.sizeOf295
  v76 := Tryz.zeroValue295
  t77 := Tryz.underlying296
  a77 := Tryz.isAgg296
  z77 := Tryz.sizeOf296
  v77 := Tryz.zeroValue296 }
end Go.Proofs
