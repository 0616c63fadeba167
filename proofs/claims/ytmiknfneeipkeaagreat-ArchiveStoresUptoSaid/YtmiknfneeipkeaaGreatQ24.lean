/- Contracts of the walk, part 24. -/
import Derived.Laws.IdiomCopy
import Derived.IntWalk
import Derived.Laws.MakeOwn
import Derived.BigRegion
import Derived.Test.YtmiknfneeipkeaaGreatQ23
import Derived.Test.YtmiknfneeipkeaaGreatQ11
import Derived.Test.YtmiknfneeipkeaaGreatQ04
import Derived.Test.YtmiknfneeipkeaaGreatQ15
namespace Go.Proofs.YtmiknfneeipkeaaGreat
open Go.RowKit

theorem mk_bytes (w : World) (n c : Nat) (h : n ≤ c) (hc : c ≤ 16777216) : (Instr.makeSlice 40 (.int .i64 n) (.int .i64 c)).run Tryz.prog w = .ok (.slice (some ⟨w.heap.size, 0, none⟩) n c) (w.alloc (.cells (Array.replicate c (encU 0)) 5)) := by
  obtain ⟨i0, hi, hz0, hz1, hz2⟩ := info_parts info5
  have := run_makeSlice (P := Tryz.prog) w 40 5 i0 _ Tryz.underlying40 hi hz0 .i64 .i64 n c (by omega) (by omega) (by rw [hz1]; simp; omega) (by rw [hz2]; omega) (by omega)
  simp only [Int.toNat_natCast] at this
  have e : madeCells (Value.int IntKind.u8 0).cells c = (Array.replicate c (encU 0)) := Array.ext' (by rw [show (Value.int IntKind.u8 0).cells = #[Value.int IntKind.u8 0] from rfl, toList_madeCells_one]; simp [encU])
  rw [this, hz1, Nat.mul_one, e]
theorem setCells_tail (b : Nat) {t : TypeId} : ∀ (vs : List Value) (o : Nat) (w : World) (cur : Array Value), IsB w b t cur → ∃ cur', IsB (w.setCells b o vs) b t cur' ∧ cur'.size = cur.size ∧ (∀ j, j < o → cur'[j]? = cur[j]?) ∧ (∀ j, j < vs.length → o + j < cur.size → cur'[o + j]? = vs[j]?) ∧ ∀ j, o + vs.length ≤ j → cur'[j]? = cur[j]?
  | [], _, _, cur, h => ⟨cur, h, rfl, fun _ _ => rfl, (fun j hj => absurd hj (by simp)), fun _ _ => rfl⟩
  | v :: r, o, w, cur, h => by
    obtain ⟨cur', c1, c2, c3, c4, c5⟩ := setCells_tail b r (o + 1) (w.setCell ⟨b, o, none⟩ v) (cur.setIfInBounds o v) (h.set_ o v)
    refine ⟨cur', c1, by simpa using c2, fun j hj => ?_, fun j hj hs => ?_, fun j hj => ?_⟩
    · rw [c3 j (by omega), Array.getElem?_setIfInBounds_ne (by omega)]
    · cases j with
      | zero =>
        rw [Nat.add_zero, c3 o (by omega), Array.getElem?_setIfInBounds_self_of_lt (by omega)]
        rfl
      | succ j =>
        have := c4 j (by simpa using hj) (by simp; omega)
        rw [show o + (j + 1) = o + 1 + j by omega, this]
        rfl
    · simp only [List.length_cons] at hj
      rw [c5 j (by omega), Array.getElem?_setIfInBounds_ne (by omega)]
/-- copy onto the head of a block of bytes. -/
theorem run_copyB (w : World) (ty : TypeId) (g dLen dCap : Nat) (cur : Array Value) (hg : IsB w g 5 cur) (A : Option Addr) (c : Nat) (bs : List UInt8) (hs : SB w A bs) (hfit : min bs.length dLen ≤ cur.size) :
    ∃ w', (Builtin.copy_ #[40, 40] ty #[.slice (some ⟨g, 0, none⟩) dLen dCap, .slice A bs.length c]).run Tryz.prog w = .ok (goInt ((min bs.length dLen : Nat) : Int)) w' ∧ w.grownBy w' (some g) ∧ w'.heap.size = w.heap.size ∧
      ∃ cur', IsB w' g 5 cur' ∧ cur'.size = cur.size ∧ (∀ j, j < min bs.length dLen → cur'[j]? = some (encU (bs.getD j 0))) ∧ ∀ j, min bs.length dLen ≤ j → cur'[j]? = cur[j]? := by
  have hsz : (Tryz.prog.info? 5).map (·.size) = some 1 := by
    obtain ⟨i0, hi, _, hz1, _⟩ := info_parts info5
    rw [hi]
    simp [hz1]
  by_cases h0 : min bs.length dLen = 0
  · refine ⟨w, ?_, g_refl _ _, rfl, cur, hg, rfl, fun j hj => by omega, fun _ _ => rfl⟩
    rw [h0]
    exact run_copy_none w 40 40 ty 5 _ A dLen dCap bs.length c Tryz.underlying40 hsz h0
  · cases A with
    | none =>
      have := hs.1 rfl
      omega
    | some ad =>
      have hl : ((bs.take dLen).map encU).length = Nat.min bs.length dLen := by
        rw [List.length_map, List.length_take]
        exact Nat.min_comm _ _
      have hl2 : ((bs.take dLen).map encU).length = min bs.length dLen := hl
      have hr := run_copy_cells (P := Tryz.prog) w 40 40 ty 5 g 0 dLen dCap ad bs.length c ((bs.take dLen).map encU) Tryz.underlying40 hsz hl
        (fun j v hv => by
          refine hs.2 ad rfl j v ?_
          obtain ⟨hj, hv'⟩ := List.getElem?_eq_some_iff.1 hv
          have hj2 : j < dLen := by rw [hl2] at hj; omega
          rw [← hv, List.map_take, List.getElem?_take_of_lt hj2])
        (fun j hj => by
          rw [Nat.zero_add, hg.cell, Array.getElem?_eq_getElem (by omega)]
          rfl) (fun j _ => hg.frozen _) (encU_one _)
      obtain ⟨cur', c1, c2, c3, c4, c5⟩ := setCells_tail g ((bs.take dLen).map encU) 0 w cur hg
      obtain ⟨e1, e2, e3, e4⟩ := setCells_world g ((bs.take dLen).map encU) 0 w
      rw [hl2] at hr
      refine ⟨_, hr, ⟨e1, e2, e3, by omega, fun i _ hne => setCells_heap g _ _ w i (fun e => hne (by rw [e]))⟩, e4, cur', c1, c2, fun j hj => ?_, fun j hj => c5 j (by rw [hl2]; omega)⟩
      have := c4 j (by rw [hl2]; exact hj) (by omega)
      rw [Nat.zero_add] at this
      rw [this, List.getElem?_map, List.getElem?_take_of_lt (by omega), List.getD_eq_getElem?_getD, List.getElem?_eq_getElem (by omega)]
      rfl
theorem get_encU {bs : List UInt8} {j : Nat} {u : Value} (h : (bs.map encU)[j]? = some u) : j < bs.length ∧ u = encU (bs.getD j 0) := by
  obtain ⟨hj, hu⟩ := List.getElem?_eq_some_iff.1 h
  have hj' : j < bs.length := by simpa using hj
  refine ⟨hj', ?_⟩
  rw [← hu, List.getElem_map, List.getD_eq_getElem?_getD, List.getElem?_eq_getElem hj']
  rfl
set_option maxRecDepth 100000 in
set_option maxHeartbeats 1000000 in
theorem extended_any (A : Option Addr) (c : Nat) (bs : List UInt8) (n : Nat) (w : World) (h : SB w A bs) (hn : bs.length ≤ 1000000) (hk : n ≤ 1000) :
    Calls Tryz.prog 92 #[.slice A bs.length c, .int .i64 (n : Int)] w (NewB bs w) := by
  have hmk := mk_bytes w bs.length (bs.length + n) (by omega) (by omega)
  rw [Int.natCast_add] at hmk
  have hB : IsB (w.alloc (.cells (Array.replicate (bs.length + n) (encU 0)) 5)) w.heap.size 5 (Array.replicate (bs.length + n) (encU 0)) := IsB.new _ _ _
  obtain ⟨w1, hcp, hg, hz, cur', c1, c2, c3, c4⟩ := run_copyB _ 3 w.heap.size bs.length (bs.length + n) _ hB A c bs (h.on (bel1q _ _) h.lt) (by simp)
  rw [Nat.min_self] at hcp c3 c4
  have HG := Lib.hid hg
  have C1 := Lib.hid c1
  have C2 := Lib.hid c2
  have C3 := Lib.hid c3
  clear hg hz c1 c2 c3 c4 hB h
  go_enter Tryz.func92, Tryz.ntmps92
  go_wp2_with fail
  go_ret
  refine ⟨⟨some ⟨w.heap.size, 0, none⟩, bs.length, bs.length + n⟩, rfl, ⟨rfl, by simp, (fun e => by cases e), fun ad e => ?_⟩, (fun g hg => by simp [blk] at hg; omega), ?_⟩
  · injection e with e
    subst e
    refine ⟨_, cur', rfl, C1.out, by rw [C2.out]; simp, fun j u hu => ?_⟩
    obtain ⟨hj, rfl⟩ := get_encU hu
    exact C3.out j hj
  · exact (bel1q w _).grown HG.out (by simp) (by simp)
theorem or7 (x y : Nat) (hy : x < 128) : x ||| 128 = x + 128 := by
  have := Nat.two_pow_add_eq_or_of_lt (i := 7) (b := x) (by omega) 1
  rw [show 2 ^ 7 * 1 = 128 by rfl] at this
  rw [Nat.or_comm, ← this, Nat.add_comm]
theorem mask7 (a : Nat) (ha : a < 18446744073709551616) : bits .and .u64 (a : Int) 127 = ((a % 128 : Nat) : Int) := by
  have h := bits_and_u64_nat a 127 ha (by omega)
  have e : a &&& 127 = a % 128 := Nat.and_two_pow_sub_one_eq_mod a 7
  rw [e] at h
  exact h
theorem set7 (a : Nat) (ha : a < 18446744073709551616) : bits .or .u64 (bits .and .u64 (a : Int) 127) 128 = ((a % 128 + 128 : Nat) : Int) := by
  rw [mask7 a ha]
  have h := bits_or_u64_nat (a % 128) 128 (by omega) (by omega)
  rw [or7 _ 0 (by omega)] at h
  exact h
set_option maxRecDepth 100000 in
set_option maxHeartbeats 4000000 in
theorem appendUint_any (d : BD) (bs : List UInt8) (v : Nat) (w0 w : World) (hr : RB w d bs) (hd : ∀ g, blk d = some g → w0.heap.size ≤ g) (h0 : Below w0.heap.size w0 w) (hv : v < 18446744073709551616) (hn : bs.length ≤ 1000000) :
    Calls Tryz.prog 91 #[.slice d.A d.len d.cap, .int .u64 (v : Int)] w (NewB (bs ++ putU v) w0) := by
  have HR := Lib.hid hr
  have HD := Lib.hid hd
  have H0 := Lib.hid h0
  clear hr hd h0
  go_enter Tryz.func91, Tryz.ntmps91
  go_wp2_with fail
  go_loopw [0, 1] (fun s x wr => ∃ (u : Nat) (d' : BD) (cs : List UInt8), u < 18446744073709551616 ∧ x = .int .u64 ((u : Nat) : Int) ∧ s = .slice d'.A d'.len d'.cap ∧ RB wr d' cs ∧ Hid (cs ++ putU u = bs ++ putU v) ∧ (∀ g, blk d' = some g → w0.heap.size ≤ g) ∧ Below w0.heap.size w0 wr) (fun _ x _ => (intOf x).toNat)
  case atStart => exact ⟨v, d, bs, hv, rfl, rfl, HR.out, rfl, HD.out, H0.out⟩
  case round =>
    obtain ⟨u, d', cs, hu, rfl, rfl, hr, HE, hd, hb⟩ := hrel
    have R1 := Lib.hid hr
    have D1 := Lib.hid hd
    have B1 := Lib.hid hb
    clear hr hd hb
    have hv10 : (putU v).length ≤ 10 := putU_len (k := 9) (by omega)
    have hcl : cs.length ≤ bs.length + 10 := by
      have := congrArg List.length HE.out
      simp only [List.length_append] at this
      omega
    clear hv10
    by_cases hlt : 128 ≤ u
    · have e1 := set7 u hu
      have HP : Hid (putU u = UInt8.ofNat (u % 128 + 128) :: putU (u / 128)) := by rw [Hid, putU, dif_neg (by omega)]
      go_wp2_with (at_builtin; refine halt_q ?_)
      have hx : (((UInt8.ofNat (u % 128 + 128)).toNat : Nat) : Int) = (u : Int) % 128 + 128 := by
        rw [UInt8.toNat_ofNat']
        omega
      have S1 := sb_one wr _ _ hx
      refine wpList_append_bytes rfl _ _ rfl d' cs rfl (R1.out.on (bel1q _ _)) (some ⟨wr.heap.size, 0, none⟩) 1 [UInt8.ofNat (u % 128 + 128)] rfl S1 (by simp only [List.length_cons, List.length_nil]; omega) ?_
      intro d2 w2 hl2 happ
      obtain ⟨r1, r2, r3⟩ := happ.new (w0 := w0) D1.out (B1.out.trans ((bel1q wr _).mono B1.out.size))
      have R2 := Lib.hid r1
      have D2 := Lib.hid r2
      have B2 := Lib.hid r3
      clear r1 r2 r3 happ hl2 hx S1 e1
      unfold vB
      go_wp2_with fail
      go_roundw
      case rel => exact ⟨u / 128, d2, cs ++ [UInt8.ofNat (u % 128 + 128)], by omega, by go_num, rfl, R2.out, by rw [Hid, List.append_assoc, List.singleton_append, ← HP.out]; exact HE.out, D2.out, B2.out⟩
      case measure => simp [intOf]; omega
    · have HP : Hid (putU u = [UInt8.ofNat u]) := by rw [Hid, putU, dif_pos (by omega)]
      go_wp2_with (at_builtin; refine halt_q ?_)
      have hx : (((UInt8.ofNat u).toNat : Nat) : Int) = (u : Int) := by
        rw [UInt8.toNat_ofNat']
        omega
      have S1 := sb_one wr _ _ hx
      refine wpList_append_bytes rfl _ _ rfl d' cs rfl (R1.out.on (bel1q _ _)) (some ⟨wr.heap.size, 0, none⟩) 1 [UInt8.ofNat u] rfl S1 (by simp only [List.length_cons, List.length_nil]; omega) ?_
      intro d2 w2 hl2 happ
      obtain ⟨r1, r2, r3⟩ := happ.new (w0 := w0) D1.out (B1.out.trans ((bel1q wr _).mono B1.out.size))
      rw [← HP.out, HE.out] at r1
      have R2 := Lib.hid r1
      have D2 := Lib.hid r2
      have B2 := Lib.hid r3
      clear r1 r2 r3 happ hl2 hx S1
      unfold vB
      go_wp2_with fail
      go_ret
      exact ⟨d2, rfl, R2.out, D2.out, B2.out⟩
/-- New bytes of an address that is known. -/
theorem NewB.base {bs : List UInt8} {w0 w w' : World} {e : Ending} (h : NewB bs w e w') (h0 : Below w0.heap.size w0 w) : NewB bs w0 e w' := by
  obtain ⟨d, he, hr, hd, hb⟩ := h
  exact ⟨d, he, hr, fun g hg => Nat.le_trans h0.size (hd g hg), h0.trans (hb.mono h0.size)⟩
set_option maxRecDepth 100000 in
set_option maxHeartbeats 1000000 in
theorem PutUint_any (A : Option Addr) (c : Nat) (bs : List UInt8) (v : Nat) (w : World) (h : SB w A bs) (hn : bs.length ≤ 900000) (hv : v < 18446744073709551616) :
    Calls Tryz.prog 43 #[.slice A bs.length c, .int .u64 (v : Int)] w (NewB (bs ++ putU v) w) := by
  have H := Lib.hid h
  clear h
  go_enter Tryz.func43, Tryz.ntmps43
  go_wp2_with fail
  refine (uintSize_any v _ hv).mono ?_
  rintro e w1 ⟨⟨n, rfl, hn2⟩, rfl⟩
  go_wp2_with fail
  refine (extended_any A c bs n w H.out (by omega) (by omega)).mono ?_
  rintro e w1 ⟨⟨B, m, cc⟩, rfl, hr, hd, hb⟩
  have R1 := Lib.hid hr
  have D1 := Lib.hid hd
  have B1 := Lib.hid hb
  clear hr hd hb
  unfold vB
  go_wp2_with fail
  refine (appendUint_any ⟨B, m, cc⟩ bs v w w1 R1.out D1.out B1.out hv (by omega)).mono ?_
  rintro e w2 ⟨d2, rfl, hr, hd, hb⟩
  have R2 := Lib.hid hr
  have D2 := Lib.hid hd
  have B2 := Lib.hid hb
  clear hr hd hb
  unfold vB
  go_wp2_with fail
  go_ret
  exact ⟨d2, rfl, R2.out, D2.out, B2.out⟩
end Go.Proofs.YtmiknfneeipkeaaGreat
namespace Go.Proofs.YtmiknfneeipkeaaGreat
open Go.RowKit Go.MapKept Go.ChangeMaps Go.Shelf Go.Sort
attribute [local go_sem] wext_cell
/-- The bytes that the tape gives. -/
def tbytes (L : List Int) (n : Nat) (k : Int) : Nat → List UInt8
  | 0 => []
  | c + 1 => tbytes L n k c ++ [UInt8.ofNat (tnext L (n + c) k).toNat]
theorem tbytes_len (L : List Int) (n : Nat) (k : Int) : ∀ c, (tbytes L n k c).length = c
  | 0 => rfl
  | c + 1 => by rw [tbytes, List.length_append, tbytes_len L n k c]; rfl
theorem sb_const (w : World) (g : Nat) (hg : g = w.heap.size) (bs : List UInt8) (fr : Nat × Nat) : SB (w.alloc (.cells (bs.map encU).toArray 5 fr)) (some ⟨g, 0, none⟩) bs := by
  subst hg
  refine ⟨(fun e => by cases e), fun ad e j u hu => ?_⟩
  injection e with e
  subst e
  rw [lit_add, Nat.zero_add]
  have : (w.alloc (.cells (bs.map encU).toArray 5 fr)).heap[w.heap.size]? = some (.cells (bs.map encU).toArray 5 fr) := heap_alloc_new w _
  rw [cell_of_row _ _ j _ _ _ this, List.getElem?_toArray]
  exact hu
theorem mk_slice (w : World) (n : Nat) (hn : n ≤ 100000) : ∃ cs : Array Value, n ≤ cs.size ∧ (Instr.makeSlice 40 (.int .i64 0) (.int .i64 n)).run Tryz.prog w = .ok (.slice (some ⟨w.heap.size, 0, none⟩) 0 n) (w.alloc (.cells cs 5)) := by
  obtain ⟨i0, hi, hz0, hz1, hz2⟩ := info_parts info5
  have := run_makeSlice (P := Tryz.prog) w 40 5 i0 _ Tryz.underlying40 hi hz0 .i64 .i64 0 n (by omega) (by omega) (by rw [hz1]; omega) (by rw [hz2]; omega) (by omega)
  simp only [Int.toNat_zero, Int.toNat_natCast] at this
  exact ⟨_, by rw [size_madeCells, hz1]; omega, this⟩
section
variable {b : Nat} {w0 w w' : World} {l : List Ob} {g : Nat} {A : Option Addr} {c : Nat} {L : List Int} {n : Nat}
theorem SW.newBuT {d : BD} {bs : List UInt8} (h : SW b w0 l w) (hb : Below w.heap.size w w') (hr : RB w' d bs) (hn : ∀ g, blk d = some g → w.heap.size ≤ g) : SW b w0 (bufOb d bs :: l) w' := by
  have := h.1.add (o' := bufOb d bs) hb hr (fun i hi => ⟨hn i hi, hr.lt hi⟩) (fun i hi => hi.elim) (fun i hi => hi.elim)
  exact ⟨this.1, h.2.trans this.2⟩
theorem SW.appB {d d' : BD} {bs bs' : List UInt8} (h : SW b w0 l w) (k : Nat) (hk : l[k]? = some (bufOb d bs)) (ha : AppB w d bs' d' w') : SW b w0 (l.set k (bufOb d' bs')) w' := ⟨(h.1.app k hk ha).1, h.2.trans (h.1.app k hk ha).2⟩
set_option maxRecDepth 100000 in
set_option maxHeartbeats 4000000 in
theorem Bytes_x (h : SW b w0 l w) (kk : Nat) (hk : l[kk]? = some (tpOb g A c L n)) (m : Nat) (k : Int) (hm : m ≤ 10000) (hk1 : 1 < k) (hk2 : k ≤ 256) (hn : n + m ≤ 1000000) :
    Calls Tryz.prog 35 #[vPtr g, .int .i64 m, .int .i64 k] w (fun e w' => ∃ d, e = .returned (.slice d.A d.len d.cap) ∧ SW b w0 (bufOb d (tbytes L n k m) :: l.set kk (tpOb g A c L (n + m))) w') := by
  obtain ⟨cs, hcs, hmk⟩ := mk_slice w m (by omega)
  have hmx : max (m : Int) 0 = m := by omega
  have hkl : kk < l.length := (List.getElem?_eq_some_iff.1 hk).1
  have S0 : Hid (SW b w0 (bufOb ⟨some ⟨w.heap.size, 0, none⟩, 0, m⟩ [] :: l) (w.alloc (.cells cs 5))) := h.newBuT ((Below.refl _ _).alloc (Nat.le_refl _) _) (new_bytes w cs _ _ _ _ rfl rfl (Nat.zero_le _) hcs (by simp)) (fun g hg => by simp [blk] at hg; omega)
  have HK := Lib.hid hk
  clear h hk
  go_enter Tryz.func35, Tryz.ntmps35
  go_wp2_with fail
  go_loopw [7, 8] (fun v i wr => ∃ (j : Nat) (d : BD), j ≤ m ∧ i = .int .i64 j ∧ v = .slice d.A d.len d.cap ∧ SW b w0 (bufOb d (tbytes L n k j) :: l.set kk (tpOb g A c L (n + j))) wr) (fun _ i _ => m - (intOf i).toNat)
  case atStart =>
    refine ⟨0, ⟨some ⟨w.heap.size, 0, none⟩, 0, m⟩, by omega, rfl, rfl, ?_⟩
    have e : l.set kk (tpOb g A c L (n + 0)) = l := set_self l kk _ HK.out
    rw [e]
    exact S0.out
  case round =>
    obtain ⟨j, d, hj, rfl, rfl, hs⟩ := hrel
    have S1 := Lib.hid hs
    clear hs hmk S0
    have HN := Lib.hid (Next_x S1.out (kk + 1) (by rw [List.getElem?_cons_succ, List.getElem?_set_self hkl]) k (by omega) (by omega))
    simp only [List.set_cons_succ, List.set_set] at HN
    by_cases hlt : j < m
    · go_wp2_with (first
        | (go_at_call 9; (with_reducible refine HN.out.mono ?_); refine halt_ ?_)
        | (at_builtin; refine halt_ ?_))
      rintro e w1 ⟨rfl, s2⟩
      have S2 := Lib.hid s2
      clear s2 HN
      obtain ⟨hy0, hy1⟩ := tnext_in L (n + j) k
      have hy1 := hy1 hk1
      have HT : Hid (tbytes L n k (j + 1) = tbytes L n k j ++ [UInt8.ofNat (tnext L (n + j) k).toNat]) := rfl
      have HL := Lib.hid (tbytes_len L n k j)
      generalize tbytes L n k j = bs at S1 S2 HL HT
      generalize tnext L (n + j) k = y at hy0 hy1 HT ⊢
      have hyw : IntKind.u8.wrap y = y := IntWalk.u8_in y (by omega)
      obtain ⟨yb, hyb⟩ : ∃ yb : UInt8, ((yb.toNat : Nat) : Int) = y := ⟨UInt8.ofNat y.toNat, by rw [UInt8.toNat_ofNat']; omega⟩
      subst hyb
      have e1 : UInt8.ofNat (((yb.toNat : Nat) : Int)).toNat = yb := by simp
      rw [e1] at HT
      clear S1 e1
      go_wp2_with (at_builtin; refine halt_ ?_)
      have hrb : RB w1 d bs := S2.out.get 0 (o := bufOb d bs) rfl
      have SB1 : Hid (SB (w1.alloc (.cells #[.int .u8 ((yb.toNat : Nat) : Int)] 5)) (some ⟨w1.heap.size, 0, none⟩) [yb]) := sb_const w1 _ rfl [yb] (0, 0)
      refine wpList_append_bytes rfl _ _ rfl d bs rfl (hrb.on (bel1 _ _)) (some ⟨w1.heap.size, 0, none⟩) 1 [yb] rfl SB1.out (by rw [HL.out]; simp only [List.length_cons, List.length_nil]; omega) ?_
      intro d2 w2 hl2 happ
      have S3 : Hid (SW b w0 (bufOb d2 (tbytes L n k (j + 1)) :: l.set kk (tpOb g A c L (n + (j + 1)))) w2) := by
        rw [Hid, HT.out]
        have := (S2.out.alloc (.cells #[.int .u8 ((yb.toNat : Nat) : Int)] 5)).appB 0 rfl happ
        exact this
      clear happ hl2 hyw hy0 hy1 hrb SB1 S2
      go_wp2_with fail
      go_roundw
      case rel => exact ⟨j + 1, d2, by omega, by go_num, rfl, S3.out⟩
      case measure => simp [intOf]; omega
    · obtain rfl : j = m := by omega
      go_wp2_with fail
      go_ret
      exact ⟨d, rfl, S1.out⟩
end
end Go.Proofs.YtmiknfneeipkeaaGreat
namespace Go.Proofs.YtmiknfneeipkeaaGreat
open Go.RowKit Go.MapKept Go.ChangeMaps Go.Shelf Go.Sort
attribute [local go_sem] wext_cell
def lenS (T : List BS) : Nat := (T.map (·.bs.length)).sum
def idS (T : List BS) : List ID := T.map fun e => fpOf e.bs
theorem lenS_snoc (T : List BS) (e : BS) : lenS (T ++ [e]) = lenS T + e.bs.length := by simp [lenS]
theorem idS_snoc (T : List BS) (e : BS) : idS (T ++ [e]) = idS T ++ [fpOf e.bs] := by simp [idS]
theorem lenS_le {T : List BS} {B : Nat} (h : ∀ e ∈ T, e.bs.length ≤ B) : lenS T ≤ B * T.length := by
  induction T with
  | nil => simp [lenS]
  | cons e T ih =>
    have h1 := h e (by simp)
    have h2 := ih (fun e he => h e (by simp [he]))
    have : lenS (e :: T) = e.bs.length + lenS T := by simp [lenS]
    rw [this, List.length_cons, Nat.mul_succ]
    omega
theorem blOb_rb {w : World} {A : Option Addr} {T : List BS} (h : (blOb A T).holds w) {j : Nat} (hj : j < T.length) {e : BS} (he : T.getD j bs0 = e) : RB w e.d e.bs := by
  obtain ⟨_, _, _, _, h5⟩ := blOb_at h hj he
  exact h5
section
variable {b : Nat} {w0 w w' : World} {l : List Ob}
set_option maxRecDepth 100000 in
set_option maxHeartbeats 8000000 in
theorem rOfM_any (h : SW b w0 l w) {A : Option Addr} {T : List BS} (hA : blOb A T ∈ l) (c : Nat) (hn : T.length ≤ 100000) (hb : ∀ e ∈ T, e.bs.length ≤ 1000000) :
    Calls Tryz.prog 36 #[.slice A T.length c] w (fun e w' => ∃ v, e = .returned (.agg #[.int .i64 ((lenS T : Nat) : Int), v]) ∧ SW b w0 (rowOb 36 2 v T.length ((idS T).flatMap encID) :: l) w') := by
  have HA := Lib.hid hA
  have HB := Lib.hid hb
  have S0 := Lib.hid ((h.newCell 33 #[.int .i64 0, .slice none 0 0]).newCellAt 33 #[.int .i64 0, .slice none 0 0] (H := w.heap.size + 1) (by simp))
  clear h hA hb
  obtain ⟨i1, gi, gz0, gz1, gz2⟩ := info_parts info36
  obtain ⟨g2, HG2⟩ : ∃ g2, Hid (w.heap.size = g2) := ⟨_, rfl⟩
  obtain ⟨g3, HG3⟩ : ∃ g3, Hid (w.heap.size + 1 = g3) := ⟨_, rfl⟩
  obtain ⟨W1, HW1⟩ : ∃ W1, Hid ((w.alloc (.cells #[.int .i64 0, .slice none 0 0] 33)).alloc (.cells #[.int .i64 0, .slice none 0 0] 33) = W1) := ⟨_, rfl⟩
  have HN23 : Hid (g2 ≠ g3) := by rw [← HG2.out, ← HG3.out, Hid]; omega
  rw [HG3.out, HG2.out, HW1.out] at S0
  go_enter Tryz.func36, Tryz.ntmps36
  go_upto_region 2 with fail
  rw [HW1.out, HG3.out, HG2.out]
  clear HW1 HG2 HG3
  go_wp2_with fail
  go_loopw [4] (fun s4 wr => ∃ (k : Nat) (v : Value), k ≤ T.length ∧ s4 = .int .i64 (k : Int) ∧ SW b w0 (cellOb g3 33 #[.int .i64 ((lenS (T.take k) : Nat) : Int), v] :: rowOb 36 2 v k ((idS (T.take k)).flatMap encID) :: cellOb g2 33 #[.int .i64 0, .slice none 0 0] :: l) wr) (fun s4 _ => T.length - (intOf s4).toNat)
  case atStart => exact ⟨0, .slice none 0 0, Nat.zero_le _, rfl, SW.front (pre := [_, _, _]) (S0.out.newRow 36 2) [1, 0, 2] (n := 3) rfl (by decide)⟩
  case round =>
    obtain ⟨k, v, hk, rfl, hs⟩ := hrel
    have S1 := Lib.hid hs
    clear hs S0
    by_cases hlt : k < T.length
    · obtain ⟨e, HE⟩ : ∃ e, Hid (T.getD k bs0 = e) := ⟨_, rfl⟩
      have hmem : e ∈ T := by rw [← HE.out]; exact getD_mem _ _ _ hlt
      have hbl := HB.out e hmem
      have hll : lenS (T.take k) ≤ 1000000 * k := by
        have := lenS_le (T := T.take k) (B := 1000000) (fun e he => HB.out e (List.mem_of_mem_take he))
        rw [List.length_take] at this
        exact Nat.le_trans this (Nat.mul_le_mul_left _ (Nat.min_le_left _ _))
      obtain ⟨gA, hAe, _, a0, hrb⟩ := blOb_at (S1.out.1.holds (blOb A T) (by simp [HA.out])) hlt HE.out
      have HTS1 : Hid (lenS (T.take (k + 1)) = lenS (T.take k) + e.bs.length) := by rw [Hid, take_snoc _ bs0 _ hlt, lenS_snoc, HE.out]
      have HTS2 : Hid (idS (T.take (k + 1)) = idS (T.take k) ++ [fpOf e.bs]) := by rw [Hid, take_snoc _ bs0 _ hlt, idS_snoc, HE.out]
      obtain ⟨N, HN⟩ : ∃ N, Hid (lenS (T.take k) = N) := ⟨_, rfl⟩
      rw [HN.out] at S1 hll HTS1
      have hdl : e.d.len = e.bs.length := hrb.1.symm
      have hwr : IntKind.i64.wrap ((N : Int) + (e.bs.length : Int)) = (N : Int) + (e.bs.length : Int) := IntWalk.i64_in _ (by omega)
      have hki : (k : Int) < (T.length : Int) := by omega
      subst hAe
      rw [hdl] at a0
      have m0 := (S1.out.cell 0 rfl).cell 0
      have f0 := (S1.out.cell 0 rfl).frozen 0
      clear hmem hrb
      go_upto_region 5 with fail
      go_region
      have S2 := Lib.hid (S1.out.setAt 0 rfl 0 (.int .i64 ((N : Int) + (e.bs.length : Int)))).drew
      clear S1 m0 f0 a0
      generalize World.drew _ = W2 at S2 ⊢
      have S2 : Hid (SW b w0 (cellOb g3 33 #[.int .i64 ((lenS (T.take (k + 1)) : Nat) : Int), v] :: rowOb 36 2 v k ((idS (T.take k)).flatMap encID) :: cellOb g2 33 #[.int .i64 0, .slice none 0 0] :: l) W2) := by
        rw [Hid, HTS1.out, Int.natCast_add]
        exact S2.out
      obtain ⟨gA', hAe, _, a0, hrb⟩ := blOb_at (S2.out.1.holds (blOb (some ⟨gA, 0, none⟩) T) (by simp [HA.out])) hlt HE.out
      injection hAe with hAe
      injection hAe with hAe
      subst hAe
      rw [hdl] at a0
      clear hrb a0
      obtain ⟨i, HI⟩ : ∃ i, Hid (fpOf e.bs = i) := ⟨_, rfl⟩
      rw [HI.out] at HTS2
      obtain ⟨va, vc, rfl⟩ := own_slL (S2.out.get 1 rfl)
      have S3 := Lib.hid S2.out.drew
      clear S2
      go_upto_region 6 with fail
      have HC := Lib.hid (fun (w' : World) (va : Option Addr) (kk : Nat) (vc : Nat) (xs : List Value) (hS : SW b w0 (cellOb g3 33 #[.int .i64 ((lenS (T.take (k + 1)) : Nat) : Int), .slice va k vc] :: rowOb 36 2 (.slice va k vc) k xs :: cellOb g2 33 #[.int .i64 0, .slice none 0 0] :: l) w') => (show w'.cell? ⟨g3, 1, none⟩ = some (.slice va k vc) ∧ w'.cell? ⟨gA, k, none⟩ = some (.slice e.d.A e.bs.length e.d.cap) from ⟨(hS.cell 0 rfl).cell 1, by
        obtain ⟨gq, hq, _, a0, _⟩ := blOb_at (hS.1.holds (blOb (some ⟨gA, 0, none⟩) T) (by simp [HA.out])) hlt HE.out
        injection hq with hq
        injection hq with hq
        subst hq
        rw [hdl] at a0
        exact a0⟩))
      refine wp_region_held_tail [(0, true), (1, true), (2, true), (3, true), (4, true), (5, true), (6, false), (7, false), (8, false), (9, true)] (fun w' => w'.cell? ⟨g3, 1, none⟩ = some (.slice va k vc) ∧ w'.cell? ⟨gA, k, none⟩ = some (.slice e.d.A e.bs.length e.d.cap)) (by kernel_rfl) (fun _ _ d _ _ h => by cases d <;> exact h) (by kernel_rfl) (HC.out _ _ 0 _ _ S3.out) ?_
      simp only [picked, List.map_cons, List.map_nil, List.getD_cons_succ, List.getD_cons_zero]
      (refine wpHeld_take (v := ?_) (Or.inl ⟨by rfl, ?_⟩) ?_
       rotate_left
       · (intro w' hSw; obtain ⟨h1, h2⟩ := hSw; go_simp; try with_reducible rfl)
       try simp only [Act.put, List.setIfInBounds_toArray, List.set])
      (refine wpHeld_take (v := ?_) (Or.inl ⟨by rfl, ?_⟩) ?_
       rotate_left
       · (intro w' hSw; obtain ⟨h1, h2⟩ := hSw; go_simp; try with_reducible rfl)
       try simp only [Act.put, List.setIfInBounds_toArray, List.set])
      (refine wpHeld_take (v := ?_) (Or.inl ⟨by rfl, ?_⟩) ?_
       rotate_left
       · (intro w' hSw; obtain ⟨h1, h2⟩ := hSw; go_simp; try with_reducible rfl)
       try simp only [Act.put, List.setIfInBounds_toArray, List.set])
      (refine wpHeld_take (v := ?_) (Or.inl ⟨by rfl, ?_⟩) ?_
       rotate_left
       · (intro w' hSw; obtain ⟨h1, h2⟩ := hSw; go_simp; try with_reducible rfl)
       try simp only [Act.put, List.setIfInBounds_toArray, List.set])
      (refine wpHeld_take (v := ?_) (Or.inl ⟨by rfl, ?_⟩) ?_
       rotate_left
       · (intro w' hSw; obtain ⟨h1, h2⟩ := hSw; go_simp; try with_reducible rfl)
       try simp only [Act.put, List.setIfInBounds_toArray, List.set])
      (refine wpHeld_take (v := ?_) (Or.inl ⟨by rfl, ?_⟩) ?_
       rotate_left
       · (intro w' hSw; obtain ⟨h1, h2⟩ := hSw; go_simp; try with_reducible rfl)
       try simp only [Act.put, List.setIfInBounds_toArray, List.set])
      refine wpHeld_run (fun K hK => ?_)
      go_simp
      go_at_call 70
      refine (rOf_any e.d.A e.d.cap e.bs W2.drew (blOb_rb (S3.out.1.holds (blOb (some ⟨gA, 0, none⟩) T) (by simp [HA.out])) hlt HE.out).rs (by omega)).mono ?_
      rw [HI.out]
      rintro e2 W4 ⟨rfl, hb4⟩
      have S4 := Lib.hid (S3.out.on hb4)
      clear hb4 S3
      go_wp2_with fail
      refine hK.out _ _ (HC.out _ _ 0 _ _ S4.out) ?_
      clear hK K
      try simp only [Act.put, List.setIfInBounds_toArray, List.set]
      refine wpHeld_run (fun K hK => ?_)
      go_simp
      refine hK.out _ _ (HC.out _ _ 0 _ _ (S4.out.alloc _)) ?_
      clear hK K
      try simp only [Act.put, List.setIfInBounds_toArray, List.set]
      refine wpHeld_run (fun K hK => ?_)
      refine step_rowS (t := 31) (e := 36) (size := 2) (bytes := 16) (i := i1) (S4.out.alloc _) 1 rfl (by rfl) (.tmp 21) (.tmp 27) (by rfl) Tryz.underlying31 gi gz0 gz1 gz2 rfl (by omega) (by rfl) ⟨W4.heap.size, 0, none⟩ 1 [.int .u64 i.1, .int .i64 i.2] (by rfl) rfl (two_new W4 _ _ 36 _ rfl) (encID_one i) (by unfold maxLen; omega) (by omega) ?_
      intro v8 W8 s8
      obtain ⟨g8, c8, rfl⟩ := own_some (s8.get 1 rfl) (by omega)
      have S8 : Hid (SW b w0 (cellOb g3 33 #[.int .i64 ((lenS (T.take (k + 1)) : Nat) : Int), .slice va k vc] :: rowOb 36 2 (.slice (some ⟨g8, 0, none⟩) (k + 1) c8) (k + 1) ((idS (T.take (k + 1))).flatMap encID) :: cellOb g2 33 #[.int .i64 0, .slice none 0 0] :: l) W8) := by
        rw [Hid, HTS2.out, List.flatMap_append]
        exact s8
      refine hK.out _ _ ⟨(S8.out.cell 0 rfl).cell 1, by
        obtain ⟨gq, hq, _, a0, _⟩ := blOb_at (S8.out.1.holds (blOb (some ⟨gA, 0, none⟩) T) (by simp [HA.out])) hlt HE.out
        injection hq with hq
        injection hq with hq
        subst hq
        rw [hdl] at a0
        exact a0⟩ ?_
      clear hK K s8 S4 HC
      try simp only [Act.put, List.setIfInBounds_toArray, List.set]
      (refine wpHeld_take (v := ?_) (Or.inl ⟨by rfl, ?_⟩) ?_
       rotate_left
       · (intro w' hSw; obtain ⟨h1, h2⟩ := hSw; go_simp; try with_reducible rfl)
       try simp only [Act.put, List.setIfInBounds_toArray, List.set])
      refine wpHeld_nil ?_
      simp only [List.length_cons, List.length_nil, List.drop_succ_cons, List.drop_zero]
      have k1 := (S8.out.cell 0 rfl).cell 1
      have f1 := (S8.out.cell 0 rfl).frozen 1
      have S9 : Hid (SW b w0 (cellOb g3 33 #[.int .i64 ((lenS (T.take (k + 1)) : Nat) : Int), .slice (some ⟨g8, 0, none⟩) (k + 1) c8] :: rowOb 36 2 (.slice (some ⟨g8, 0, none⟩) (k + 1) c8) (k + 1) ((idS (T.take (k + 1))).flatMap encID) :: cellOb g2 33 #[.int .i64 0, .slice none 0 0] :: l) _) := Lib.hid (S8.out.setAt 0 rfl 1 (.slice (some ⟨g8, 0, none⟩) (k + 1) c8))
      go_wp2_with fail
      go_roundw
      case rel => exact ⟨k + 1, _, by omega, by go_num, S9.out⟩
      case measure => simp [intOf]; omega
    · obtain rfl : k = T.length := by omega
      rw [List.take_length] at S1
      obtain ⟨va, vc, rfl⟩ := own_slL (S1.out.get 1 rfl)
      have m0 := (S1.out.cell 0 rfl).cell 0
      have m1 := (S1.out.cell 0 rfl).cell 1
      have n0 := (S1.out.cell 2 rfl).cell 0
      have n1 := (S1.out.cell 2 rfl).cell 1
      have f0 := (S1.out.cell 2 rfl).frozen 0
      have f1 := (S1.out.cell 2 rfl).frozen 1
      have hn23 := HN23.out
      have S2 := Lib.hid ((S1.out.setAt 2 rfl 0 (.int .i64 ((lenS T : Nat) : Int))).setAt 2 rfl 1 (.slice va T.length vc))
      obtain ⟨N, HN⟩ : ∃ N, Hid (lenS T = N) := ⟨_, rfl⟩
      rw [HN.out] at m0 S2
      clear S1
      go_upto_region 7 with fail
      go_wp2_with fail
      generalize (wr.setCell ⟨g2, 0, none⟩ (.int .i64 ((N : Nat) : Int))).setCell ⟨g2, 1, none⟩ (.slice va T.length vc) = WF at S2 ⊢
      have q0 := (S2.out.cell 2 rfl).cell 0
      have q1 := (S2.out.cell 2 rfl).cell 1
      refine bodyPost_ret (v := .agg #[.int .i64 ((N : Nat) : Int), .slice va T.length vc]) ?_ rfl ?_
      · simp [results, Tryz.results36, go_sem, q0, q1]
      · exact ⟨_, by rw [HN.out], SW.few (pre := [_, _, _]) S2.out [1] (n := 3) rfl (by decide) (by decide)⟩
end
end Go.Proofs.YtmiknfneeipkeaaGreat
