/- CY CZ SK SL SM SN SO PG SQ PN in one text. -/
import Derived.Test.YteabgcollokgjaaGreatDoorQ12
import Derived.Laws.IdiomCopy
import Derived.Deep.RegionHeld3
import Derived.Lib.SlBytesConst
import Derived.Test.YteabgcollokgjaaGreatDoorQ11
import Derived.Test.YteabgcollokgjaaGreatDoorQ07
import Derived.Laws.StructEq
import Derived.Test.YteabgcollokgjaaGreatDoorQ06
import Derived.Deep.RegionHeld
import Derived.IntWalk
set_option linter.unusedSimpArgs false
set_option linter.unusedVariables false
namespace Go.Proofs.YteabgcollokgjaaGreatDoor
open Go.RowKit

theorem mk_bytes (w : World) (n c : Nat) (h : n ≤ c) (hc : c ≤ 16777216) : (Instr.makeSlice 34 (.int .i64 n) (.int .i64 c)).run Tryz.prog w = .ok (.slice (some ⟨w.heap.size, 0, none⟩) n c) (w.alloc (.cells (Array.replicate c (encU 0)) 5)) := by
 obtain ⟨i0, hi, hz0, hz1, hz2⟩ := info_parts info5
 have := run_makeSlice (P := Tryz.prog) w 34 5 i0 _ Tryz.underlying34 hi hz0 .i64 .i64 n c (by omega) (by omega) (by rw [hz1]; simp; omega) (by rw [hz2]; omega) (by omega)
 simp only [Int.toNat_natCast] at this
 have e : madeCells (Value.int IntKind.u8 0).cells c = (Array.replicate c (encU 0)) := Array.ext' (by rw [show (Value.int IntKind.u8 0).cells = #[Value.int IntKind.u8 0] from rfl, toList_madeCells_one]; simp [encU])
 rw [this, hz1, Nat.mul_one, e]
theorem setCells_tail (b : Nat) {t : TypeId} : ∀ (vs : List Value) (o : Nat) (w : World) (cur : Array Value), IsB w b t cur → ∃ cur', IsB (w.setCells b o vs) b t cur' ∧ cur'.size = cur.size ∧ (∀ j, j < o → cur'[j]? = cur[j]?) ∧ (∀ j, j < vs.length → o + j < cur.size → cur'[o + j]? = vs[j]?) ∧ ∀ j, o + vs.length ≤ j → cur'[j]? = cur[j]?
 | [], _, _, cur, h => ⟨cur, h, rfl, fun _ _ => rfl, (fun j hj => absurd hj (by simp)), fun _ _ => rfl⟩
 | v :: r, o, w, cur, h => by
  obtain ⟨cur', c1, c2, c3, c4, c5⟩ := setCells_tail b r (o + 1) (w.setCell ⟨b, o, none⟩ v) (cur.setIfInBounds o v) (h.set_ o v)
  refine ⟨cur', c1, by simpa using c2, fun j hj => ?_, fun j hj hs => ?_, fun j hj => ?_⟩
  · rw [c3 j (by omega), Array.getElem?_setIfInBounds_ne (by omega)]
  · cases j with
    | zero =>
     rw [Nat.add_zero, c3 o (by omega), Array.getElem?_setIfInBounds_self_of_lt (by omega)]
     rfl
    | succ j =>
     have := c4 j (by simpa using hj) (by simp; omega)
     rw [show o + (j + 1) = o + 1 + j by omega, this]
     rfl
  · simp only [List.length_cons] at hj
    rw [c5 j (by omega), Array.getElem?_setIfInBounds_ne (by omega)]
/-- copy onto the head of a block of bytes. -/
theorem run_copyB (w : World) (ty : TypeId) (g dLen dCap : Nat) (cur : Array Value) (hg : IsB w g 5 cur) (A : Option Addr) (c : Nat) (bs : List UInt8) (hs : SB w A bs) (hfit : min bs.length dLen ≤ cur.size) :
 ∃ w', (Builtin.copy_ #[34, 34] ty #[.slice (some ⟨g, 0, none⟩) dLen dCap, .slice A bs.length c]).run Tryz.prog w = .ok (goInt ((min bs.length dLen : Nat) : Int)) w' ∧ w.grownBy w' (some g) ∧ w'.heap.size = w.heap.size ∧
  ∃ cur', IsB w' g 5 cur' ∧ cur'.size = cur.size ∧ (∀ j, j < min bs.length dLen → cur'[j]? = some (encU (bs.getD j 0))) ∧ ∀ j, min bs.length dLen ≤ j → cur'[j]? = cur[j]? := by
 have hsz : (Tryz.prog.info? 5).map (·.size) = some 1 := by
  obtain ⟨i0, hi, _, hz1, _⟩ := info_parts info5
  rw [hi]
  simp [hz1]
 by_cases h0 : min bs.length dLen = 0
 · refine ⟨w, ?_, g_refl _ _, rfl, cur, hg, rfl, fun j hj => by omega, fun _ _ => rfl⟩
   rw [h0]
   exact run_copy_none w 34 34 ty 5 _ A dLen dCap bs.length c Tryz.underlying34 hsz h0
 · cases A with
   | none =>
    have := hs.1 rfl
    omega
   | some ad =>
    have hl : ((bs.take dLen).map encU).length = Nat.min bs.length dLen := by
     rw [List.length_map, List.length_take]
     exact Nat.min_comm _ _
    have hl2 : ((bs.take dLen).map encU).length = min bs.length dLen := hl
    have hr := run_copy_cells (P := Tryz.prog) w 34 34 ty 5 g 0 dLen dCap ad bs.length c ((bs.take dLen).map encU) Tryz.underlying34 hsz hl
     (fun j v hv => by
       refine hs.2 ad rfl j v ?_
       obtain ⟨hj, hv'⟩ := List.getElem?_eq_some_iff.1 hv
       have hj2 : j < dLen := by rw [hl2] at hj; omega
       rw [← hv, List.map_take, List.getElem?_take_of_lt hj2])
     (fun j hj => by
       rw [Nat.zero_add, hg.cell, Array.getElem?_eq_getElem (by omega)]
       rfl) (fun j _ => hg.frozen _) (encU_one _)
    obtain ⟨cur', c1, c2, c3, c4, c5⟩ := setCells_tail g ((bs.take dLen).map encU) 0 w cur hg
    obtain ⟨e1, e2, e3, e4⟩ := setCells_world g ((bs.take dLen).map encU) 0 w
    rw [hl2] at hr
    refine ⟨_, hr, ⟨e1, e2, e3, by omega, fun i _ hne => setCells_heap g _ _ w i (fun e => hne (by rw [e]))⟩, e4, cur', c1, c2, fun j hj => ?_, fun j hj => c5 j (by rw [hl2]; omega)⟩
    have := c4 j (by rw [hl2]; exact hj) (by omega)
    rw [Nat.zero_add] at this
    rw [this, List.getElem?_map, List.getElem?_take_of_lt (by omega), List.getD_eq_getElem?_getD, List.getElem?_eq_getElem (by omega)]
    rfl
theorem get_encU {bs : List UInt8} {j : Nat} {u : Value} (h : (bs.map encU)[j]? = some u) : j < bs.length ∧ u = encU (bs.getD j 0) := by
 obtain ⟨hj, hu⟩ := List.getElem?_eq_some_iff.1 h
 have hj' : j < bs.length := by simpa using hj
 refine ⟨hj', ?_⟩
 rw [← hu, List.getElem_map, List.getD_eq_getElem?_getD, List.getElem?_eq_getElem hj']
 rfl
set_option maxRecDepth 100000 in
set_option maxHeartbeats 1000000 in
theorem extended_any (A : Option Addr) (c : Nat) (bs : List UInt8) (n : Nat) (w : World) (h : SB w A bs) (hn : bs.length ≤ 1000000) (hk : n ≤ 1000) :
 Calls Tryz.prog 308 #[.slice A bs.length c, .int .i64 (n : Int)] w (NewB bs w) := by
 have hmk := mk_bytes w bs.length (bs.length + n) (by omega) (by omega)
 rw [Int.natCast_add] at hmk
 have hB : IsB (w.alloc (.cells (Array.replicate (bs.length + n) (encU 0)) 5)) w.heap.size 5 (Array.replicate (bs.length + n) (encU 0)) := IsB.new _ _ _
 obtain ⟨w1, hcp, hg, hz, cur', c1, c2, c3, c4⟩ := run_copyB _ 3 w.heap.size bs.length (bs.length + n) _ hB A c bs (h.on (bel1q _ _) h.lt) (by simp)
 rw [Nat.min_self] at hcp c3 c4
 have HG := Lib.hid hg
 have C1 := Lib.hid c1
 have C2 := Lib.hid c2
 have C3 := Lib.hid c3
 clear hg hz c1 c2 c3 c4 hB h
 go_enter Tryz.func308, Tryz.ntmps308
 go_wp2_with fail
 go_ret
 refine ⟨⟨some ⟨w.heap.size, 0, none⟩, bs.length, bs.length + n⟩, rfl, ⟨rfl, by simp, (fun e => by cases e), fun ad e => ?_⟩, (fun g hg => by simp [blk] at hg; omega), ?_⟩
 · injection e with e
   subst e
   refine ⟨_, cur', rfl, C1.out, by rw [C2.out]; simp, fun j u hu => ?_⟩
   obtain ⟨hj, rfl⟩ := get_encU hu
   exact C3.out j hj
 · exact (bel1q w _).grown HG.out (by simp) (by simp)
theorem or7 (x y : Nat) (hy : x < 128) : x ||| 128 = x + 128 := by
 have := Nat.two_pow_add_eq_or_of_lt (i := 7) (b := x) (by omega) 1
 rw [show 2 ^ 7 * 1 = 128 by rfl] at this
 rw [Nat.or_comm, ← this, Nat.add_comm]
theorem mask7 (a : Nat) (ha : a < 18446744073709551616) : bits .and .u64 (a : Int) 127 = ((a % 128 : Nat) : Int) := by
 have h := bits_and_u64_nat a 127 ha (by omega)
 have e : a &&& 127 = a % 128 := Nat.and_two_pow_sub_one_eq_mod a 7
 rw [e] at h
 exact h
theorem set7 (a : Nat) (ha : a < 18446744073709551616) : bits .or .u64 (bits .and .u64 (a : Int) 127) 128 = ((a % 128 + 128 : Nat) : Int) := by
 rw [mask7 a ha]
 have h := bits_or_u64_nat (a % 128) 128 (by omega) (by omega)
 rw [or7 _ 0 (by omega)] at h
 exact h
set_option maxRecDepth 100000 in
set_option maxHeartbeats 4000000 in
theorem appendUint_any (d : BD) (bs : List UInt8) (v : Nat) (w0 w : World) (hr : RB w d bs) (hd : ∀ g, blk d = some g → w0.heap.size ≤ g) (h0 : Below w0.heap.size w0 w) (hv : v < 18446744073709551616) (hn : bs.length ≤ 1000000) :
 Calls Tryz.prog 307 #[.slice d.A d.len d.cap, .int .u64 (v : Int)] w (NewB (bs ++ putU v) w0) := by
 have HR := Lib.hid hr
 have HD := Lib.hid hd
 have H0 := Lib.hid h0
 clear hr hd h0
 go_enter Tryz.func307, Tryz.ntmps307
 go_wp2_with fail
 go_loopw [0, 1] (fun s x wr => ∃ (u : Nat) (d' : BD) (cs : List UInt8), u < 18446744073709551616 ∧ x = .int .u64 ((u : Nat) : Int) ∧ s = .slice d'.A d'.len d'.cap ∧ RB wr d' cs ∧ Hid (cs ++ putU u = bs ++ putU v) ∧ (∀ g, blk d' = some g → w0.heap.size ≤ g) ∧ Below w0.heap.size w0 wr) (fun _ x _ => (intOf x).toNat)
 case atStart => exact ⟨v, d, bs, hv, rfl, rfl, HR.out, rfl, HD.out, H0.out⟩
 case round =>
  obtain ⟨u, d', cs, hu, rfl, rfl, hr, HE, hd, hb⟩ := hrel
  have R1 := Lib.hid hr
  have D1 := Lib.hid hd
  have B1 := Lib.hid hb
  clear hr hd hb
  have hv10 : (putU v).length ≤ 10 := putU_len (k := 9) (by omega)
  have hcl : cs.length ≤ bs.length + 10 := by
   have := congrArg List.length HE.out
   simp only [List.length_append] at this
   omega
  clear hv10
  by_cases hlt : 128 ≤ u
  · have e1 := set7 u hu
    have HP : Hid (putU u = UInt8.ofNat (u % 128 + 128) :: putU (u / 128)) := by rw [Hid, putU, dif_neg (by omega)]
    go_wp2_with (at_builtin; refine halt_q ?_)
    have hx : (((UInt8.ofNat (u % 128 + 128)).toNat : Nat) : Int) = (u : Int) % 128 + 128 := by
     rw [UInt8.toNat_ofNat']
     omega
    have S1 := sb_one wr _ _ hx
    refine wpList_append_bytes rfl _ _ rfl d' cs rfl (R1.out.on (bel1q _ _)) (some ⟨wr.heap.size, 0, none⟩) 1 [UInt8.ofNat (u % 128 + 128)] rfl S1 (by simp only [List.length_cons, List.length_nil]; omega) ?_
    intro d2 w2 hl2 happ
    obtain ⟨r1, r2, r3⟩ := happ.new (w0 := w0) D1.out (B1.out.trans ((bel1q wr _).mono B1.out.size))
    have R2 := Lib.hid r1
    have D2 := Lib.hid r2
    have B2 := Lib.hid r3
    clear r1 r2 r3 happ hl2 hx S1 e1
    unfold vB
    go_wp2_with fail
    go_roundw
    case rel => exact ⟨u / 128, d2, cs ++ [UInt8.ofNat (u % 128 + 128)], by omega, by go_num, rfl, R2.out, by rw [Hid, List.append_assoc, List.singleton_append, ← HP.out]; exact HE.out, D2.out, B2.out⟩
    case measure => simp [intOf]; omega
  · have HP : Hid (putU u = [UInt8.ofNat u]) := by rw [Hid, putU, dif_pos (by omega)]
    go_wp2_with (at_builtin; refine halt_q ?_)
    have hx : (((UInt8.ofNat u).toNat : Nat) : Int) = (u : Int) := by
     rw [UInt8.toNat_ofNat']
     omega
    have S1 := sb_one wr _ _ hx
    refine wpList_append_bytes rfl _ _ rfl d' cs rfl (R1.out.on (bel1q _ _)) (some ⟨wr.heap.size, 0, none⟩) 1 [UInt8.ofNat u] rfl S1 (by simp only [List.length_cons, List.length_nil]; omega) ?_
    intro d2 w2 hl2 happ
    obtain ⟨r1, r2, r3⟩ := happ.new (w0 := w0) D1.out (B1.out.trans ((bel1q wr _).mono B1.out.size))
    rw [← HP.out, HE.out] at r1
    have R2 := Lib.hid r1
    have D2 := Lib.hid r2
    have B2 := Lib.hid r3
    clear r1 r2 r3 happ hl2 hx S1
    unfold vB
    go_wp2_with fail
    go_ret
    exact ⟨d2, rfl, R2.out, D2.out, B2.out⟩
set_option maxRecDepth 100000 in
set_option maxHeartbeats 1000000 in
theorem PutUint_any (A : Option Addr) (c : Nat) (bs : List UInt8) (v : Nat) (w : World) (h : SB w A bs) (hn : bs.length ≤ 900000) (hv : v < 18446744073709551616) :
 Calls Tryz.prog 300 #[.slice A bs.length c, .int .u64 (v : Int)] w (NewB (bs ++ putU v) w) := by
 have H := Lib.hid h
 clear h
 go_enter Tryz.func300, Tryz.ntmps300
 go_wp2_with fail
 refine (uintSize_any v _ hv).mono ?_
 rintro e w1 ⟨⟨n, rfl, hn2⟩, rfl⟩
 go_wp2_with fail
 refine (extended_any A c bs n w H.out (by omega) (by omega)).mono ?_
 rintro e w1 ⟨⟨B, m, cc⟩, rfl, hr, hd, hb⟩
 have R1 := Lib.hid hr
 have D1 := Lib.hid hd
 have B1 := Lib.hid hb
 clear hr hd hb
 unfold vB
 go_wp2_with fail
 refine (appendUint_any ⟨B, m, cc⟩ bs v w w1 R1.out D1.out B1.out hv (by omega)).mono ?_
 rintro e w2 ⟨d2, rfl, hr, hd, hb⟩
 have R2 := Lib.hid hr
 have D2 := Lib.hid hd
 have B2 := Lib.hid hb
 clear hr hd hb
 unfold vB
 go_wp2_with fail
 go_ret
 exact ⟨d2, rfl, R2.out, D2.out, B2.out⟩
theorem zig (v : Nat) (hv : v < 4611686018427387904) : bits .xor .u64 ((v : Int) * 2) ((v : Int) / 9223372036854775808) = ((2 * v : Nat) : Int) := by
 have e : (v : Int) * 2 = ((2 * v : Nat) : Int) := by omega
 have e0 : (v : Int) / 9223372036854775808 = ((0 : Nat) : Int) := by omega
 rw [e, e0]
 have := bits_xor_u64_nat (2 * v) 0 (by omega) (by omega)
 rw [Nat.xor_zero] at this
 exact this
set_option maxRecDepth 100000 in
set_option maxHeartbeats 1000000 in
theorem PutInt_any (A : Option Addr) (c : Nat) (bs : List UInt8) (v : Nat) (w : World) (h : SB w A bs) (hn : bs.length ≤ 900000) (hv : v < 4611686018427387904) :
 Calls Tryz.prog 278 #[.slice A bs.length c, .int .i64 (v : Int)] w (NewB (bs ++ putU (2 * v)) w) := by
 have H := Lib.hid h
 clear h
 have E1 := Lib.hid (zig v hv)
 go_enter Tryz.func278, Tryz.ntmps278
 go_wp2_with (go_at_call 300; refine halt_q ?_)
 rw [E1.out]
 refine (PutUint_any A c bs (2 * v) w H.out hn (by omega)).mono ?_
 rintro e w2 ⟨d2, rfl, hr, hd, hb⟩
 have R2 := Lib.hid hr
 have D2 := Lib.hid hd
 have B2 := Lib.hid hb
 clear hr hd hb
 unfold vB
 go_wp2_with fail
 go_ret
 exact ⟨d2, rfl, R2.out, D2.out, B2.out⟩
end Go.Proofs.YteabgcollokgjaaGreatDoor
namespace Go.Proofs.YteabgcollokgjaaGreatDoor
open Go.RowKit

theorem wrap_u64 (z : Int) : IntKind.u64.wrap z = ((u64 z : Nat) : Int) := by
 rw [IntKind.wrap_u64]
 unfold u64
 omega
theorem u64_lt (z : Int) : u64 z < 18446744073709551616 := by
 unfold u64
 omega
theorem u64_nat (n : Nat) (h : n < 18446744073709551616) : u64 (n : Int) = n := by
 unfold u64
 omega
theorem mark_rx (w : World) (fz : Nat × Nat) : RX (w.alloc (.cells #[.int .u8 83, .int .u8 89, .int .u8 67, .int .u8 83] 5 fz)) ⟨some ⟨w.heap.size, 0, none⟩, 4, 4⟩ markB := by
 refine .inr ⟨rfl, rfl, Nat.zero_lt_succ 3, (fun e => by cases e), fun ad e j u hu => ?_⟩
 injection e with e
 subst e
 obtain ⟨hj, hu'⟩ := List.getElem?_eq_some_iff.1 hu
 have hj' : j < 4 := by simpa [markB] using hj
 rw [← hu, lit_add, Nat.zero_add, cell_of_row _ w.heap.size j #[.int .u8 83, .int .u8 89, .int .u8 67, .int .u8 83] 5 fz (heap_alloc_new w _)]
 have hc : j = 0 ∨ j = 1 ∨ j = 2 ∨ j = 3 := by omega
 rcases hc with rfl | rfl | rfl | rfl <;> rfl
set_option maxRecDepth 100000 in
set_option maxHeartbeats 4000000 in
theorem head_any (n : Nat) (z : Int) (file off : Nat) (w : World) (hn : n < 18446744073709551616) (hf : file < 4611686018427387904) (ho : off < 4611686018427387904) :
 Calls Tryz.prog 232 #[.agg #[.int .u64 (n : Int), .int .i64 z], .int .i64 (file : Int), .int .i64 (off : Int)] w (NewB (headB ((n : Int), z) file off) w) := by
 have hw := wrap_u64 z
 have hu := u64_lt z
 have c0 : (w.alloc (.cells #[.int .u64 (n : Int), .int .i64 z] 31)).cell? ⟨w.heap.size, 0, none⟩ = some (.int .u64 (n : Int)) := (IsB.new w 31 _).cell 0
 have c1 : (w.alloc (.cells #[.int .u64 (n : Int), .int .i64 z] 31)).cell? ⟨w.heap.size, 1, none⟩ = some (.int .i64 z) := (IsB.new w 31 _).cell 1
 have B0 := Lib.hid (bel1q w (.cells #[.int .u64 (n : Int), .int .i64 z] 31))
 have IB := Lib.hid (IsB.new w 31 #[.int .u64 (n : Int), .int .i64 z])
 have hsz : (w.alloc (.cells #[.int .u64 (n : Int), .int .i64 z] 31)).heap.size = w.heap.size + 1 := by simp
 have kc := fun (w : World) (C : Array Value) (n c : Nat) => Lib.run_convert_bytes_const (P := Tryz.prog) w 34 5 C n c Tryz.underlying34 Tryz.underlying5
 go_enter Tryz.func232, Tryz.ntmps232
 go_wp2_with fail
 generalize hv : u64 z = v at *
 have HV := Lib.hid hv
 clear hv
 generalize w.alloc (.cells #[.int .u64 (n : Int), .int .i64 z] 31) = W at *
 have hlt : w.heap.size < W.heap.size := by omega
 have hcv : (convert 34 34 (.slice (some ⟨w.heap.size + 1, 0, none⟩) 4 4)).run Tryz.prog (W.alloc (.cells #[.int .u8 83, .int .u8 89, .int .u8 67, .int .u8 83] 5)).drew = .ok (.slice (some ⟨w.heap.size + 1, 0, none⟩) 4 4) (W.alloc (.cells #[.int .u8 83, .int .u8 89, .int .u8 67, .int .u8 83] 5 (4, 5))).drew := by
  rw [← hsz]
  exact kc W.drew #[.int .u8 83, .int .u8 89, .int .u8 67, .int .u8 83] 4 4
 clear kc
 have M1 : Hid (RX (W.alloc (.cells #[.int .u8 83, .int .u8 89, .int .u8 67, .int .u8 83] 5 (4, 5))).drew ⟨some ⟨w.heap.size + 1, 0, none⟩, 4, 4⟩ markB) := by
  rw [Hid, ← hsz]
  exact mark_rx W.drew (4, 5)
 have B1 : Hid (Below W.heap.size W (W.alloc (.cells #[.int .u8 83, .int .u8 89, .int .u8 67, .int .u8 83] 5 (4, 5))).drew) := ((Below.refl _ W).alloc (Nat.le_refl _) _).drew
 go_region_held (fun w' => w'.cell? ⟨w.heap.size, 0, none⟩ = some (.int .u64 (n : Int)) ∧ w'.cell? ⟨w.heap.size, 1, none⟩ = some (.int .i64 z))
  (first | go_keep | exact K1.out | exact K2.out)
  (first
    | (go_at_call 277; (with_reducible refine (number_any ⟨some ⟨w.heap.size + 1, 0, none⟩, 4, 4⟩ markB v W _ M1.out (fun g hg => by simp [blk] at hg; omega) B1.out hu (by simp [markB])).mono ?_); rintro e w1 ⟨⟨A1, m1, cc1⟩, rfl, hr, hd, hb⟩; unfold vB; have R1 := Lib.hid hr; have D1 := Lib.hid hd; have B2 := Lib.hid hb; have K1 : Hid (w1.cell? ⟨w.heap.size, 0, none⟩ = some (.int .u64 (n : Int)) ∧ w1.cell? ⟨w.heap.size, 1, none⟩ = some (.int .i64 z)) := ⟨(IB.out.on hb).cell 0, (IB.out.on hb).cell 1⟩; clear hr hd hb)
    | (go_at_call 277; (with_reducible refine (number_any ⟨A1, m1, cc1⟩ (markB ++ le8 v) n W w1 (RX.of R1.out) D1.out B2.out hn (by simp [markB, le8_len])).mono ?_); rintro e w2 ⟨⟨A2, m2, cc2⟩, rfl, hr, hd, hb⟩; unfold vB; have R2 := Lib.hid hr; have D2 := Lib.hid hd; have B3 := Lib.hid hb; have K2 : Hid (w2.cell? ⟨w.heap.size, 0, none⟩ = some (.int .u64 (n : Int)) ∧ w2.cell? ⟨w.heap.size, 1, none⟩ = some (.int .i64 z)) := ⟨(IB.out.on hb).cell 0, (IB.out.on hb).cell 1⟩; clear hr hd hb))
 have hA : headA ((n : Int), z) = markB ++ le8 v ++ le8 n := by
  unfold headA
  rw [HV.out, u64_nat n hn]
 have HA := Lib.hid hA
 have hl : (markB ++ le8 v ++ le8 n).length ≤ 20 := by rw [← hA, headA_len]; omega
 clear hA hw hsz
 obtain ⟨hb, HB⟩ : ∃ hb, Hid (markB ++ le8 v ++ le8 n = hb) := ⟨_, rfl⟩
 rw [HB.out] at R2 HA hl
 have hm2 : hb.length = m2 := R2.out.1
 subst hm2
 clear HB R1 D1 B2 K1 K2 hcv M1 c0 c1
 go_wp2_with fail
 refine (PutInt_any A2 cc2 hb file w2 R2.out.src (by omega) hf).mono ?_
 rintro e w3 ⟨⟨A3, m3, cc3⟩, rfl, hr, hd, hb3⟩
 have hl3 : (hb ++ putU (2 * file)).length ≤ 40 := by
  have := putU_len (v := 2 * file) (k := 9) (by omega)
  rw [List.length_append]
  omega
 obtain ⟨h3, H3⟩ : ∃ h3, Hid (hb ++ putU (2 * file) = h3) := ⟨_, rfl⟩
 rw [H3.out] at hr hl3
 have hm3 : h3.length = m3 := hr.1
 subst hm3
 have R3 := Lib.hid hr
 have B4 := Lib.hid hb3
 clear hr hd hb3
 unfold vB
 go_wp2_with fail
 refine (PutInt_any A3 cc3 h3 off w3 R3.out.src (by omega) ho).mono ?_
 rintro e w4 ⟨⟨A4, m4, cc4⟩, rfl, hr, hd, hb3⟩
 have hl4 : (h3 ++ putU (2 * off)).length ≤ 60 := by
  have := putU_len (v := 2 * off) (k := 9) (by omega)
  rw [List.length_append]
  omega
 obtain ⟨h4, H4⟩ : ∃ h4, Hid (h3 ++ putU (2 * off) = h4) := ⟨_, rfl⟩
 rw [H4.out] at hr hl4
 have hm4 : h4.length = m4 := hr.1
 subst hm4
 have R4 := Lib.hid hr
 have B5 := Lib.hid hb3
 clear hr hd hb3
 unfold vB
 go_wp2_with fail
 refine (Sum_any A4 cc4 h4 w4 R4.out.rs (by omega)).mono ?_
 rintro e w5 ⟨rfl, rfl⟩
 have hfs := fpSum_lt h4
 unfold pP at hfs
 obtain ⟨sm, HS⟩ : ∃ sm, Hid (fpSum h4 = sm) := ⟨_, rfl⟩
 rw [HS.out] at hfs ⊢
 have R5 : Hid (RB w4 ⟨A2, hb.length, cc2⟩ hb) := (R2.out.on B4.out).on B5.out
 have B6 : Hid (Below W.heap.size W w4) := (B3.out.trans (B4.out.mono B3.out.size)).trans (B5.out.mono (Nat.le_trans B3.out.size B4.out.size))
 go_wp2_with fail
 refine (number_any ⟨A2, hb.length, cc2⟩ hb sm W w4 (RX.of R5.out) D2.out B6.out (by omega) (by omega)).mono ?_
 rintro e w6 ⟨⟨A6, m6, cc6⟩, rfl, hr, hd, hb3⟩
 have R6 := Lib.hid hr
 have D6 := Lib.hid hd
 have B7 := Lib.hid hb3
 clear hr hd hb3
 unfold vB
 go_wp2_with fail
 go_ret
 refine ⟨⟨A6, m6, cc6⟩, rfl, ?_, fun g hg => ?_, B0.out.trans (B7.out.mono (by omega))⟩
 · unfold headB
   rw [HA.out, H3.out, H4.out, HS.out]
   exact R6.out
 · have := D6.out g hg
   omega
end Go.Proofs.YteabgcollokgjaaGreatDoor
namespace Go.Proofs.YteabgcollokgjaaGreatDoor
open Go.RowKit Go.MapKept Go.ChangeMaps
attribute [local go_sem] wext_cell

theorem zero138 (w : World) : (zeroValue 138).run Tryz.prog w = .ok (.agg #[.slice none 0 0, .int .i64 0, .int .i64 0]) w := by kernel_rfl
/-- 'm[i]' of the chunks, with ok. -/
theorem look_ch {w : World} {cm : Nat} {C : Chs} (h : MapIs okID vID vPl w cm C) {i : ID} (hi : okID i) : ∃ A n c f o, ∀ W, Below w.heap.size w W → (Instr.lookup 128 (.map (some cm)) (.agg #[.int .u64 i.1, .int .i64 i.2]) true).run Tryz.prog W = .ok (.tuple #[.agg #[.slice A n c, .int .i64 f, .int .i64 o], .bool (asc C i).isSome]) W := by
 cases ha : asc C i with
 | none =>
  refine ⟨none, 0, 0, 0, 0, fun W hW => ?_⟩
  have := MapIs.look mkI Tryz.underlying128 (zero138 W) (h.on hW) hi true
  rw [ha] at this
  exact this
 | some v =>
  refine ⟨v.A, v.len, v.cap, v.f, v.o, fun W hW => ?_⟩
  have := MapIs.look mkI Tryz.underlying128 (zero138 W) (h.on hW) hi true
  rw [ha] at this
  exact this
section
variable {b : Nat} {w : World} {x : SR} {l : List Ob}
set_option maxRecDepth 100000 in
set_option maxHeartbeats 2000000 in
theorem Has_any (h : Sto b w x l) (i : ID) (hi : okID i) : Calls Tryz.prog 46 #[vPtr x.ps, .agg #[.int .u64 i.1, .int .i64 i.2]] w (fun e w' => e = .returned (.bool (asc x.C i).isSome) ∧ Below w.heap.size w w') := by
 have k2 : w.cell? ⟨x.ps, 2, none⟩ = some (.map (some x.cm)) := h.scell.cell 2
 have hps := h.scell.lt
 obtain ⟨A, n, c, f, o, hlk⟩ := look_ch h.sch hi
 have hl1 := hlk (w.alloc (.cells #[.int .u64 i.1, .int .i64 i.2] 31)).drew ((Below.refl _ w).alloc (Nat.le_refl _) _).drew
 have hl2 := hlk ((w.alloc (.cells #[.int .u64 i.1, .int .i64 i.2] 31)).alloc (.cells #[.slice none 0 0, .int .i64 0, .int .i64 0] 138)).drew (((Below.refl _ w).alloc (Nat.le_refl _) _).alloc (by simp) _).drew
 have hcx : (w.alloc (.cells #[.int .u64 i.1, .int .i64 i.2] 31)).cell? ⟨x.ps, 2, none⟩ = some (.map (some x.cm)) := ((Below.refl _ w).alloc (Nat.le_refl _) _).cell (p := ⟨x.ps, 2, none⟩) hps |>.trans k2
 clear hlk h
 go_enter Tryz.func46, Tryz.ntmps46
 go_wp2_with fail
 go_region
 all_goals (
  go_wp2_with fail
  go_ret
  exact ⟨rfl, (((Below.refl _ w).alloc (Nat.le_refl _) _).alloc (by simp) _).drew⟩)
end
end Go.Proofs.YteabgcollokgjaaGreatDoor
namespace Go.Proofs.YteabgcollokgjaaGreatDoor
open Go.RowKit Go.MapKept Go.ChangeMaps
attribute [local go_sem] wext_cell

theorem add_str (a b : ByteArray) (W : World) (h : a.size + b.size ≤ 9223372036854775807) : (binOp .add 9 (.string a) (.string b)).run Tryz.prog W = .ok (.string (a ++ b)) W := by
 simp [binOp, Op.stringOp]
 omega
theorem dec1 : (⟨(Lib.decDigits 1).toArray⟩ : ByteArray) = ⟨#[49]⟩ := by kernel_rfl
theorem cl91_any (pl : Pl) (W : World) : Calls Tryz.prog 91 #[.agg #[.slice pl.A pl.len pl.cap, .int .i64 pl.f, .int .i64 pl.o]] W (fun e w' => e = .returned (.bool ((fun _ => true) pl)) ∧ Below W.heap.size W w') := by
 go_enter Tryz.func91, Tryz.ntmps91
 go_wp2_with fail
 go_ret
 exact ⟨rfl, (Below.refl _ _).alloc (Nat.le_refl _) _⟩
section
variable {b : Nat} {w : World} {x : SR} {l : List Ob}
set_option maxRecDepth 100000 in
theorem IDs_anyC (h : Sto b w x l) (hn : x.C.length ≤ 12) : Calls Tryz.prog 28 #[vPtr x.ps] w (IdsPostC (fun _ => true) x.C w) := by
 have hc := ids_anyC 91 (fun _ => true) x.ps x.cm x.C w (h.scell.cell 2) h.sch (by rw [List.length_map]; exact Nat.le_trans (List.length_filter_le _ _) hn) (by omega) (enters_of Tryz.func91 (by kernel_rfl) rfl) (fun pl W => cl91_any pl W)
 have H := Lib.hid hc
 clear hc h
 go_enter Tryz.func28, Tryz.ntmps28
 go_wp2_with fail
 refine H.out.mono ?_
 rintro e w1 ⟨A, c, ys, rfl, h1, h2, h3, h4, h5⟩
 have HH : Hid (ys.Perm ((x.C.filter (fun c => (fun _ => true) c.2)).map (·.1)) ∧ SortedI ys ∧ RI w1 w.heap.size A ys ∧ Below w.heap.size w w1 ∧ ys.length ≤ c) := ⟨h1, h2, h3, h4, h5⟩
 clear h1 h2 h3 h4 h5
 go_wp2_with fail
 go_ret
 exact ⟨A, c, ys, rfl, HH.out⟩
/-- The name of a file. -/
def fileN (nm : ByteArray) : ByteArray := nm ++ ⟨#[46]⟩ ++ ⟨#[49]⟩
def freshN (nm : ByteArray) : ByteArray := nm ++ ⟨#[46, 110, 101, 119]⟩
set_option maxRecDepth 100000 in
set_option maxHeartbeats 1000000 in
theorem fileName_any (ps : Nat) (nm : ByteArray) (w : World) (hc : w.cell? ⟨ps, 1, none⟩ = some (.string nm)) (hs : nm.size ≤ 1000) : Calls Tryz.prog 101 #[vPtr ps, .int .i64 1] w (fun e w' => e = .returned (.string (fileN nm)) ∧ ∃ q, w' = w.drewN q) := by
 have hit : Hid (∀ w, Calls Tryz.prog 155 #[.int .i64 1] w fun e w' => e = .returned (.string ⟨#[49]⟩) ∧ w' = w) := fun w => (Tryz.strconv_Itoa_small 1 (by omega) w).mono fun _ _ h => ⟨by rw [h.1, dec1], h.2⟩
 have ha1 := fun W => add_str nm ⟨#[46]⟩ W (by show nm.size + 1 ≤ _; omega)
 have hsz : (nm ++ (⟨#[46]⟩ : ByteArray)).size ≤ 1001 := by rw [ByteArray.size_append]; show nm.size + 1 ≤ _; omega
 have ha2 := fun W => add_str (nm ++ ⟨#[46]⟩) ⟨#[49]⟩ W (by show _ + 1 ≤ _; omega)
 go_enter Tryz.func101, Tryz.ntmps101
 go_wp2_with fail
 go_quiet ((go_at_call 155; exact Calls.quiet_of_same (hit.out _)))
 go_wp2_with fail
 go_ret
 exact ⟨rfl, _, rfl⟩
set_option maxRecDepth 100000 in
set_option maxHeartbeats 1000000 in
theorem fresh_any (ps : Nat) (nm : ByteArray) (w : World) (hc : w.cell? ⟨ps, 1, none⟩ = some (.string nm)) (hs : nm.size ≤ 1000) : Calls Tryz.prog 179 #[vPtr ps] w (fun e w' => e = .returned (.string (freshN nm)) ∧ w = w') := by
 go_enter Tryz.func179, Tryz.ntmps179
 go_wp2_with fail
 go_ret
 exact ⟨rfl, rfl⟩
end
end Go.Proofs.YteabgcollokgjaaGreatDoor
namespace Go.Proofs.YteabgcollokgjaaGreatDoor
open Go.RowKit Go.MapKept Go.ChangeMaps
attribute [local go_sem] wext_cell

/-- The bytes of a chunk at a place, if they have its ID. -/
def readC (s : St) (nm : ByteArray) (i : ID) : Pl → Option (List UInt8)
 | .pend _ bs => some bs
 | .at o => if readE s (fileN nm) = 0 ∧ cutOk (readB s (fileN nm)) i o = true then some (cutB (readB s (fileN nm)) i o) else none
theorem file_ok {nm : ByteArray} (h : nm.size ≤ 1000) : okS (fileN nm) := by
 unfold okS fileN maxLen
 rw [ByteArray.size_append, ByteArray.size_append]
 show nm.size + 1 + 1 ≤ _
 omega
theorem readB_len {s : St} (h : Ok s) (nm : ByteArray) : (readB s nm).length ≤ 4194304 := by
 unfold readB
 split
 · cases hb : s.now nm with
   | none => simp
   | some v => exact h.now.1 nm v hb
 · simp
theorem after_draws {W w5 : World} {q : Nat} (h : w5 = W.drew.drewN q) : Below W.heap.size W w5 := by
 subst h
 exact bdrewN (Below.refl W.heap.size W).drew q
section
variable {b : Nat} {w : World} {x : SR} {l : List Ob}
end
end Go.Proofs.YteabgcollokgjaaGreatDoor
namespace Go.Proofs.YteabgcollokgjaaGreatDoor
open Go.RowKit Go.MapKept Go.ChangeMaps

/-- A store that answers. -/
structure WF (x : SR) : Prop where
 live : x.dead = false
 up : x.s.dn = false
 name : x.nm.size ≤ 1000
 few : x.C.length ≤ 4096
 ids : ∀ c ∈ x.C, 1 ≤ c.1.2 ∧ c.1.2 ≤ 4194304
 offs : ∀ i o, (i, Pl.at o) ∈ x.C → o ≤ 4194304
 pends : ∀ i d bs, (i, Pl.pend d bs) ∈ x.C → bs.length ≤ 8192
theorem look_no {w : World} {cm : Nat} {C : Chs} (h : MapIs okID vID vPl w cm C) {i : ID} (hi : okID i) (ha : asc C i = none) (W : World) (hW : Below w.heap.size w W) : (Instr.lookup 128 (.map (some cm)) (.agg #[.int .u64 i.1, .int .i64 i.2]) true).run Tryz.prog W = .ok (.tuple #[.agg #[.slice none 0 0, .int .i64 0, .int .i64 0], .bool false]) W := by
 have := MapIs.look mkI Tryz.underlying128 (zero138 W) (h.on hW) hi true
 rw [ha] at this
 exact this
theorem rb_nil (w : World) : RB w ⟨none, 0, 0⟩ [] := ⟨rfl, Nat.le_refl _, fun _ => rfl, fun ad e => by cases e⟩
section
variable {b : Nat} {w : World} {x : SR} {l : List Ob}
theorem ready_live (h : Sto b w x l) (hl : x.dead = false) (hd : x.s.dn = false) : Calls Tryz.prog 84 #[vPtr x.ps] w (fun e w' => e = .returned (.int .i64 0) ∧ w = w') := by
 have k0 : w.cell? ⟨x.ps, 0, none⟩ = some (vPtr x.p) := h.scell.cell 0
 have k6 : w.cell? ⟨x.ps, 6, none⟩ = some (.bool false) := by rw [← hl]; exact h.scell.cell 6
 have H := Lib.hid h.sdv
 have Hd := Lib.hid hd
 clear h hl hd
 go_enter Tryz.func84, Tryz.ntmps84
 go_wp2_with (go_at_call 82; refine (Down_any x.p x.r x.s _ H.out).mono ?_; rw [Hd.out]; rintro e w1 ⟨rfl, rfl⟩)
 go_ret
 exact ⟨rfl, rfl⟩
end
end Go.Proofs.YteabgcollokgjaaGreatDoor
namespace Go.Proofs.YteabgcollokgjaaGreatDoor
open Go.RowKit Go.MapKept Go.ChangeMaps

section
variable {b : Nat} {w : World} {x : SR} {l : List Ob}
end
end Go.Proofs.YteabgcollokgjaaGreatDoor
namespace Go.Proofs.YteabgcollokgjaaGreatDoor
open Go.RowKit Go.MapKept Go.ChangeMaps
theorem map_is {α β : Type} {ok : α → Prop} {kv : α → Value} {vv : β → Value} {w : World} {b : Nat} {L : List (α × β)} (h : MapIs ok kv vv w b L) {t : TypeId} {cs : Array Value} : ¬ IsB w b t cs := by
 obtain ⟨es, clock, hb, _⟩ := h
 intro hi
 unfold IsB at hi
 rw [hb] at hi
 cases hi
theorem RB.ne_mapM {α β : Type} {ok : α → Prop} {kv : α → Value} {vv : β → Value} {w : World} {b : Nat} {L : List (α × β)} (h : MapIs ok kv vv w b L) {d : BD} {bs : List UInt8} (hr : RB w d bs) : blk d ≠ some b := by
 intro e
 obtain ⟨A, n, c⟩ := d
 cases A with
 | none => cases e
 | some ad =>
  obtain ⟨g, cur, rfl, hi, _⟩ := hr.2.2.2 ad rfl
  have : g = b := by simpa [blk] using e
  subst this
  exact map_is h hi
theorem RS.set {w : World} {A : Option Addr} {bs : List UInt8} (h : RS w A bs) {g : Nat} {t : TypeId} {cs : Array Value} (hg : IsB w g t cs) (hn : ∀ (j : Nat) (v : Value), cs[j]? = some v → ∀ u : UInt8, v ≠ encU u) (k : Nat) (u : Value) : RS (w.setCell ⟨g, k, none⟩ u) A bs := by
 refine ⟨h.1, fun ad e => ?_⟩
 obtain ⟨g', o, rfl, hc⟩ := h.2 ad e
 refine ⟨g', o, rfl, fun j hj => ?_⟩
 have h1 := hc j hj
 have hne : g' ≠ g := by
  rintro rfl
  rw [hg.cell] at h1
  exact hn _ _ h1 _ rfl
 have h2 : (w.setCell ⟨g, k, none⟩ u).heap[g']? = w.heap[g']? := Below.heap_setCell w _ u g' hne
 rw [← h1]
 simp [World.cell?, h2]
theorem cells_no8 {x : SR} : ∀ (j : Nat) (v : Value), x.cells[j]? = some v → ∀ u : UInt8, v ≠ encU u := by
 intro j v h u e
 subst e
 unfold encU at h
 match j with
 | 0 | 1 | 2 | 3 | 4 | 5 | 6 => simp at h
 | j + 7 => simp at h
theorem map_ne {α β : Type} {ok : α → Prop} {kv : α → Value} {vv : β → Value} {w : World} {b : Nat} {L : List (α × β)} (h : MapIs ok kv vv w b L) {g : Nat} {t : TypeId} {cs : Array Value} (hi : IsB w g t cs) : some g ≠ some b := fun e => map_is h (by injection e with e; rw [← e]; exact hi)
theorem RB.gone {w w' : World} {b : Nat} {d : BD} {bs : List UInt8} {C : Chs} (h : RB w d bs) (hm : MapIs okID vID vPl w b C) (hg : w.grownBy w' (some b)) : RB w' d bs := h.grown hg (RB.ne_mapM hm h)
end Go.Proofs.YteabgcollokgjaaGreatDoor
namespace Go.Proofs.YteabgcollokgjaaGreatDoor
open Go.RowKit Go.MapKept Go.ChangeMaps

/-- A store with one chunk more. -/
def putS (x : SR) (i : ID) (d : BD) (bs : List UInt8) : SR := { x with C := setL x.C i (.pend d bs), wait := x.wait + 1, bytes := x.bytes + bs.length }
/-- What a call of Put leaves that lays down a chunk. -/
def PutNew (b : Nat) (x : SR) (l : List Ob) (bs : List UInt8) (w : World) (e : Ending) (w' : World) : Prop := e = .returned (.tuple #[.agg #[.int .u64 (fpOf bs).1, .int .i64 (fpOf bs).2], .int .i64 0]) ∧ ∃ d, Sto b w' (putS x (fpOf bs) d bs) l ∧ (∀ g, blk d = some g → w.heap.size ≤ g) ∧ Below b w w'
section
variable {b : Nat} {w : World} {x : SR} {l : List Ob}
end
end Go.Proofs.YteabgcollokgjaaGreatDoor
namespace Go.Proofs.YteabgcollokgjaaGreatDoor
open Go.RowKit Go.MapKept Go.ChangeMaps
/-- A chunk is laid down in memory. -/
theorem Sep.lay {b : Nat} {w w3 w4 : World} {l : List Ob} (h : Sep b w l) (k : Nat) {cm : Nat} {C : Chs} (hk : l[k]? = some (chOb cm C)) {i : ID} {d : BD} {bs : List UInt8} (hb : Below w.heap.size w w3) (hr : RB w3 d bs) (hn : ∀ g, blk d = some g → w.heap.size ≤ g) (hp : 0 < bs.length) (hm : MapIs okID vID vPl w4 cm (setL C i (.pend d bs))) (hg : w3.grownBy w4 (some cm)) : Sep b w4 (l.set k (chOb cm (setL C i (.pend d bs)))) ∧ Below b w w4 := by
 have hh := h.get hk
 have hm3 : MapIs okID vID vPl w3 cm C := hh.1.on hb
 have hmem : ∀ c ∈ setL C i (.pend d bs), c = (i, .pend d bs) ∨ c ∈ C := (setL_pairwise (R := fun _ _ => True) hh.1.nodup (List.pairwise_of_forall (by simp)) i (Pl.pend d bs) (by simp) (by simp)).2
 have hpend : ∀ id d' bs', (id, Pl.pend d' bs') ∈ setL C i (.pend d bs) → RB w4 d' bs' ∧ 0 < bs'.length := by
  intro id d' bs' hc
  rcases hmem _ hc with e | e
  · injection e with e1 e2
    injection e2 with e2 e3
    subst e2
    subst e3
    exact ⟨hr.gone hm3 hg, hp⟩
  · have := hh.2 id d' bs' e
    exact ⟨(this.1.on hb).gone hm3 hg, this.2⟩
 refine h.stepAt k hk ((Fr.of_below hb _).trans (Fr.grown hg rfl (fun _ hi => .inl hi))) (fun j hj => ?_) ⟨hm, hpend⟩ (fun j hj => ?_)
 · obtain ⟨id, d', bs', hc, hbk⟩ := hj
   rcases hmem _ hc with e | e
   · injection e with e1 e2
     injection e2 with e2 e3
     subst e2
     exact .inr (.inr (hn j hbk))
   · exact .inr (.inl ⟨id, d', bs', e, hbk⟩)
 · rcases hj with hj | ⟨id, d', bs', hc, hbk⟩
   · have e : j = cm := hj
     rw [e]
     exact hm.lt
   · exact (hpend id d' bs' hc).1.lt hbk
section
variable {b : Nat} {w : World} {x : SR} {l : List Ob}
set_option maxRecDepth 100000 in
set_option maxHeartbeats 8000000 in
theorem Put_new (h : Sto b w x l) (hf : WF x) (A : Option Addr) (c : Nat) (bs : List UInt8) (hs : RS w A bs) (h1 : 1 ≤ bs.length) (h2 : bs.length ≤ 8192) (ha : asc x.C (fpOf bs) = none) (hc : x.C.length < 4096) (hw0 : 0 ≤ x.wait) (hw1 : x.wait ≤ 1099511627776) (hb0 : 0 ≤ x.bytes) (hb1 : x.bytes ≤ 1099511627776) :
 Calls Tryz.prog 23 #[vPtr x.ps, .slice A bs.length c] w (PutNew b x l bs w) := by
 have hi : okID (fpOf bs) := okID_fp bs (by omega)
 have hi2 : Hid ((fpOf bs).2 = (bs.length : Int)) := rfl
 have hbase := h.base
 have B0 := Lib.hid (bel1q w (.cells #[.int .u64 0, .int .i64 0] 31))
 have H0 := Lib.hid (h.on B0.out)
 have S0 := Lib.hid (hs.on B0.out)
 have HRD := Lib.hid (ready_live H0.out hf.live hf.up)
 have HOF := Lib.hid (Of_any A c bs _ S0.out (by omega))
 have I0 : Hid (IsB (w.alloc (.cells #[.int .u64 0, .int .i64 0] 31)) w.heap.size 31 #[.int .u64 0, .int .i64 0]) := IsB.new _ _ _
 have hfew := hf.few
 obtain ⟨i, HI⟩ : ∃ i, Hid (fpOf bs = i) := ⟨_, rfl⟩
 rw [HI.out] at HOF hi ha hi2
 unfold PutNew
 rw [HI.out]
 have HA := Lib.hid ha
 clear hf ha
 go_enter Tryz.func23, Tryz.ntmps23
 go_wp2_with (go_at_call 84; refine HRD.out.mono ?_; rintro e w1 ⟨rfl, rfl⟩)
 refine HOF.out.mono ?_
 rintro e w2 ⟨rfl, hb⟩
 have B2 : Hid (Below w.heap.size w w2) := B0.out.trans (hb.mono B0.out.size)
 have I2 := Lib.hid (I0.out.on hb)
 have H2 := Lib.hid (H0.out.on hb)
 have S2 := Lib.hid (S0.out.on hb)
 have lt2 : w.heap.size < w2.heap.size := I2.out.lt
 have HB := Lib.hid hb
 clear hb
 have hps : x.ps < w2.heap.size := H2.out.scell.lt
 have BA := Lib.hid (bel1q w2 (.cells #[.int .u64 i.1, .int .i64 i.2] 31))
 have hcx : (w2.alloc (.cells #[.int .u64 i.1, .int .i64 i.2] 31)).cell? ⟨x.ps, 2, none⟩ = some (.map (some x.cm)) := (H2.out.on BA.out).scell.cell 2
 have hl1 := look_no H2.out.sch hi HA.out (w2.alloc (.cells #[.int .u64 i.1, .int .i64 i.2] 31)).drew ((Below.refl _ w2).alloc (Nat.le_refl _) _).drew
 have hl2 := look_no H2.out.sch hi HA.out ((w2.alloc (.cells #[.int .u64 i.1, .int .i64 i.2] 31)).alloc (.cells #[.slice none 0 0, .int .i64 0, .int .i64 0] 138)).drew (((Below.refl _ w2).alloc (Nat.le_refl _) _).alloc (by simp) _).drew
 have B3 : Hid (Below w2.heap.size w2 ((w2.alloc (.cells #[.int .u64 i.1, .int .i64 i.2] 31)).alloc (.cells #[.slice none 0 0, .int .i64 0, .int .i64 0] 138)).drew) := (BA.out.alloc (by simp) _).drew
 have J3 : Hid (IsB ((w2.alloc (.cells #[.int .u64 i.1, .int .i64 i.2] 31)).alloc (.cells #[.slice none 0 0, .int .i64 0, .int .i64 0] 138)).drew w2.heap.size 31 #[.int .u64 i.1, .int .i64 i.2]) := (IsB.new _ _ _).on ((bel1q _ _).drew)
 have SP1 := Lib.hid (((h.newCell 31 #[.int .u64 0, .int .i64 0]).1.on HB.out).newCell 31 #[.int .u64 i.1, .int .i64 i.2]).1
 have SP2 : Hid (Sep b ((w2.alloc (.cells #[.int .u64 i.1, .int .i64 i.2] 31)).alloc (.cells #[.slice none 0 0, .int .i64 0, .int .i64 0] 138)).drew (cellOb w2.heap.size 31 #[.int .u64 i.1, .int .i64 i.2] :: cellOb w.heap.size 31 #[.int .u64 0, .int .i64 0] :: x.obs l)) := SP1.out.on ((bel1q _ _).drew)
 clear h
 go_wp2_with fail
 go_region
 all_goals (
  have HL := Lib.hid (MapIs.len Tryz.underlying128 (H2.out.sch.on B3.out) 3)
  have H3 := Lib.hid (H2.out.on B3.out)
  have S3 := Lib.hid (S2.out.on B3.out)
  have I3 := Lib.hid (I2.out.on B3.out)
  have B4 : Hid (Below w.heap.size w _) := B2.out.trans (B3.out.mono B2.out.size)
  have lt3 := B3.out.size
  clear SP1
  generalize ((w2.alloc (.cells #[.int .u64 i.1, .int .i64 i.2] 31)).alloc (.cells #[.slice none 0 0, .int .i64 0, .int .i64 0] 138)).drew = W at *
  have hps2 := H3.out.scell.cell 2
  have hps5 := H3.out.scell.cell 5
  have hpf5 := H3.out.scell.frozen 5
  have hlen := HL.out
  have hj1 := J3.out.cell 1
  simp only [hi2.out] at hj1
  clear hl1 hl2 hcx
  go_upto_region 17 with fail
  have hsum : IntKind.i64.wrap (x.bytes + (bs.length : Int)) = x.bytes + (bs.length : Int) := IntWalk.i64_in _ (by omega)
  go_region
  go_upto_region 18 with fail
  have SPV : Hid (Sep b (W.setCell ⟨x.ps, 5, none⟩ (.int .i64 (x.bytes + (bs.length : Int)))).drew (cellOb w2.heap.size 31 #[.int .u64 i.1, .int .i64 i.2] :: cellOb w.heap.size 31 #[.int .u64 0, .int .i64 0] :: ({ x with bytes := x.bytes + (bs.length : Int) } : SR).obs l)) := ((SP2.out.setAt 3 rfl 5 (.int .i64 (x.bytes + (bs.length : Int)))).1).on ((Below.refl _ _).drew)
  have BV : Hid (Below b w (W.setCell ⟨x.ps, 5, none⟩ (.int .i64 (x.bytes + (bs.length : Int)))).drew) := (B4.out.mono hbase).trans ((SP2.out.setAt 3 rfl 5 (.int .i64 (x.bytes + (bs.length : Int)))).2.drew)
  have SV : Hid (RS (W.setCell ⟨x.ps, 5, none⟩ (.int .i64 (x.bytes + (bs.length : Int)))).drew A bs) := S3.out.set H3.out.scell cells_no8 5 _
  have hWV : W.heap.size ≤ (W.setCell ⟨x.ps, 5, none⟩ (.int .i64 (x.bytes + (bs.length : Int)))).drew.heap.size := by simp [World.setCell]
  clear hps2 hps5 hpf5 hlen hj1 H3 HL SP2 S3
  generalize (W.setCell ⟨x.ps, 5, none⟩ (.int .i64 (x.bytes + (bs.length : Int)))).drew = V at *
  have ltV : w2.heap.size ≤ V.heap.size := Nat.le_trans lt3 hWV
  have IPV := Lib.hid (SPV.out.cell (k := 3) rfl)
  have IJV := Lib.hid (SPV.out.cell (k := 0) rfl)
  have MV : Hid (MapIs okID vID vPl V x.cm x.C) := (SPV.out.get (k := 4) (o := chOb x.cm x.C) rfl).1
  have p2 : V.cell? ⟨x.ps, 2, none⟩ = some (.map (some x.cm)) := IPV.out.cell 2
  have q0 : V.cell? ⟨w2.heap.size, 0, none⟩ = some (.int .u64 i.1) := IJV.out.cell 0
  have q1 : V.cell? ⟨w2.heap.size, 1, none⟩ = some (.int .i64 i.2) := IJV.out.cell 1
  have hpsV : x.ps < V.heap.size := IPV.out.lt
  have hw2V : w2.heap.size < V.heap.size := IJV.out.lt
  have HCL : Hid (Calls Tryz.prog 87 #[.slice A bs.length c] V.drew (fun e w' => ∃ A3 n3 c3, e = .returned (.slice A3 n3 c3) ∧ RB w' ⟨A3, n3, c3⟩ bs ∧ (∀ g, blk ⟨A3, n3, c3⟩ = some g → V.heap.size ≤ g) ∧ Below V.heap.size V w')) := (CloneB_any A c bs V.drew (show SB V.drew A bs from SV.out.sb) (by omega)).mono (by
   rintro e w' ⟨⟨A3, n3, c3⟩, rfl, r1, r2, r3⟩
   exact ⟨A3, n3, c3, rfl, r1, r2, of_drew r3⟩)
  go_region_held (fun w' => w'.cell? ⟨x.ps, 2, none⟩ = some (.map (some x.cm)) ∧ w'.cell? ⟨w2.heap.size, 0, none⟩ = some (.int .u64 i.1) ∧ w'.cell? ⟨w2.heap.size, 1, none⟩ = some (.int .i64 i.2))
   (first | go_keep | exact K5.out | exact K6.out)
   (first
     | (go_at_call 87; (with_reducible refine HCL.out.mono ?_); rintro e w3 ⟨A3, n3, c3, rfl, hr3, hf3, hb3⟩; have R3 := Lib.hid hr3; have F3 := Lib.hid hf3; have B5 := Lib.hid hb3; have K5 : Hid (w3.cell? ⟨x.ps, 2, none⟩ = some (.map (some x.cm)) ∧ w3.cell? ⟨w2.heap.size, 0, none⟩ = some (.int .u64 i.1) ∧ w3.cell? ⟨w2.heap.size, 1, none⟩ = some (.int .i64 i.2)) := ⟨(hb3.cell (p := ⟨x.ps, 2, none⟩) hpsV).trans p2, (hb3.cell (p := ⟨w2.heap.size, 0, none⟩) hw2V).trans q0, (hb3.cell (p := ⟨w2.heap.size, 1, none⟩) hw2V).trans q1⟩; obtain ⟨w4, hu, hm4, hg4, hz4⟩ := MapIs.update mkI Tryz.underlying128 (MV.out.on hb3) hi (Pl.pend ⟨A3, n3, c3⟩ bs); have hu' : (Instr.mapUpdate 128 (.map (some x.cm)) (.agg #[.int .u64 i.1, .int .i64 i.2]) (.agg #[.slice A3 n3 c3, .int .i64 0, .int .i64 0])).run Tryz.prog w3 = .ok () w4 := hu; have M4 := Lib.hid hm4; have G4 := Lib.hid hg4; have K6 : Hid (w4.cell? ⟨x.ps, 2, none⟩ = some (.map (some x.cm)) ∧ w4.cell? ⟨w2.heap.size, 0, none⟩ = some (.int .u64 i.1) ∧ w4.cell? ⟨w2.heap.size, 1, none⟩ = some (.int .i64 i.2)) := ⟨((IPV.out.on hb3).grown hg4 (map_ne (MV.out.on hb3) (IPV.out.on hb3))).cell 2, ((IJV.out.on hb3).grown hg4 (map_ne (MV.out.on hb3) (IJV.out.on hb3))).cell 0, ((IJV.out.on hb3).grown hg4 (map_ne (MV.out.on hb3) (IJV.out.on hb3))).cell 1⟩; clear hr3 hf3 hb3 hu hm4 hg4))
  obtain ⟨sp4, b4⟩ := SPV.out.lay 4 (cm := x.cm) (C := x.C) rfl B5.out R3.out F3.out (by omega) M4.out G4.out
  have SP4 : Hid (Sep b w4 (cellOb w2.heap.size 31 #[.int .u64 i.1, .int .i64 i.2] :: cellOb w.heap.size 31 #[.int .u64 0, .int .i64 0] :: ({ x with C := setL x.C i (Pl.pend ⟨A3, n3, c3⟩ bs), bytes := x.bytes + (bs.length : Int) } : SR).obs l)) := sp4
  have BX : Hid (Below b w w4) := BV.out.trans b4
  clear sp4 b4 p2 q0 q1
  have IP4 := Lib.hid (SP4.out.cell (k := 3) rfl)
  have p4 : w4.cell? ⟨x.ps, 4, none⟩ = some (.int .i64 x.wait) := IP4.out.cell 4
  have pf4 := IP4.out.frozen 4
  have hsum2 : IntKind.i64.wrap (x.wait + 1) = x.wait + 1 := IntWalk.i64_in _ (by omega)
  go_upto_region 20 with fail
  have SP5 : Hid (Sep b (w4.setCell ⟨x.ps, 4, none⟩ (.int .i64 (x.wait + 1))) (cellOb w2.heap.size 31 #[.int .u64 i.1, .int .i64 i.2] :: cellOb w.heap.size 31 #[.int .u64 0, .int .i64 0] :: (putS x i ⟨A3, n3, c3⟩ bs).obs l)) := (SP4.out.setAt 3 rfl 4 (.int .i64 (x.wait + 1))).1
  have BY : Hid (Below b w (w4.setCell ⟨x.ps, 4, none⟩ (.int .i64 (x.wait + 1)))) := BX.out.trans (SP4.out.setAt 3 rfl 4 (.int .i64 (x.wait + 1))).2
  clear p4 pf4 SP4 SPV
  generalize w4.setCell ⟨x.ps, 4, none⟩ (.int .i64 (x.wait + 1)) = V5 at *
  have IA5 := Lib.hid (SP5.out.cell (k := 1) rfl)
  have IJ5 := Lib.hid (SP5.out.cell (k := 0) rfl)
  have q0 : V5.cell? ⟨w2.heap.size, 0, none⟩ = some (.int .u64 i.1) := IJ5.out.cell 0
  have q1 : V5.cell? ⟨w2.heap.size, 1, none⟩ = some (.int .i64 i.2) := IJ5.out.cell 1
  have k40 := IA5.out.cell 0
  have k41 := IA5.out.cell 1
  have f40 := IA5.out.frozen 0
  have f41 := IA5.out.frozen 1
  go_wp2_with fail
  have SP6 : Hid (Sep b (V5.setCell ⟨w.heap.size, 0, none⟩ (.int .u64 i.1)) (cellOb w2.heap.size 31 #[.int .u64 i.1, .int .i64 i.2] :: cellOb w.heap.size 31 #[.int .u64 i.1, .int .i64 0] :: (putS x i ⟨A3, n3, c3⟩ bs).obs l)) := (SP5.out.setAt 1 rfl 0 (.int .u64 i.1)).1
  have SP7 : Hid (Sep b ((V5.setCell ⟨w.heap.size, 0, none⟩ (.int .u64 i.1)).setCell ⟨w.heap.size, 1, none⟩ (.int .i64 i.2)) (cellOb w2.heap.size 31 #[.int .u64 i.1, .int .i64 i.2] :: cellOb w.heap.size 31 #[.int .u64 i.1, .int .i64 i.2] :: (putS x i ⟨A3, n3, c3⟩ bs).obs l)) := (SP6.out.setAt 1 rfl 1 (.int .i64 i.2)).1
  have BZ : Hid (Below b w ((V5.setCell ⟨w.heap.size, 0, none⟩ (.int .u64 i.1)).setCell ⟨w.heap.size, 1, none⟩ (.int .i64 i.2))) := (BY.out.setCell hbase _).setCell hbase _
  have c0 := (SP7.out.cell (k := 1) rfl).cell 0
  have c1 := (SP7.out.cell (k := 1) rfl).cell 1
  generalize ((V5.setCell ⟨w.heap.size, 0, none⟩ (.int .u64 i.1)).setCell ⟨w.heap.size, 1, none⟩ (.int .i64 i.2)) = W' at SP7 BZ c0 c1 ⊢
  refine bodyPost_ret (v := .tuple #[.agg #[.int .u64 i.1, .int .i64 i.2], .int .i64 0]) ?_ rfl ⟨rfl, ⟨A3, n3, c3⟩, SP7.out.tail.tail, (fun g hg => ?_), BZ.out⟩
  · simp [results, Tryz.results23, go_sem, c0, c1]
  · have := F3.out g hg
    have := B2.out.size
    omega)
end
end Go.Proofs.YteabgcollokgjaaGreatDoor
