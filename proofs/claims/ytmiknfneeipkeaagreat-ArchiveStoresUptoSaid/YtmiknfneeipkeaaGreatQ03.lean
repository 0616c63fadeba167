/- Contracts of the walk, part 3. -/
import Derived.Lib.SliceRun
import Derived.WalkKit
import Derived.Shelf.Small.Bits
import Derived.Shelf.Small.Wraps
import Derived.Shelf.Strconv.Itoa0
import Derived.Shelf.Strings.Prefix
import Derived.Shelf.Bits.Mul64
import Derived.Ground.Names2Prog
import Derived.Shelf.Slices.SearchI
import Derived.Shelf.Bytes.SlSearch0
import Derived.Shelf.Bytes.SlSmallAll
import Derived.Shelf.Bytes.SlEqualAll
import Derived.Shelf.Bytes.Small
import Derived.Test.YtmiknfneeipkeaaGreatProg
import Derived.Laws.Bits64b
import Derived.Test.YtmiknfneeipkeaaGreatQ02
namespace Go.Proofs.YtmiknfneeipkeaaGreat
open Go.RowKit

section
variable {w : World} {ops : Array Oper} {rest : List Oper} {o : Oper} {a : Act} {Q : Exit → Act → World → Prop}
theorem wp_append_bytes {K : Act → World → Prop} (s x : Operand) (ho : o.op = .call { callee := .builtin .append, args := #[s, x], argTypes := #[40, 40] }) (d : BD) (bs : List UInt8) (hs : a.eval s = vB d) (h : RB w d bs)
    (A : Option Addr) (c : Nat) (ns : List UInt8) (hx : a.eval x = .slice A ns.length c) (hsrc : SB w A ns) (hb : bs.length + ns.length ≤ 1099511627776)
    (hK : ∀ d' w', d'.len = d.len + ns.length → AppB w d (bs ++ ns) d' w' → K (a.put o.dst (vB d')) w') : o.wp Tryz.prog a w K Q := by
  obtain ⟨d', w', hr, h2, h3⟩ := run_append_bytes w o.type d bs h A c ns hsrc hb
  unfold Oper.wp execOp
  simp only [ho, resolve, invoke, builtin, Sem.run_bind, Sem.run_pure, Result.andThen_ok, List.map_toArray, List.map_cons, List.map_nil, hs, hx, hr]
  exact hK d' w' h2 h3
theorem wpList_append_bytes (hgd : o.guard = none) (s x : Operand) (ho : o.op = .call { callee := .builtin .append, args := #[s, x], argTypes := #[40, 40] }) (d : BD) (bs : List UInt8) (hs : a.eval s = vB d) (h : RB w d bs)
    (A : Option Addr) (c : Nat) (ns : List UInt8) (hx : a.eval x = .slice A ns.length c) (hsrc : SB w A ns) (hb : bs.length + ns.length ≤ 1099511627776)
    (hK : ∀ d' w', d'.len = d.len + ns.length → AppB w d (bs ++ ns) d' w' → wpList Tryz.prog ops Q rest (a.put o.dst (vB d')) w') : wpList Tryz.prog ops Q (o :: rest) a w :=
  wpList_plain hgd fun _ hK' => wp_append_bytes s x ho d bs hs h A c ns hx hsrc hb fun d' w' h2 h3 => hK' _ _ (hK d' w' h2 h3)
theorem step_append_bytes {K : Act → World → Prop} {E : Prop} (hgd : o.guard = none) (s x : Operand) (ho : o.op = .call { callee := .builtin .append, args := #[s, x], argTypes := #[40, 40] }) (d : BD) (bs : List UInt8) (hs : a.eval s = vB d) (h : RB w d bs)
    (A : Option Addr) (c : Nat) (ns : List UInt8) (hx : a.eval x = .slice A ns.length c) (hsrc : SB w A ns) (hb : bs.length + ns.length ≤ 1099511627776)
    (hK : ∀ d' w', d'.len = d.len + ns.length → AppB w d (bs ++ ns) d' w' → K (a.put o.dst (vB d')) w') : if Region.wanted o (yielded ops a.tmps) = true then Oper.wp Tryz.prog o a w K Q else E := by
  have hw : Region.wanted o (yielded ops a.tmps) = true := by simp [Region.wanted, hgd]
  rw [if_pos hw]
  exact wp_append_bytes s x ho d bs hs h A c ns hx hsrc hb hK
end
theorem SB.on {w w' : World} {A : Option Addr} {bs : List UInt8} (h : SB w A bs) (hb : Below w.heap.size w w') (hlt : ∀ ad, A = some ad → 0 < bs.length → ad.block < w.heap.size) : SB w' A bs := by
  refine ⟨h.1, fun ad e j u hu => ?_⟩
  have hp : 0 < bs.length := by
    have := (List.getElem?_eq_some_iff.1 hu).1
    simp at this
    omega
  have h1 := h.2 ad e j u hu
  have h2 := hlt ad e hp
  rw [hb.cell (p := ad.add j) (by rw [show (ad.add j).block = ad.block from by unfold Addr.add; split <;> rfl]; exact h2)]
  exact h1
theorem SB.lt {w : World} {A : Option Addr} {bs : List UInt8} (h : SB w A bs) : ∀ ad, A = some ad → 0 < bs.length → ad.block < w.heap.size := by
  intro ad e hp
  have h1 := h.2 ad e 0 _ (List.getElem?_eq_getElem (by simpa using hp))
  have := World.block_lt_of_cell? w _ h1
  rwa [show (ad.add 0).block = ad.block from by unfold Addr.add; split <;> rfl] at this

/-- New bytes. -/
def NewB (bs : List UInt8) (w : World) (e : Ending) (w' : World) : Prop :=
  ∃ d, e = .returned (vB d) ∧ RB w' d bs ∧ (∀ g, blk d = some g → w.heap.size ≤ g) ∧ Below w.heap.size w w'
theorem AppB.new {w w0 w' : World} {d d' : BD} {bs : List UInt8} (h : AppB w d bs d' w') (hd : ∀ g, blk d = some g → w0.heap.size ≤ g) (h0 : Below w0.heap.size w0 w) : RB w' d' bs ∧ (∀ g, blk d' = some g → w0.heap.size ≤ g) ∧ Below w0.heap.size w0 w' := by
  obtain ⟨h1, ⟨e, _, _, hc⟩ | ⟨H, e, hH, hb⟩⟩ := h
  · refine ⟨h1, fun g hg => hd g (by rw [← e]; exact hg), ⟨hc.os.trans h0.os, hc.tape.trans h0.tape, hc.output.trans h0.output, Nat.le_trans h0.size hc.size, fun i hi => (hc.block i (Nat.lt_of_lt_of_le hi h0.size) (fun h => h) (fun p hp e' => ?_)).trans (h0.block i hi)⟩⟩
    unfold room at hp
    cases hA : d.A with
    | none => rw [hA] at hp; cases hp
    | some ad =>
      rw [hA] at hp
      simp only at hp
      split at hp
      · rw [List.mem_singleton] at hp
        subst hp
        have := hd ad.block (by simp [blk, hA])
        simp only at e'
        omega
      · cases hp
  · refine ⟨h1, fun g hg => ?_, h0.trans (hb.mono h0.size)⟩
    rw [e] at hg
    injection hg with hg
    have := h0.size
    omega

set_option maxRecDepth 100000 in
set_option maxHeartbeats 1000000 in
theorem CloneB_any (A : Option Addr) (c : Nat) (bs : List UInt8) (w : World) (hs : SB w A bs) (hb : bs.length ≤ 1099511627776) : Calls Tryz.prog 68 #[.slice A bs.length c] w (NewB bs w) := by
  have q22 : ∀ (w : World) (a : Option Addr) (n c n' c' : Nat), (binOp .eql 40 (.slice a n c) (.slice none n' c')).run Tryz.prog w = .ok (.bool a.isNone) w := fun w a n c n' c' => Lib.run_eql_slice_nil w _ _ a n c n' c' Tryz.underlying40
  have Hs := Lib.hid hs
  clear hs
  cases A with
  | none =>
    have h0 := Hs.out.1 rfl
    obtain rfl : bs = [] := List.eq_nil_of_length_eq_zero h0
    clear h0
    go_enter Tryz.func68, Tryz.ntmps68
    go_wp2_with fail
    go_ret
    exact ⟨⟨none, 0, 0⟩, rfl, ⟨rfl, Nat.le_refl _, fun _ => rfl, (fun ad e => by cases e)⟩, (fun g hg => by cases hg), Below.refl _ _⟩
  | some ad =>
    go_enter Tryz.func68, Tryz.ntmps68
    go_wp2_with (at_builtin; refine wpList_append_bytes rfl _ _ rfl ⟨some ⟨w.heap.size, 0, none⟩, 0, 0⟩ [] rfl (new_bytes w #[] _ _ _ _ rfl rfl (Nat.le_refl _) (Nat.zero_le _) (by simp)) (some ad) c bs rfl (Hs.out.on ((Below.refl _ _).alloc (Nat.le_refl _) _) Hs.out.lt) (by simpa using hb) ?_)
    intro d1 w1 hl1 happ
    obtain ⟨r1, r2, r3⟩ := happ.new (w0 := w) (fun g hg => by simp [blk] at hg; omega) ((Below.refl _ _).alloc (Nat.le_refl _) _)
    have R1 := Lib.hid r1
    have R2 := Lib.hid r2
    have R3 := Lib.hid r3
    clear r1 r2 r3 happ hl1
    go_wp2_with fail
    go_ret
    exact ⟨d1, rfl, R1.out, R2.out, R3.out⟩
end Go.Proofs.YtmiknfneeipkeaaGreat
namespace Go.Proofs.YtmiknfneeipkeaaGreat

def pP : Nat := 2305843009213693951
def pB : Nat := 747382712868975713
def fpStep (s : Nat) (x : UInt8) : Nat := (s * pB + (x.toNat + 1)) % pP
def fpSum (bs : List UInt8) : Nat := bs.foldl fpStep 0
theorem fpSum_snoc (bs : List UInt8) (x : UInt8) : fpSum (bs ++ [x]) = fpStep (fpSum bs) x := by
  unfold fpSum
  rw [List.foldl_append, List.foldl_cons, List.foldl_nil]
theorem fpSum_nil : fpSum [] = 0 := by
  unfold fpSum
  rw [List.foldl_nil]
theorem pP_pos : 0 < pP := by unfold pP; omega
theorem fpStep_lt (s : Nat) (x : UInt8) : fpStep s x < pP := by
  unfold fpStep
  exact Nat.mod_lt _ pP_pos
theorem fpSum_lt (bs : List UInt8) : fpSum bs < pP := by
  have h : ∀ (l : List UInt8) (s : Nat), s < pP → l.foldl fpStep s < pP := by
    intro l
    induction l with
    | nil => intro s h; rw [List.foldl_nil]; exact h
    | cons x l ih => intro s _; rw [List.foldl_cons]; exact ih _ (fpStep_lt s x)
  unfold fpSum
  exact h bs 0 pP_pos
/-- The product, by its two words. -/
theorem mul_words (m : Nat) (h : m < pP * pP) : (m % 18446744073709551616 % 2305843009213693952 + (m / 18446744073709551616 * 8 + m % 18446744073709551616 / 2305843009213693952)) % pP = m % pP := by
  have e : m = (m / 18446744073709551616 * 8 + m % 18446744073709551616 / 2305843009213693952) * 2305843009213693952 + m % 18446744073709551616 % 2305843009213693952 := by omega
  generalize ha : m / 18446744073709551616 * 8 + m % 18446744073709551616 / 2305843009213693952 = a at *
  generalize hb : m % 18446744073709551616 % 2305843009213693952 = b at *
  have e2 : m = a * pP + (b + a) := by rw [e]; unfold pP; omega
  rw [e2, Nat.mul_comm, Nat.mul_add_mod]
theorem mul_high (m : Nat) (h : m < pP * pP) : m / 18446744073709551616 < 288230376151711744 := by
  have : pP * pP < 288230376151711744 * 18446744073709551616 := by unfold pP; omega
  exact Nat.div_lt_of_lt_mul (by rw [Nat.mul_comm]; omega)
end Go.Proofs.YtmiknfneeipkeaaGreat
namespace Go.Proofs.YtmiknfneeipkeaaGreat

abbrev ID := Int × Int
def fpOf (bs : List UInt8) : ID := ((fpSum bs : Nat), (bs.length : Nat))
/-- Eight bytes, the least first. -/
def le8 (v : Nat) : List UInt8 := (List.range 8).map (fun i => UInt8.ofNat (v / 2 ^ (8 * i)))
theorem le8_len (v : Nat) : (le8 v).length = 8 := by simp [le8]
def u64 (z : Int) : Nat := (z % 18446744073709551616).toNat
/-- A number in groups of seven bits. -/
def putU (v : Nat) : List UInt8 := if h : v < 128 then [UInt8.ofNat v] else UInt8.ofNat (v % 128 + 128) :: putU (v / 128)
termination_by v
decreasing_by omega
theorem putU_pos (v : Nat) : 0 < (putU v).length := by
  rw [putU]
  split <;> simp
theorem putU_len {v k : Nat} (h : v < 128 ^ (k + 1)) : (putU v).length ≤ k + 1 := by
  induction k generalizing v with
  | zero =>
    rw [putU, dif_pos (by simpa using h)]
    simp
  | succ k ih =>
    rw [putU]
    split
    · simp
    · simp only [List.length_cons]
      have : v / 128 < 128 ^ (k + 1) := by
        rw [Nat.div_lt_iff_lt_mul (by omega)]
        rw [Nat.pow_succ] at h
        exact h
      have := ih this
      omega
def markB : List UInt8 := [83, 89, 67, 83]
/-- The first part of a head. -/
def headA (id : ID) : List UInt8 := markB ++ le8 (u64 id.2) ++ le8 (u64 id.1)
def headB (id : ID) (file off : Nat) : List UInt8 := headA id ++ le8 (fpSum (headA id ++ putU (2 * file) ++ putU (2 * off)))
theorem headA_len (id : ID) : (headA id).length = 20 := by simp [headA, markB, le8_len]
theorem headB_len (id : ID) (file off : Nat) : (headB id file off).length = 28 := by simp [headB, headA_len, le8_len]
/-- The bytes of the chunk whose frame is at an offset. -/
def cutB (bs : List UInt8) (id : ID) (off : Nat) : List UInt8 := (bs.drop (off + 28)).take id.2.toNat
def cutOk (bs : List UInt8) (id : ID) (off : Nat) : Bool := decide (id.2 ≤ (bs.length : Int) - (off + 28)) && decide (fpOf (cutB bs id off) = id)
/-- A frame. -/
def frameB (c : ID × List UInt8) (off : Nat) : List UInt8 := headB c.1 1 off ++ c.2
end Go.Proofs.YtmiknfneeipkeaaGreat
namespace Go.Proofs
open Go.Shelf
def Tryz.lays128_ren : Go.Shelf.Ren := ⟨fun | 128 => 164 | n => n, fun | 51 => 245 | 3 => 3 | 4 => 4 | 46 => 174 | 5 => 5 | 9 => 9 | n => n, fun | n => n⟩
theorem Tryz.lays128 : Go.Proofs.Lays.n128 Tryz.prog Tryz.lays128_ren := {
  mixed := by kernel_rfl
  f128 := Tryz.func164.trans (congrArg some (by kernel_rfl))
  t3 := Tryz.underlying3
  a3 := Tryz.isAgg3
  z3 := Tryz.sizeOf3
  v3 := Tryz.zeroValue3
  t4 := Tryz.underlying4
  a4 := Tryz.isAgg4
  z4 := Tryz.sizeOf4
  v4 := Tryz.zeroValue4
  t5 := Tryz.underlying5
  a5 := Tryz.isAgg5
  z5 := Tryz.sizeOf5
  v5 := Tryz.zeroValue5
  t9 := Tryz.underlying9
  a9 := Tryz.isAgg9
  z9 := Tryz.sizeOf9
  v9 := Tryz.zeroValue9
  t46 := Tryz.underlying174
  a46 := Tryz.isAgg174
  z46 := Tryz.sizeOf174
  v46 := Tryz.zeroValue174
  t51 := Tryz.underlying245
  a51 := Tryz.isAgg245
  z51 := Tryz.sizeOf245
  v51 := Tryz.zeroValue245 }
/-- bits.Len32: "Len32 returns the minimum number of bits required to represent x; the result is 0 for x == 0.": IT RETURNS 'Lib.bitLen x'; the world is as it was. ('h0', 'h1': x is a uint32.) (LAID: no walk: one application.) -/
theorem Tryz.bits_Len32 (x : Int) (w : World) (h0 : 0 ≤ x) (h1 : x ≤ 4294967295) :
    Calls Tryz.prog 164 #[.int .u32 x] w fun e w' => e = .returned (.int .i64 (Lib.bitLen x.toNat)) ∧ w' = w := Any.bits_Len32 Tryz.lays128 x w h0 h1
def Tryz.lays125_ren : Go.Shelf.Ren := ⟨fun | 125 => 127 | 128 => 164 | 129 => 165 | n => n, fun | 46 => 174 | 3 => 3 | 51 => 245 | 53 => 34 | 4 => 4 | 5 => 5 | 9 => 9 | n => n, fun | n => n⟩
theorem Tryz.lays125 : Go.Proofs.Lays.n125 Tryz.prog Tryz.lays125_ren := {
  mixed := by kernel_rfl
  f125 := Tryz.func127.trans (congrArg some (by kernel_rfl))
  f128 := Tryz.func164.trans (congrArg some (by kernel_rfl))
  f129 := Tryz.func165.trans (congrArg some (by kernel_rfl))
  t3 := Tryz.underlying3
  a3 := Tryz.isAgg3
  z3 := Tryz.sizeOf3
  v3 := Tryz.zeroValue3
  t4 := Tryz.underlying4
  a4 := Tryz.isAgg4
  z4 := Tryz.sizeOf4
  v4 := Tryz.zeroValue4
  t5 := Tryz.underlying5
  a5 := Tryz.isAgg5
  z5 := Tryz.sizeOf5
  v5 := Tryz.zeroValue5
  t9 := Tryz.underlying9
  a9 := Tryz.isAgg9
  z9 := Tryz.sizeOf9
  v9 := Tryz.zeroValue9
  t46 := Tryz.underlying174
  a46 := Tryz.isAgg174
  z46 := Tryz.sizeOf174
  v46 := Tryz.zeroValue174
  t51 := Tryz.underlying245
  a51 := Tryz.isAgg245
  z51 := Tryz.sizeOf245
  v51 := Tryz.zeroValue245
  t53 := Tryz.underlying34
  a53 := Tryz.isAgg34
  z53 := Tryz.sizeOf34
  v53 := Tryz.zeroValue34 }
/-- bits.Len: "Len returns the minimum number of bits required to represent x; the result is 0 for x == 0.": IT RETURNS 'Lib.bitLen x'; the world is as it was. (A uint has 64 bits in the model.) ITS CALLEE bits.Len64 IS MET BY ITS OWN CONTRACT OFF THE SHELF (lay that first). (LAID: no walk: one application.) -/
theorem Tryz.bits_Len (x : Int) (w : World) (h0 : 0 ≤ x) (h1 : x ≤ 18446744073709551615) :
    Calls Tryz.prog 127 #[.int .u64 x] w fun e w' => e = .returned (.int .i64 (Lib.bitLen x.toNat)) ∧ w' = w := Any.bits_Len Tryz.lays125 x w h0 h1
def Tryz.lays215_ren : Go.Shelf.Ren := ⟨fun | 215 => 144 | n => n, fun | 3 => 3 | 4 => 4 | n => n, fun | n => n⟩
theorem Tryz.lays215 : Go.Proofs.Lays.n215 Tryz.prog Tryz.lays215_ren := {
  mixed := by kernel_rfl
  f215 := Tryz.func144.trans (congrArg some (by kernel_rfl))
  t3 := Tryz.underlying3
  a3 := Tryz.isAgg3
  z3 := Tryz.sizeOf3
  v3 := Tryz.zeroValue3
  t4 := Tryz.underlying4
  a4 := Tryz.isAgg4
  z4 := Tryz.sizeOf4
  v4 := Tryz.zeroValue4 }
open Go.RowKit in
/-- cmp.isNaN at int: 'x != x': false. (LAID: no walk: one application.) -/
theorem Tryz.cmp_isNaN_int (x : Int) (w : World) :
    Calls Tryz.prog 144 #[.int .i64 x] w fun e w' => e = .returned (.bool false) ∧ w' = w := Any.cmp_isNaN_int Tryz.lays215 x w
def Tryz.lays122_ren : Go.Shelf.Ren := ⟨fun | 122 => 108 | 215 => 144 | n => n, fun | 3 => 3 | 4 => 4 | n => n, fun | n => n⟩
theorem Tryz.lays122 : Go.Proofs.Lays.n122 Tryz.prog Tryz.lays122_ren := {
  mixed := by kernel_rfl
  f122 := Tryz.func108.trans (congrArg some (by kernel_rfl))
  f215 := Tryz.func144.trans (congrArg some (by kernel_rfl))
  t3 := Tryz.underlying3
  a3 := Tryz.isAgg3
  z3 := Tryz.sizeOf3
  v3 := Tryz.zeroValue3
  t4 := Tryz.underlying4
  a4 := Tryz.isAgg4
  z4 := Tryz.sizeOf4
  v4 := Tryz.zeroValue4 }
open Go.RowKit in
/-- cmp.Compare at int: "Compare returns -1 if x is less than y, 0 if x equals y, +1 if x is greater than y.": IT RETURNS 'Lib.compareInt x y'; the world is as it was. (LAID: no walk: one application.) -/
theorem Tryz.cmp_Compare_int (x y : Int) (w : World) :
    Calls Tryz.prog 108 #[.int .i64 x, .int .i64 y] w fun e w' => e = .returned (.int .i64 (Lib.compareInt x y)) ∧ w' = w := Any.cmp_Compare_int Tryz.lays122 x y w
def Tryz.lays129_ren : Go.Shelf.Ren := ⟨fun | 129 => 165 | n => n, fun | 53 => 34 | 3 => 3 | 4 => 4 | 46 => 174 | 5 => 5 | 9 => 9 | n => n, fun | n => n⟩
theorem Tryz.lays129 : Go.Proofs.Lays.n129 Tryz.prog Tryz.lays129_ren := {
  mixed := by kernel_rfl
  f129 := Tryz.func165.trans (congrArg some (by kernel_rfl))
  t3 := Tryz.underlying3
  a3 := Tryz.isAgg3
  z3 := Tryz.sizeOf3
  v3 := Tryz.zeroValue3
  t4 := Tryz.underlying4
  a4 := Tryz.isAgg4
  z4 := Tryz.sizeOf4
  v4 := Tryz.zeroValue4
  t5 := Tryz.underlying5
  a5 := Tryz.isAgg5
  z5 := Tryz.sizeOf5
  v5 := Tryz.zeroValue5
  t9 := Tryz.underlying9
  a9 := Tryz.isAgg9
  z9 := Tryz.sizeOf9
  v9 := Tryz.zeroValue9
  t46 := Tryz.underlying174
  a46 := Tryz.isAgg174
  z46 := Tryz.sizeOf174
  v46 := Tryz.zeroValue174
  t53 := Tryz.underlying34
  a53 := Tryz.isAgg34
  z53 := Tryz.sizeOf34
  v53 := Tryz.zeroValue34 }
/-- bits.Len64: "Len64 returns the minimum number of bits required to represent x; the result is 0 for x == 0.": IT RETURNS 'Lib.bitLen x'; the world is as it was. ('h0', 'h1': x is a uint64.) (LAID: no walk: one application.) -/
theorem Tryz.bits_Len64 (x : Int) (w : World) (h0 : 0 ≤ x) (h1 : x ≤ 18446744073709551615) :
    Calls Tryz.prog 165 #[.int .u64 x] w fun e w' => e = .returned (.int .i64 (Lib.bitLen x.toNat)) ∧ w' = w := Any.bits_Len64 Tryz.lays129 x w h0 h1
def Tryz.lays206_ren : Go.Shelf.Ren := ⟨fun | 206 => 222 | n => n, fun | 9 => 9 | 4 => 4 | 3 => 3 | n => n, fun | n => n⟩
theorem Tryz.lays206 : Go.Proofs.Lays.n206 Tryz.prog Tryz.lays206_ren := {
  mixed := by kernel_rfl
  f206 := Tryz.func222.trans (congrArg some (by kernel_rfl))
  t3 := Tryz.underlying3
  a3 := Tryz.isAgg3
  z3 := Tryz.sizeOf3
  v3 := Tryz.zeroValue3
  t4 := Tryz.underlying4
  a4 := Tryz.isAgg4
  z4 := Tryz.sizeOf4
  v4 := Tryz.zeroValue4
  t9 := Tryz.underlying9
  a9 := Tryz.isAgg9
  z9 := Tryz.sizeOf9
  v9 := Tryz.zeroValue9 }
open Go.RowKit Go.Lib in
/-- internal/stringslite.HasPrefix (what strings.HasPrefix calls). (LAID: no walk: one application.) -/
theorem Tryz.stringslite_HasPrefix (s p : ByteArray) (w : World) :
    Calls Tryz.prog 222 #[.string s, .string p] w fun e w' => e = .returned (.bool (Lib.hasPrefix s.data.toList p.data.toList)) ∧ w' = w := Any.stringslite_HasPrefix Tryz.lays206 s p w
def Tryz.lays99_ren : Go.Shelf.Ren := ⟨fun | 99 => 195 | 206 => 222 | n => n, fun | 9 => 9 | 4 => 4 | 3 => 3 | n => n, fun | n => n⟩
theorem Tryz.lays99 : Go.Proofs.Lays.n99 Tryz.prog Tryz.lays99_ren := {
  mixed := by kernel_rfl
  f99 := Tryz.func195.trans (congrArg some (by kernel_rfl))
  f206 := Tryz.func222.trans (congrArg some (by kernel_rfl))
  t3 := Tryz.underlying3
  a3 := Tryz.isAgg3
  z3 := Tryz.sizeOf3
  v3 := Tryz.zeroValue3
  t4 := Tryz.underlying4
  a4 := Tryz.isAgg4
  z4 := Tryz.sizeOf4
  v4 := Tryz.zeroValue4
  t9 := Tryz.underlying9
  a9 := Tryz.isAgg9
  z9 := Tryz.sizeOf9
  v9 := Tryz.zeroValue9 }
open Go.RowKit Go.Lib in
/-- strings.HasPrefix: "HasPrefix reports whether the string s begins with prefix.": IT RETURNS 'Lib.hasPrefix s prefix'; the world is as it was. (LAID: no walk: one application.) -/
theorem Tryz.strings_HasPrefix (s p : ByteArray) (w : World) :
    Calls Tryz.prog 195 #[.string s, .string p] w fun e w' => e = .returned (.bool (Lib.hasPrefix s.data.toList p.data.toList)) ∧ w' = w := Any.strings_HasPrefix Tryz.lays99 s p w
def Tryz.lays264_ren : Go.Shelf.Ren := ⟨fun | 264 => 125 | n => n, fun | 53 => 34 | 46 => 174 | n => n, fun | n => n⟩
theorem Tryz.lays264 : Go.Proofs.Lays.n264 Tryz.prog Tryz.lays264_ren := {
  mixed := by kernel_rfl
  f264 := Tryz.func125.trans (congrArg some (by kernel_rfl))
  t46 := Tryz.underlying174
  a46 := Tryz.isAgg174
  z46 := Tryz.sizeOf174
  v46 := Tryz.zeroValue174
  t53 := Tryz.underlying34
  a53 := Tryz.isAgg34
  z53 := Tryz.sizeOf34
  v53 := Tryz.zeroValue34 }
open Go.RowKit Go.Lib in
theorem Tryz.bits_Mul64 (x y : Nat) (hx : x < 18446744073709551616) (hy : y < 18446744073709551616) (w : World) :
    Calls Tryz.prog 125 #[.int .u64 x, .int .u64 y] w fun e w' => e = .returned (.tuple #[.int .u64 ((x * y / 18446744073709551616 : Nat) : Int), .int .u64 ((x * y % 18446744073709551616 : Nat) : Int)]) ∧ w' = w := Any.bits_Mul64 Tryz.lays264 x y hx hy w
def Tryz.laysNm237_ren : Go.Shelf.Ren := ⟨fun | 37 => 144 | n => n, fun | 3 => 3 | 4 => 4 | n => n, fun | n => n⟩
theorem Tryz.laysNm237 : Go.Proofs.Lays2.n37 Tryz.prog Tryz.laysNm237_ren := {
  mixed := by kernel_rfl
  f37 := Tryz.func144.trans (congrArg some (by kernel_rfl))
  t3 := Tryz.underlying3
  a3 := Tryz.isAgg3
  z3 := Tryz.sizeOf3
  v3 := Tryz.zeroValue3
  t4 := Tryz.underlying4
  a4 := Tryz.isAgg4
  z4 := Tryz.sizeOf4
  v4 := Tryz.zeroValue4 }
open Go.RowKit Go.Lib in
/-- cmp.isNaN[int]: 'x != x': false. (LAID: no walk: one application.) -/
theorem Tryz.cmp_isNaN_int2 (x : Int) (w : World) :
    Calls Tryz.prog 144 #[.int .i64 x] w fun e w' => e = .returned (.bool false) ∧ w' = w := Any.cmp_isNaN_int2 Tryz.laysNm237 x w
def Tryz.lays115_ren : Go.Shelf.Ren := ⟨fun | 115 => 115 | n => n, fun | 37 => 40 | 4 => 4 | 9 => 9 | 5 => 5 | n => n, fun | n => n⟩
theorem Tryz.lays115 : Go.Proofs.Lays.n115 Tryz.prog Tryz.lays115_ren := {
  mixed := by kernel_rfl
  f115 := Tryz.func115.trans (congrArg some (by kernel_rfl))
  t4 := Tryz.underlying4
  a4 := Tryz.isAgg4
  z4 := Tryz.sizeOf4
  v4 := Tryz.zeroValue4
  t9 := Tryz.underlying9
  a9 := Tryz.isAgg9
  z9 := Tryz.sizeOf9
  v9 := Tryz.zeroValue9
  t37 := Tryz.underlying40
  a37 := Tryz.isAgg40
  z37 := Tryz.sizeOf40
  v37 := Tryz.zeroValue40 }
open Go.Proofs Go.RowKit Go.Lib in
/-- bytes.Equal, each argument with what 'string(..)' of it gives. (LAID: no walk: one application.) -/
theorem Tryz.bytes_Equal_strs (v1 v2 : Value) (t1 t2 : ByteArray) (w : World) (h1 : (convert 40 9 v1).run Tryz.prog w = .ok (.string t1) w) (h2 : (convert 40 9 v2).run Tryz.prog w = .ok (.string t2) w) :
    Calls Tryz.prog 115 #[v1, v2] w fun e w' => e = .returned (.bool (t1.toList == t2.toList)) ∧ w' = w := Any.bytes_Equal_strs Tryz.lays115 v1 v2 t1 t2 w h1 h2
def Tryz.laysnb116_ren : Go.Shelf.Ren := ⟨fun | 116 => 220 | 115 => 115 | n => n, fun | 37 => 40 | 4 => 4 | 3 => 3 | 9 => 9 | 5 => 5 | n => n, fun | n => n⟩
theorem Tryz.laysnb116 : Go.Proofs.Lays.nb116 Tryz.prog Tryz.laysnb116_ren := {
  mixed := by kernel_rfl
  f115 := Tryz.func115.trans (congrArg some (by kernel_rfl))
  f116 := Tryz.func220.trans (congrArg some (by kernel_rfl))
  t3 := Tryz.underlying3
  a3 := Tryz.isAgg3
  z3 := Tryz.sizeOf3
  v3 := Tryz.zeroValue3
  t4 := Tryz.underlying4
  a4 := Tryz.isAgg4
  z4 := Tryz.sizeOf4
  v4 := Tryz.zeroValue4
  t9 := Tryz.underlying9
  a9 := Tryz.isAgg9
  z9 := Tryz.sizeOf9
  v9 := Tryz.zeroValue9
  t37 := Tryz.underlying40
  a37 := Tryz.isAgg40
  z37 := Tryz.sizeOf40
  v37 := Tryz.zeroValue40
  t5 := Tryz.underlying5
  a5 := Tryz.isAgg5
  z5 := Tryz.sizeOf5
  v5 := Tryz.zeroValue5 }
theorem Tryz.bytes_HasPrefix_e2 (p1 p2 : Option Addr) (n c d : Nat) (w : World) :
    Calls Tryz.prog 220 #[.slice p1 n c, .slice p2 0 d] w fun e w' => e = .returned (.bool true) ∧ w' = w := Any.bytes_HasPrefix_e2 Tryz.laysnb116 p1 p2 n c d w
theorem Tryz.bytes_HasPrefix_e1 (p1 p2 : Option Addr) (c m d : Nat) (hm : 0 < m) (w : World) :
    Calls Tryz.prog 220 #[.slice p1 0 c, .slice p2 m d] w fun e w' => e = .returned (.bool false) ∧ w' = w := Any.bytes_HasPrefix_e1 Tryz.laysnb116 p1 p2 c m d hm w
def Tryz.laysnb141_ren : Go.Shelf.Ren := ⟨fun | 141 => 192 | 116 => 220 | 115 => 115 | n => n, fun | 37 => 40 | 4 => 4 | 3 => 3 | 9 => 9 | 5 => 5 | n => n, fun | n => n⟩
theorem Tryz.laysnb141 : Go.Proofs.Lays.nb141 Tryz.prog Tryz.laysnb141_ren := {
  mixed := by kernel_rfl
  f115 := Tryz.func115.trans (congrArg some (by kernel_rfl))
  f116 := Tryz.func220.trans (congrArg some (by kernel_rfl))
  f141 := Tryz.func192.trans (congrArg some (by kernel_rfl))
  t3 := Tryz.underlying3
  a3 := Tryz.isAgg3
  z3 := Tryz.sizeOf3
  v3 := Tryz.zeroValue3
  t4 := Tryz.underlying4
  a4 := Tryz.isAgg4
  z4 := Tryz.sizeOf4
  v4 := Tryz.zeroValue4
  t9 := Tryz.underlying9
  a9 := Tryz.isAgg9
  z9 := Tryz.sizeOf9
  v9 := Tryz.zeroValue9
  t37 := Tryz.underlying40
  a37 := Tryz.isAgg40
  z37 := Tryz.sizeOf40
  v37 := Tryz.zeroValue40
  t5 := Tryz.underlying5
  a5 := Tryz.isAgg5
  z5 := Tryz.sizeOf5
  v5 := Tryz.zeroValue5 }
theorem Tryz.bytes_CutPrefix_e2 (p1 p2 : Option Addr) (n c d : Nat) (_hnc : n ≤ c) (w : World) :
    Calls Tryz.prog 192 #[.slice p1 n c, .slice p2 0 d] w fun e w' => e = .returned (.tuple #[.slice p1 n c, .bool true]) ∧ w' = w := Any.bytes_CutPrefix_e2 Tryz.laysnb141 p1 p2 n c d _hnc w
theorem Tryz.bytes_CutPrefix_e1 (p1 p2 : Option Addr) (c m d : Nat) (hm : 0 < m) (w : World) :
    Calls Tryz.prog 192 #[.slice p1 0 c, .slice p2 m d] w fun e w' => e = .returned (.tuple #[.slice p1 0 c, .bool false]) ∧ w' = w := Any.bytes_CutPrefix_e1 Tryz.laysnb141 p1 p2 c m d hm w
/-- bytes.HasPrefix: WHOLE: each argument nil, or of no byte at whatever address, or at an address with its cells. (LAID: no walk: one application.) -/
theorem Tryz.bytes_HasPrefix_all (p1 p2 : Option Addr) (n c m d : Nat) (xs ys : List Int) (w : World) (hx : xs.length = n) (hy : ys.length = m) (hnc : n ≤ c) (h1 : Lib.BytesIn w p1 n xs) (h2 : Lib.BytesIn w p2 m ys) :
    Calls Tryz.prog 220 #[.slice p1 n c, .slice p2 m d] w fun e w' => e = .returned (.bool (Lib.hasPrefix (Lib.bytesOf xs) (Lib.bytesOf ys))) ∧ w' = w := Any.bytes_HasPrefix_all Tryz.laysnb116 p1 p2 n c m d xs ys w hx hy hnc h1 h2
/-- bytes.CutPrefix: WHOLE. (LAID: no walk: one application.) -/
theorem Tryz.bytes_CutPrefix_all (p1 p2 : Option Addr) (n c m d : Nat) (xs ys : List Int) (w : World) (hx : xs.length = n) (hy : ys.length = m) (hnc : n ≤ c) (h1 : Lib.BytesIn w p1 n xs) (h2 : Lib.BytesIn w p2 m ys) :
    Calls Tryz.prog 192 #[.slice p1 n c, .slice p2 m d] w fun e w' => e = .returned (.tuple #[Lib.trimPrefixV p1 n c xs ys, .bool (Lib.hasPrefix (Lib.bytesOf xs) (Lib.bytesOf ys))]) ∧ w' = w := Any.bytes_CutPrefix_all Tryz.laysnb141 p1 p2 n c m d xs ys w hx hy hnc h1 h2
def Tryz.laysnb115_ren : Go.Shelf.Ren := ⟨fun | 115 => 115 | n => n, fun | 37 => 40 | 4 => 4 | 9 => 9 | 5 => 5 | n => n, fun | n => n⟩
theorem Tryz.laysnb115 : Go.Proofs.Lays.nb115 Tryz.prog Tryz.laysnb115_ren := {
  mixed := by kernel_rfl
  f115 := Tryz.func115.trans (congrArg some (by kernel_rfl))
  t4 := Tryz.underlying4
  a4 := Tryz.isAgg4
  z4 := Tryz.sizeOf4
  v4 := Tryz.zeroValue4
  t9 := Tryz.underlying9
  a9 := Tryz.isAgg9
  z9 := Tryz.sizeOf9
  v9 := Tryz.zeroValue9
  t37 := Tryz.underlying40
  a37 := Tryz.isAgg40
  z37 := Tryz.sizeOf40
  v37 := Tryz.zeroValue40
  t5 := Tryz.underlying5
  a5 := Tryz.isAgg5
  z5 := Tryz.sizeOf5
  v5 := Tryz.zeroValue5 }
/-- bytes.Equal: WHOLE. (LAID: no walk: one application.) -/
theorem Tryz.bytes_Equal_all (p1 p2 : Option Addr) (n c m d : Nat) (xs ys : List Int) (w : World) (hx : xs.length = n) (hy : ys.length = m) (h1 : Lib.BytesIn w p1 n xs) (h2 : Lib.BytesIn w p2 m ys) :
    Calls Tryz.prog 115 #[.slice p1 n c, .slice p2 m d] w fun e w' => e = .returned (.bool (Lib.bytesOf xs == Lib.bytesOf ys)) ∧ w' = w := Any.bytes_Equal_all Tryz.laysnb115 p1 p2 n c m d xs ys w hx hy h1 h2
/-- bytes.Equal: "Equal reports whether a and b are the same length and contain the same bytes. A nil argument is equivalent to an empty slice.": IT RETURNS 'the bytes of the one == the bytes of the other'; the world is as it was. THE TWO ARGUMENTS COME AS WHATEVER VALUES, each with the one fact that the walk wants of it: what 'string(..)' of it gives: for a slice whose cells you know: 'run_convert_bytes_arg' (Derived/Laws/BytesArg.lean) hands that fact; for a nil one: 'run_convert_bytes_nil' (with xs := []). (LAID: no walk: one application.) -/
theorem Tryz.bytes_Equal (v1 v2 : Value) (xs ys : List Int) (w : World) (h1 : (convert 40 9 v1).run Tryz.prog w = .ok (.string (strOfNums xs)) w) (h2 : (convert 40 9 v2).run Tryz.prog w = .ok (.string (strOfNums ys)) w) :
    Calls Tryz.prog 115 #[v1, v2] w fun e w' => e = .returned (.bool (Lib.bytesOf xs == Lib.bytesOf ys)) ∧ w' = w := Any.bytes_Equal Tryz.lays115 v1 v2 xs ys w h1 h2
/-- bytes.HasPrefix: "HasPrefix reports whether the byte slice s begins with prefix.": IT RETURNS 'Lib.hasPrefix (the bytes of s) (the bytes of prefix)'; the world is as it was. ITS CALLEE bytes.Equal IS MET BY ITS OWN CONTRACT OFF THE SHELF (lay that first). 'xs', 'ys': the numbers that the two slices' cells hold. (LAID: no walk: one application.) -/
theorem Tryz.bytes_HasPrefix (b1 o1 n c b2 o2 m d : Nat) (xs ys : List Int) (w : World) (hx : xs.length = n) (hy : ys.length = m) (hnc : n ≤ c) (hc1 : ∀ i, i < n → w.cell? ⟨b1, o1 + i, none⟩ = some (.int .u8 (xs.getD i 0))) (hc2 : ∀ i, i < m → w.cell? ⟨b2, o2 + i, none⟩ = some (.int .u8 (ys.getD i 0))) :
    Calls Tryz.prog 220 #[.slice (some ⟨b1, o1, none⟩) n c, .slice (some ⟨b2, o2, none⟩) m d] w fun e w' => e = .returned (.bool (Lib.hasPrefix (Lib.bytesOf xs) (Lib.bytesOf ys))) ∧ w' = w := Any.bytes_HasPrefix Tryz.laysnb116 b1 o1 n c b2 o2 m d xs ys w hx hy hnc hc1 hc2
/-- bytes.CutPrefix: "CutPrefix returns s without the provided leading prefix byte slice and reports whether it found the prefix. If s doesn't start with prefix, CutPrefix returns s, false. If prefix is the empty byte slice, CutPrefix returns s, true.": IT RETURNS ('Lib.bytesTrimPrefix', 'Lib.hasPrefix'): the first a slice OF THE ARGUMENT's OWN MEMORY ("CutPrefix returns slices of the original slice s, not copies."); the world is as it was. (LAID: no walk: one application.) -/
theorem Tryz.bytes_CutPrefix (b1 o1 n c b2 o2 m d : Nat) (xs ys : List Int) (w : World) (hx : xs.length = n) (hy : ys.length = m) (hnc : n ≤ c) (hc1 : ∀ i, i < n → w.cell? ⟨b1, o1 + i, none⟩ = some (.int .u8 (xs.getD i 0))) (hc2 : ∀ i, i < m → w.cell? ⟨b2, o2 + i, none⟩ = some (.int .u8 (ys.getD i 0))) :
    Calls Tryz.prog 192 #[.slice (some ⟨b1, o1, none⟩) n c, .slice (some ⟨b2, o2, none⟩) m d] w fun e w' => e = .returned (.tuple #[Lib.bytesTrimPrefix b1 o1 n c xs ys, .bool (Lib.hasPrefix (Lib.bytesOf xs) (Lib.bytesOf ys))]) ∧ w' = w := Any.bytes_CutPrefix Tryz.laysnb141 b1 o1 n c b2 o2 m d xs ys w hx hy hnc hc1 hc2
end Go.Proofs
namespace Go.Proofs.YtmiknfneeipkeaaGreat
open Go.RowKit

theorem halt_q {p : Prop} (h : Hid p) : p := h
theorem rint_u {p q : Nat} {w W : World} (h : p = q) (hw : w = W) : Ending.returned (.int .u64 ((q : Nat) : Int)) = .returned (.int .u64 ((p : Nat) : Int)) ∧ w = W := ⟨by rw [h], hw⟩
set_option maxRecDepth 100000 in
set_option maxHeartbeats 1000000 in
theorem fadd_any (a b : Nat) (w : World) (ha : a < 2305843009213693951) (hb : b < 2305843009213693951) : Calls Tryz.prog 119 #[.int .u64 (a : Int), .int .u64 (b : Int)] w fun e w' => e = .returned (.int .u64 (((a + b) % pP : Nat) : Int)) ∧ w = w' := by
  by_cases h : a + b < 2305843009213693951
  · have e1 : Hid ((a + b) % pP = a + b) := Nat.mod_eq_of_lt h
    have h' : ¬ (2305843009213693951 ≤ (a : Int) + b) := by omega
    go_enter Tryz.func119, Tryz.ntmps119
    go_wp2
    go_ret
    exact rint_u (q := a + b) e1.out rfl
  · have e1 : Hid ((a + b) % pP = a + b - 2305843009213693951) := by
      rw [Hid, Nat.mod_eq_sub_mod (by unfold pP; omega)]
      exact Nat.mod_eq_of_lt (by unfold pP; omega)
    have h' : 2305843009213693951 ≤ (a : Int) + b := by omega
    go_enter Tryz.func119, Tryz.ntmps119
    go_wp2
    go_ret
    have e2 : ((a + b - 2305843009213693951 : Nat) : Int) = (a : Int) + b - 2305843009213693951 := by omega
    rw [e1.out, e2]
    exact ⟨rfl, rfl⟩
theorem mask61 (a : Nat) (ha : a < 18446744073709551616) : bits .and .u64 (a : Int) 2305843009213693951 = ((a % 2305843009213693952 : Nat) : Int) := by
  have h := bits_and_u64_nat a 2305843009213693951 ha (by omega)
  have e : a &&& 2305843009213693951 = a % 2305843009213693952 := Nat.and_two_pow_sub_one_eq_mod a 61
  rw [e] at h
  exact h
theorem or3 (x y : Nat) (hy : y < 8) : x * 8 ||| y = x * 8 + y := by
  have := Nat.two_pow_add_eq_or_of_lt (i := 3) (b := y) (by omega) x
  rw [show 2 ^ 3 * x = x * 8 by omega] at this
  exact this.symm
theorem prod_lt {a b : Nat} (ha : a < 2305843009213693951) (hb : b < 2305843009213693951) : a * b < pP * pP := Nat.mul_lt_mul'' (by unfold pP; exact ha) (by unfold pP; exact hb)
theorem mul_lo (m : Nat) : (bits .and .u64 ((m : Int) % 18446744073709551616) 2305843009213693951).tmod 2305843009213693951 = ((m % 18446744073709551616 % 2305843009213693952 % pP : Nat) : Int) := by
  have e : (m : Int) % 18446744073709551616 = ((m % 18446744073709551616 : Nat) : Int) := by omega
  rw [e, mask61 _ (Nat.mod_lt _ (by omega)), Int.tmod_eq_emod_of_nonneg (by omega)]
  unfold pP
  omega
theorem mul_hi (m : Nat) (hm : m < pP * pP) : bits .or .u64 (IntKind.u64.wrap ((m : Int) / 18446744073709551616 * 8)) ((m : Int) % 18446744073709551616 / 2305843009213693952) = ((m / 18446744073709551616 * 8 + m % 18446744073709551616 / 2305843009213693952 : Nat) : Int) := by
  have hh := mul_high m hm
  have e1 : IntKind.u64.wrap ((m : Int) / 18446744073709551616 * 8) = ((m / 18446744073709551616 * 8 : Nat) : Int) := by
    rw [IntKind.wrap_u64]
    omega
  have e2 : (m : Int) % 18446744073709551616 / 2305843009213693952 = ((m % 18446744073709551616 / 2305843009213693952 : Nat) : Int) := by omega
  rw [e1, e2, bits_or_u64_nat _ _ (by omega) (by omega), or3 _ _ (by omega)]
theorem mul_sum (m : Nat) (hm : m < pP * pP) : (m % 18446744073709551616 % 2305843009213693952 % pP + (m / 18446744073709551616 * 8 + m % 18446744073709551616 / 2305843009213693952) % pP) % pP = m % pP := by
  rw [← Nat.add_mod, mul_words m hm]
set_option maxRecDepth 100000 in
set_option maxHeartbeats 1000000 in
theorem fmul_any (a b : Nat) (w : World) (ha : a < 2305843009213693951) (hb : b < 2305843009213693951) : Calls Tryz.prog 120 #[.int .u64 (a : Int), .int .u64 (b : Int)] w fun e w' => e = .returned (.int .u64 (((a * b) % pP : Nat) : Int)) ∧ w = w' := by
  have HP := Lib.hid (prod_lt ha hb)
  go_enter Tryz.func120, Tryz.ntmps120
  go_wp2_with (first | (go_at_call 125; refine (Tryz.bits_Mul64 a b (by omega) (by omega) _).mono ?_; rintro e w' ⟨rfl, hw⟩; rw [hw]) | (go_at_call 119; refine halt_q ?_))
  have e1 := mul_lo (a * b)
  have e2 := mul_hi (a * b) HP.out
  rw [Int.natCast_mul] at e1 e2
  have e3 : (((a * b / 18446744073709551616 * 8 + a * b % 18446744073709551616 / 2305843009213693952 : Nat) : Int)).tmod 2305843009213693951 = (((a * b / 18446744073709551616 * 8 + a * b % 18446744073709551616 / 2305843009213693952) % pP : Nat) : Int) := by
    rw [Int.tmod_eq_emod_of_nonneg (by omega)]
    unfold pP
    omega
  rw [e2, e1, e3]
  refine (fadd_any (a * b % 18446744073709551616 % 2305843009213693952 % pP) ((a * b / 18446744073709551616 * 8 + a * b % 18446744073709551616 / 2305843009213693952) % pP) w (Nat.mod_lt _ pP_pos) (Nat.mod_lt _ pP_pos)).mono ?_
  rintro e w' ⟨rfl, rfl⟩
  rw [mul_sum _ HP.out]
  clear e1 e2 e3
  go_wp2_with fail
  go_ret
  exact ⟨rfl, rfl⟩
theorem fp_byte (bs : List UInt8) (x : UInt8) : (fpSum bs * 747382712868975713 % pP + (x.toNat + 1)) % pP = fpSum (bs ++ [x]) := by
  rw [fpSum_snoc, fpStep, Nat.add_mod, Nat.mod_mod, ← Nat.add_mod]
  rfl
/-- A slice at whatever place that reads as bs. -/
def RS (w : World) (A : Option Addr) (bs : List UInt8) : Prop := (A = none → bs.length = 0) ∧ ∀ ad, A = some ad → 0 < bs.length → ∃ g o, ad = ⟨g, o, none⟩ ∧ ∀ j, j < bs.length → w.cell? ⟨g, o + j, none⟩ = some (encU (bs.getD j 0))
theorem RS.sb {w : World} {A : Option Addr} {bs : List UInt8} (h : RS w A bs) : SB w A bs := by
  refine ⟨h.1, fun ad e j u hu => ?_⟩
  obtain ⟨hj, hu'⟩ := List.getElem?_eq_some_iff.1 hu
  have hj' : j < bs.length := by simpa using hj
  obtain ⟨g, o, rfl, hc⟩ := h.2 ad e (by omega)
  rw [lit_add, hc j hj', ← hu', List.getElem_map, List.getD_eq_getElem?_getD, List.getElem?_eq_getElem hj']
  rfl
theorem RB.rs {w : World} {d : BD} {bs : List UInt8} (h : RB w d bs) : RS w d.A bs := by
  obtain ⟨h1, h2, h3, h4⟩ := h
  refine ⟨fun e => by have := h3 e; omega, fun ad e _ => ?_⟩
  obtain ⟨g, cur, rfl, hg, _, hc⟩ := h4 ad e
  refine ⟨g, 0, rfl, fun j hj => ?_⟩
  rw [hg.cell, Nat.zero_add]
  refine hc j _ ?_
  rw [List.getElem?_map, List.getD_eq_getElem?_getD, List.getElem?_eq_getElem hj]
  rfl
theorem RS.lt {w : World} {A : Option Addr} {bs : List UInt8} (h : RS w A bs) {g o : Nat} (e : A = some ⟨g, o, none⟩) (hp : 0 < bs.length) : g < w.heap.size := h.sb.lt _ e hp
theorem RS.on {w w' : World} {A : Option Addr} {bs : List UInt8} (h : RS w A bs) (hb : Below w.heap.size w w') : RS w' A bs := by
  refine ⟨h.1, fun ad e hp => ?_⟩
  obtain ⟨g, o, rfl, hc⟩ := h.2 ad e hp
  exact ⟨g, o, rfl, fun j hj => by rw [hb.cell (p := ⟨g, o + j, none⟩) (h.lt e (by omega))]; exact hc j hj⟩
theorem RS.sub {w : World} {g o : Nat} {bs : List UInt8} (h : RS w (some ⟨g, o, none⟩) bs) (k n : Nat) (hk : k + n ≤ bs.length) : RS w (some ⟨g, o + k, none⟩) ((bs.drop k).take n) := by
  refine ⟨(fun e => by cases e), fun ad e hp => ?_⟩
  simp only [List.length_take, List.length_drop] at hp
  obtain ⟨g', o', e2, hc⟩ := h.2 _ rfl (by omega)
  injection e2 with e3 e4 _
  subst e3 e4
  injection e with e
  subst e
  refine ⟨g, o + k, rfl, fun j hj => ?_⟩
  simp only [List.length_take, List.length_drop] at hj
  have := hc (k + j) (by omega)
  rw [Nat.add_assoc, this]
  congr 2
  rw [List.getD_eq_getElem?_getD, List.getD_eq_getElem?_getD, List.getElem?_take_of_lt (by omega), List.getElem?_drop]
theorem take_snocU (bs : List UInt8) (k : Nat) (h : k < bs.length) : bs.take (k + 1) = bs.take k ++ [bs.getD k 0] := by
  rw [List.take_succ_eq_append_getElem h, List.getD_eq_getElem?_getD, List.getElem?_eq_getElem h]
  rfl
set_option maxRecDepth 100000 in
set_option maxHeartbeats 1000000 in
theorem Sum_any (A : Option Addr) (c : Nat) (bs : List UInt8) (w : World) (h : RS w A bs) (hn : bs.length ≤ 1099511627776) : Calls Tryz.prog 77 #[.slice A bs.length c] w fun e w' => e = .returned (.int .u64 ((fpSum bs : Nat) : Int)) ∧ w = w' := by
  have H := Lib.hid h
  clear h
  go_enter Tryz.func77, Tryz.ntmps77
  go_wp2_with fail
  go_loop [3, 8] (fun v i => ∃ k : Nat, k ≤ bs.length ∧ i = .int .i64 k ∧ v = .int .u64 ((fpSum (bs.take k) : Nat) : Int)) (fun _ i => bs.length - (intOf i).toNat)
  case atStart => exact ⟨0, Nat.zero_le _, rfl, by rw [List.take_zero, fpSum_nil]; rfl⟩
  case round =>
    obtain ⟨k, hk, rfl, rfl⟩ := hrel
    by_cases hlt : k < bs.length
    · cases A with
      | none => exact absurd (H.out.1 rfl) (by omega)
      | some ad =>
        obtain ⟨g, o, rfl, hc⟩ := H.out.2 ad rfl (by omega)
        have hcl : w.cell? ⟨g, o + k, none⟩ = some (.int .u8 (((bs.getD k 0).toNat : Nat) : Int)) := hc k hlt
        have HT : Hid ((fpSum (bs.take k) * 747382712868975713 % pP + ((bs.getD k 0).toNat + 1)) % pP = fpSum (bs.take (k + 1))) := by rw [Hid, take_snocU bs k hlt, ← fp_byte]
        have hf := fpSum_lt (bs.take k)
        have HF : Hid (fpSum (bs.take k) < pP) := hf
        clear hc hf
        generalize hx : bs.getD k 0 = x at *
        have hx2 := x.toNat_lt
        have HX := Lib.hid hx
        clear hx
        generalize fpSum (bs.take k) = sm at *
        generalize hs' : fpSum (bs.take (k + 1)) = sm' at *
        have HS := Lib.hid hs'
        clear hs'
        have hm := fun w => fmul_any sm 747382712868975713 w HF.out (by omega)
        have hmt : sm * 747382712868975713 % pP < pP := Nat.mod_lt _ pP_pos
        generalize sm * 747382712868975713 % pP = t at *
        have ha := fun w => fadd_any t (x.toNat + 1) w hmt (by omega)
        rw [HT.out] at ha
        simp only [Int.natCast_add, Int.natCast_one] at ha
        have HM := Lib.hid hm
        have HA := Lib.hid ha
        clear hm ha hmt
        go_wp2_with (first | (go_at_call 120; refine (HM.out _).mono ?_; rintro e w' ⟨rfl, rfl⟩) | (go_at_call 119; refine (HA.out _).mono ?_; rintro e w' ⟨rfl, rfl⟩))
        go_round
        case rel => exact ⟨k + 1, by omega, by go_num, by rw [HS.out]⟩
        case measure => simp [intOf]; omega
    · obtain rfl : k = bs.length := by omega
      rw [List.take_length]
      go_wp2_with fail
      go_ret
      exact ⟨rfl, rfl⟩
theorem fold_of {α : Sort _} (x : α) : ∃ y, Hid (x = y) := ⟨x, rfl⟩
set_option maxRecDepth 100000 in
set_option maxHeartbeats 1000000 in
theorem Of_any (A : Option Addr) (c : Nat) (bs : List UInt8) (w : World) (h : RS w A bs) (hn : bs.length ≤ 1099511627776) : Calls Tryz.prog 33 #[.slice A bs.length c] w fun e w' => e = .returned (.agg #[.int .u64 (fpOf bs).1, .int .i64 (fpOf bs).2]) ∧ Below w.heap.size w w' := by
  have H := Lib.hid (fun W (hW : RS W A bs) => Sum_any A c bs W hW hn)
  have H1 := Lib.hid (h.on ((Below.refl _ w).alloc (Nat.le_refl _) (.cells #[.int .u64 0, .int .i64 0] 36)))
  clear h
  simp only [fpOf]
  generalize fpSum bs = sm at *
  go_enter Tryz.func33, Tryz.ntmps33
  go_wp2_with (go_at_call 77; refine (H.out _ H1.out).mono ?_; rintro e w' ⟨rfl, rfl⟩)
  refine bodyPost_ret (v := .agg #[.int .u64 ((sm : Nat) : Int), .int .i64 ((bs.length : Nat) : Int)]) ?_ rfl ⟨rfl, ?_⟩
  · simp [results, Tryz.results33, go_sem]
  · exact (Below.refl _ _).alloc (Nat.le_refl _) _
end Go.Proofs.YtmiknfneeipkeaaGreat
