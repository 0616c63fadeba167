/- Contracts of the walk, part 5. -/
import Derived.Laws.IdiomStrings
import Derived.Lib.SlBytesConst
import Derived.Lib.BufferRead
import Derived.DeepKeys4
import Derived.WalkArith
import Derived.Test.YtmiknfneeipkeaaGreatR04
import Derived.Test.YtmiknfneeipkeaaGreatR02
import Derived.Test.YtmiknfneeipkeaaGreatR03
namespace Go.Proofs.YtmiknfneeipkeaaGreat
open Go.RowKit Go.MapKept Go.ChangeMaps
structure Buf (w0 w : World) (d : BD) (bs : List UInt8) : Prop where
  rb : RB w d bs
  nw : ∀ g, blk d = some g → w0.heap.size ≤ g
  bl : Below w0.heap.size w0 w
section
variable {w0 w w' : World} {d : BD} {bs : List UInt8}
theorem Buf.on (h : Buf w0 w d bs) (hb : Below w.heap.size w w') : Buf w0 w' d bs := ⟨h.rb.on hb, h.nw, h.bl.trans (hb.mono h.bl.size)⟩
theorem Buf.len (h : Buf w0 w d bs) : d.len = bs.length := h.rb.1.symm
theorem sb_nil (w : World) : SB w none [] := ⟨fun _ => rfl, fun ad e => by cases e⟩
theorem full_rx (w : World) (cs : Array Value) (fz : Nat × Nat) (bs : List UInt8) (n : Nat) (hn : bs.length = n) (h0 : 0 < n) (hc : bs.map encU = cs.toList) : RX (w.alloc (.cells cs 5 fz)) ⟨some ⟨w.heap.size, 0, none⟩, n, n⟩ bs := by
  refine .inr ⟨hn, rfl, h0, (fun e => by cases e), fun ad e j u hu => ?_⟩
  injection e with e
  subst e
  rw [lit_add, Nat.zero_add]
  rw [hc, Array.getElem?_toList] at hu
  rw [cell_of_row _ w.heap.size j cs 5 fz (heap_alloc_new w _)]
  exact hu
section
variable {ops : Array Oper} {rest : List Oper} {o : Oper} {a : Act} {Q : Exit → Act → World → Prop}
theorem wpList_buf (h : Buf w0 w d bs) (hgd : o.guard = none) (s x : Operand) (ho : o.op = .call { callee := .builtin .append, args := #[s, x], argTypes := #[40, 40] }) (hs : a.eval s = vB d)
    (A : Option Addr) (n c : Nat) (ns : List UInt8) (hx : a.eval x = .slice A n c) (hn : ns.length = n) (hsrc : SB w A ns) (hb : bs.length + n ≤ 1099511627776)
    (hK : ∀ d' w', Buf w0 w' d' (bs ++ ns) → wpList Tryz.prog ops Q rest (a.put o.dst (vB d')) w') : wpList Tryz.prog ops Q (o :: rest) a w := by
  subst hn
  refine wpList_append_bytes hgd s x ho d bs hs h.rb A c ns hx hsrc hb (fun d' w' _ happ => ?_)
  obtain ⟨r1, r2, r3⟩ := happ.new h.nw h.bl
  exact hK d' w' ⟨r1, r2, r3⟩
theorem wpList_buf0 (h : RX w d bs) (hnw : ∀ g, blk d = some g → w0.heap.size ≤ g) (hbl : Below w0.heap.size w0 w) (hgd : o.guard = none) (s x : Operand) (ho : o.op = .call { callee := .builtin .append, args := #[s, x], argTypes := #[40, 40] }) (hs : a.eval s = vB d)
    (A : Option Addr) (n c : Nat) (ns : List UInt8) (hx : a.eval x = .slice A n c) (hn : ns.length = n) (h0 : 0 < n) (hsrc : SB w A ns) (hb : bs.length + n ≤ 1099511627776)
    (hK : ∀ d' w', Buf w0 w' d' (bs ++ ns) → wpList Tryz.prog ops Q rest (a.put o.dst (vB d')) w') : wpList Tryz.prog ops Q (o :: rest) a w := by
  subst hn
  refine wpList_append_rx hgd s x ho d bs hs h A c ns hx hsrc h0 hb (fun d' w' _ happ => ?_)
  obtain ⟨r1, r2, r3⟩ := happ.new hnw hbl
  exact hK d' w' ⟨r1, r2, r3⟩
end
theorem conv_str {A : Option Addr} (h : SB w A bs) (n c : Nat) (hn : bs.length = n) : (convert 40 9 (.slice A n c)).run Tryz.prog w = .ok (.string ⟨bs.toArray⟩) w := by
  subst hn
  cases A with
  | none =>
    have := h.1 rfl
    obtain rfl : bs = [] := List.length_eq_zero_iff.1 this
    exact Lib.run_convert_nil_bytes w 40 9 5 c Tryz.underlying40 Tryz.underlying5 Tryz.underlying9
  | some ad =>
    exact run_convert_bytes_back w 40 9 5 ad c bs Tryz.underlying40 Tryz.underlying5 Tryz.underlying9 (fun j hj => h.2 ad rfl j _ (by rw [List.getElem?_map, List.getElem?_eq_getElem hj]; rfl))
theorem SB.take {A : Option Addr} (h : SB w A bs) (n : Nat) : SB w A (bs.take n) := by
  refine ⟨fun e => by rw [List.length_take, h.1 e]; omega, fun ad e j u hu => ?_⟩
  rw [List.map_take, List.getElem?_take] at hu
  split at hu
  · exact h.2 ad e j u hu
  · cases hu
theorem putU_0 : putU 0 = [0] := by
  rw [putU]
  rfl
theorem PutUint_nil (v : Nat) (w : World) (hv : v < 18446744073709551616) : Calls Tryz.prog 43 #[.slice none 0 0, .int .u64 (v : Int)] w (NewB (putU v) w) := PutUint_any none 0 [] v w (sb_nil _) (by simp) hv
end
end Go.Proofs.YtmiknfneeipkeaaGreat
namespace Go.Proofs.YtmiknfneeipkeaaGreat
open Go.RowKit
attribute [local go_sem] wext_cell
def ints (bs : List UInt8) : List Int := bs.map (fun b => ((b.toNat : Nat) : Int))
theorem ints_len (bs : List UInt8) : (ints bs).length = bs.length := by simp [ints]
theorem bytes_ints (bs : List UInt8) : Lib.bytesOf (ints bs) = bs := by
  unfold Lib.bytesOf ints
  rw [List.map_map]
  conv => rhs; rw [← List.map_id bs]
  apply List.map_congr_left
  intro b _
  simp
theorem RS.bytesIn {w : World} {A : Option Addr} {bs : List UInt8} (h : RS w A bs) : Lib.BytesIn w A bs.length (ints bs) := by
  intro hp
  cases A with
  | none => have := h.1 rfl; omega
  | some ad =>
    obtain ⟨g, o, rfl, hc⟩ := h.2 ad rfl hp
    refine ⟨g, o, rfl, fun i hi => ?_⟩
    rw [hc i hi]
    unfold encU ints
    rw [List.getD_eq_getElem?_getD, List.getD_eq_getElem?_getD, List.getElem?_map, List.getElem?_eq_getElem hi]
    rfl
theorem equal_rs {w : World} {A B : Option Addr} {a b : List UInt8} (ha : RS w A a) (hb : RS w B b) (c d : Nat) : Calls Tryz.prog 115 #[.slice A a.length c, .slice B b.length d] w (fun e w' => e = .returned (.bool (decide (a = b))) ∧ w = w') :=
  (Tryz.bytes_Equal_all A B a.length c b.length d (ints a) (ints b) w (ints_len a) (ints_len b) ha.bytesIn hb.bytesIn).mono (by
    rintro e w' ⟨rfl, rfl⟩
    refine ⟨?_, rfl⟩
    rw [bytes_ints, bytes_ints]
    congr 2
    by_cases h : a = b
    · simp [h]
    · rw [decide_eq_false h]
      exact beq_eq_false_iff_ne.2 h)
def Vw (w : World) (A : Option Addr) (c : Nat) (bs : List UInt8) : Prop := RS w A bs ∧ (A = none → c = 0) ∧ bs.length ≤ c ∧ bs.length ≤ 9223372036854775807
theorem Vw.on {w w' : World} {A : Option Addr} {c : Nat} {bs : List UInt8} (h : Vw w A c bs) (hb : Below w.heap.size w w') : Vw w' A c bs := ⟨h.1.on hb, h.2⟩
def cutA (A : Option Addr) (k c : Nat) : Option Addr := if c = k then A else A.map (fun a => ⟨a.block, a.off + k, a.spot⟩)
theorem RS.drop {w : World} {g o : Nat} {bs : List UInt8} (h : RS w (some ⟨g, o, none⟩) bs) (k : Nat) : RS w (some ⟨g, o + k, none⟩) (bs.drop k) := by
  have h1 := h.sub k (bs.length - k)
  by_cases hk : k ≤ bs.length
  · have h2 := h1 (by omega)
    rwa [List.take_of_length_le (by rw [List.length_drop]; exact Nat.le_refl _)] at h2
  · rw [List.drop_eq_nil_of_le (by omega)]
    exact ⟨(fun e => by cases e), fun ad _ hp => absurd hp (Nat.lt_irrefl 0)⟩
theorem Vw.drop {w : World} {A : Option Addr} {c : Nat} {bs : List UInt8} (h : Vw w A c bs) (k : Nat) (hk : k ≤ bs.length) : Vw w (cutA A k c) (c - k) (bs.drop k) := by
  obtain ⟨h1, h2, h3, h4⟩ := h
  refine ⟨?_, ?_, by rw [List.length_drop]; omega, by rw [List.length_drop]; omega⟩
  · unfold cutA
    split
    · rename_i hc
      have : bs.drop k = [] := List.drop_eq_nil_of_le (by omega)
      rw [this]
      refine ⟨fun _ => rfl, fun ad _ hp => absurd hp (Nat.lt_irrefl 0)⟩
    · cases A with
      | none =>
        have := h1.1 rfl
        have e : bs = [] := List.length_eq_zero_iff.1 this
        subst e
        exact ⟨fun _ => by simp, fun ad e => by cases e⟩
      | some ad =>
        by_cases hp : 0 < bs.length
        · obtain ⟨g, o, rfl, _⟩ := h1.2 ad rfl hp
          exact h1.drop k
        · have : bs.drop k = [] := List.drop_eq_nil_of_le (by omega)
          rw [this]
          exact ⟨fun _ => rfl, fun ad _ hp => absurd hp (Nat.lt_irrefl 0)⟩
  · unfold cutA
    split
    · intro _
      omega
    · cases A with
      | none => intro _; have := h2 rfl; omega
      | some ad => intro e; cases e
abbrev RdUP (A : Option Addr) (c : Nat) (bs : List UInt8) (w : World) (e : Ending) (w' : World) : Prop :=
  Below w.heap.size w w' ∧ ((∃ v n, takeU 0 0 bs = some (v, n) ∧ n ≤ bs.length ∧ e = .returned (.tuple #[.int .u64 (v : Int), .slice (cutA A n c) (bs.drop n).length (c - n), .bool true])) ∨
  (takeU 0 0 bs = none ∧ e = .returned (.tuple #[.int .u64 0, .slice none 0 0, .bool false])))
theorem takeU_le : ∀ (bs : List UInt8) (i v x n : Nat), takeU i v bs = some (x, n) → i + 1 ≤ n ∧ n ≤ i + bs.length := by
  intro bs
  induction bs with
  | nil => intro i v x n h; simp [takeU] at h
  | cons c r ih =>
    intro i v x n h
    rw [takeU] at h
    split at h
    · cases h
    · split at h
      · have := ih _ _ _ _ h
        rw [List.length_cons]
        omega
      · split at h
        · cases h
        · injection h with h
          injection h with h1 h2
          rw [List.length_cons]
          omega
set_option maxRecDepth 100000 in
set_option maxHeartbeats 4000000 in
theorem readUint_any (A : Option Addr) (c : Nat) (bs : List UInt8) (w : World) (h : Vw w A c bs) : Calls Tryz.prog 147 #[.slice A bs.length c] w (RdUP A c bs w) := by
  have H := Lib.hid h
  obtain ⟨h1, h2, h3, h4⟩ := h
  have HU : Hid (Calls Tryz.prog 193 #[.slice A bs.length c, .int .i64 0] w (UintP bs 0 w)) := codecUint_any A c bs 0 w h1 h2 h3 h4 (Nat.zero_le _)
  clear h1 h2
  go_enter Tryz.func147, Tryz.ntmps147
  go_wp2_with (go_at_call 193; (with_reducible refine HU.out.mono ?_); refine halt_ ?_)
  rintro e w1 ⟨rfl, ⟨v, n, ht, rfl⟩ | ⟨ht, k, hk, rfl⟩⟩
  · rw [List.drop_zero] at ht
    have HT := Lib.hid ht
    have hn := takeU_le _ _ _ _ _ ht
    have hn1 : 1 ≤ n := by omega
    have hn2 : n ≤ bs.length := by omega
    have hnc : n ≤ c := by omega
    have hz : ((0 + n : Nat) : Int) = (n : Int) := by omega
    have HD := Lib.hid (H.out.drop n hn2)
    obtain ⟨ad, hA⟩ : ∃ ad, A = some ad := by
      cases A with
      | none => have := H.out.1.1 rfl; omega
      | some ad => exact ⟨ad, rfl⟩
    subst hA
    obtain ⟨g, o, rfl, _⟩ := H.out.1.2 ad rfl (by omega)
    rw [hz]
    clear ht hn hz HU
    by_cases hcn : c = n
    · have hct : (c = n) = True := eq_true hcn
      have HC : Hid (cutA (some ⟨g, o, none⟩) n c = some ⟨g, o, none⟩) := if_pos hcn
      clear hcn
      go_wp2_with fail
      go_quiet (fail)
      go_wp2_with fail
      go_ret3
      exact ⟨bdrewN (Below.refl _ _) _, .inl ⟨v, n, HT.out, hn2, by rw [HC.out, List.length_drop]; rfl⟩⟩
    · have HC : Hid (cutA (some ⟨g, o, none⟩) n c = some ⟨g, o + n, none⟩) := if_neg hcn
      go_wp2_with fail
      go_quiet (fail)
      go_wp2_with fail
      go_ret3
      exact ⟨bdrewN (Below.refl _ _) _, .inl ⟨v, n, HT.out, hn2, by rw [HC.out, List.length_drop]; rfl⟩⟩
  · have hkn : (k != 0) = true := by rw [bne_iff_ne]; exact hk
    rw [List.drop_zero] at ht
    have HT := Lib.hid ht
    clear ht hk
    go_wp2_with fail
    go_ret3
    exact ⟨Below.refl _ _, .inr ⟨HT.out, rfl⟩⟩
theorem Vw.take {w : World} {A : Option Addr} {c : Nat} {bs : List UInt8} (h : Vw w A c bs) (k : Nat) (hk : k ≤ bs.length) : Vw w A c (bs.take k) := by
  obtain ⟨h1, h2, h3, h4⟩ := h
  refine ⟨⟨fun e => by have := h1.1 e; rw [List.length_take]; omega, fun ad e hp => ?_⟩, h2, by rw [List.length_take]; omega, by rw [List.length_take]; omega⟩
  rw [List.length_take] at hp
  obtain ⟨g, o, rfl, hc⟩ := h1.2 ad e (by omega)
  refine ⟨g, o, rfl, fun j hj => ?_⟩
  rw [List.length_take] at hj
  rw [hc j (by omega), List.getD_eq_getElem?_getD, List.getD_eq_getElem?_getD, List.getElem?_take_of_lt (by omega)]
end Go.Proofs.YtmiknfneeipkeaaGreat
namespace Go.Proofs.YtmiknfneeipkeaaGreat
open Go.RowKit Go.MapKept Go.ChangeMaps
open Go.Maps (Keyed)
abbrev kS (s : ByteArray) : Value := .string s
def okS (s : ByteArray) : Prop := s.size ≤ maxLen
theorem mkS : MK Tryz.prog 9 okS kS := ⟨Maps.string_keyed Tryz.underlying9, fun s h => ⟨.string s.data.toList, by simp only [okS] at h; simp [keyOf, Tryz.underlying9, mapKey, h]⟩, fun a b h => by injection h⟩
abbrev Fi := ByteArray × Int
abbrev vF (f : Fi) : Value := .agg #[.string f.1, .int .i64 f.2]
def okF (f : Fi) : Prop := f.1.size ≤ maxLen ∧ (Lit.int .i64 f.2).wf = true
theorem laidOutC : laidOutB Tryz.prog = true := by kernel_rfl
theorem row168 : (168 : TypeId) < Tryz.prog.types.size := of_decide_eq_true (by kernel_rfl)
theorem kta168 : Tryz.prog.keyTypeAt 2 168 = true := by kernel_rfl
theorem keyed168 : Keyed Tryz.prog 168 := Keyed.of_law (deep_law_laid laidOutC (m := 2) (by omega) row168 kta168 (by rw [Tryz.underlying168]))
theorem typesC : ∃ m, Tryz.prog.types.size = m + 1 := ⟨Tryz.prog.types.size - 1, by have h : (168 : Nat) < Tryz.prog.types.size := row168; omega⟩
theorem kt168 : Tryz.prog.keyType 168 = true := by kernel_rfl
theorem cellsOf168 : Tryz.prog.cellsOf 168 = 2 := by kernel_rfl
theorem cellsOf9 : Tryz.prog.cellsOf 9 = 1 := by kernel_rfl
theorem cellsOf3 : Tryz.prog.cellsOf 3 = 1 := by kernel_rfl
theorem keyOf168 (f : Fi) (h : okF f) : keyOf Tryz.prog 168 (vF f) = some (.string (keyBytes [.string f.1.data.toList, .int .i64 f.2])) := by
  obtain ⟨wa, wb⟩ := h
  obtain ⟨m, hm⟩ := typesC
  have hkt := kt168
  unfold keyOf
  simp only [Tryz.underlying168]
  rw [if_pos (by simp [hkt, Value.formed, Tryz.underlying168, cellsOf168]), hm]
  unfold Program.keyLits
  simp only [Tryz.underlying168, Value.cells]
  rw [if_pos (by rw [cellsOf168]; exact ⟨rfl, by simp⟩)]
  simp [cellsOf9, cellsOf3, Program.keyLits, Tryz.underlying9, Tryz.underlying3, wa, wb]
theorem mkF : MK Tryz.prog 168 okF vF := ⟨keyed168, fun f h => ⟨_, keyOf168 f h⟩, fun a b h => by
  simp [vF] at h
  exact Prod.ext h.1 h.2⟩
abbrev pA : ByteArray := ⟨#[47, 47, 100, 47, 97]⟩
def actI (i : Int) : Int := if i = 1 then 1 else 2
def encR (i : Int) : List Value := [.string pA, .int .i64 i, .int .i64 (10 * i), .int .i64 (actI i), .int .i64 1, .bool false, .bool false, .bool false, .int .u64 i, .int .i64 1, .string ⟨#[]⟩, .int .i64 0]
theorem zero111 (W : World) : (zeroValue 111).run Tryz.prog W = .ok (.agg #[.string ⟨#[]⟩, .int .i64 0, .int .i64 0, .int .i64 0, .int .i64 0, .bool false, .bool false, .bool false, .int .u64 0, .int .i64 0, .string ⟨#[]⟩, .int .i64 0]) W := by
  simp only [zeroValue]
  kernel_rfl
theorem zero168 (W : World) : (zeroValue 168).run Tryz.prog W = .ok (.agg #[.string ⟨#[]⟩, .int .i64 0]) W := by
  simp only [zeroValue]
  kernel_rfl
theorem okS_pA : okS pA := by unfold okS maxLen; decide
end Go.Proofs.YtmiknfneeipkeaaGreat
namespace Go.Proofs.YtmiknfneeipkeaaGreat
open Go.RowKit Go.MapKept Go.ChangeMaps
abbrev vRa (a i : Int) : Value := .agg #[.string pA, .int .i64 i, .int .i64 (10 * i), .int .i64 a, .int .i64 1, .bool false, .bool false, .bool false, .int .u64 i, .int .i64 1, .string ⟨#[]⟩, .int .i64 0]
abbrev ckC (R : Value) (n : Int) (E : Value) (ml me mi : Nat) : Array Value := #[R, .slice none 0 0, .int .i64 n, .string ⟨#[]⟩, .string ⟨#[]⟩, E, .slice none 0 0, .map (some ml), .map (some me), .map (some mi)]
section
variable {b : Nat} {w0 w : World} {l : List Ob} {R E : Value} {n : Int} {kb ml me mi : Nat} {L : List (Fi × Fi)}
theorem isLive_any (a : Int) (h3 : a ≠ 3) (h5 : a ≠ 5) (w : World) : Calls Tryz.prog 211 #[.int .i64 a] w (fun e w' => e = .returned (.bool true) ∧ w = w') := by
  have h3' : (a != 3) = true := by simpa using h3
  have h5' : (a != 5) = true := by simpa using h5
  clear h3 h5
  go_enter Tryz.func211, Tryz.ntmps211
  go_wp2_with fail
  go_ret
  exact ⟨by first | rfl | (rw [h5']; rfl), rfl⟩
theorem look_F {w : World} {m : Nat} (h : MapIs okF vF vF w m L) {f : Fi} (hf : okF f) {g : Fi} (ha : asc L f = some g) (W : World) (hW : Below w.heap.size w W) : (Instr.lookup 207 (.map (some m)) (.agg #[.string f.1, .int .i64 f.2]) false).run Tryz.prog W = .ok (vF g) W := by
  have := MapIs.look mkF Tryz.underlying207 (zero168 W) (h.on hW) hf false
  rw [ha] at this
  exact this
end
end Go.Proofs.YtmiknfneeipkeaaGreat
namespace Go.Proofs.YtmiknfneeipkeaaGreat
open Go.RowKit
inductive Tr where
  | nil
  | take (k : Nat) (t : Tr)
  | one (k : Nat) (t : Tr)
  | two (k : Nat) (t : Tr) (k2 : Nat) (t2 : Tr)
  | three (k : Nat) (t : Tr) (k2 : Nat) (t2 : Tr) (k3 : Nat) (t3 : Tr)
section
variable {P : Program} {ops : Array Oper} {md : Region.Mode} {S : World → Prop} {Q : Exit → Act → World → Prop}
def runC (P : Program) (ops : Array Oper) (Q : Exit → Act → World → Prop) (S : World → Prop) (o : Oper) (K : Act → World → Prop) (a : Act) (w : World) : Prop :=
  if Region.wanted o (yielded ops a.tmps) = true then Oper.wp P o a w (fun a' w' => S w' ∧ K a' w') Q else S w ∧ K (a.put o.dst undef) w
def wpTr (P : Program) (ops : Array Oper) (Q : Exit → Act → World → Prop) (S : World → Prop) (T : Act → World → Prop) : Tr → Act → World → Prop
  | .nil, a, w => T a w
  | .take k t, a, w => ∃ v, YieldsIf P ops S (ops.getD k default) v a ∧ wpTr P ops Q S T t (a.put (ops.getD k default).dst v) w
  | .one k t, a, w => runC P ops Q S (ops.getD k default) (wpTr P ops Q S T t) a w
  | .two k t k2 t2, a, w => runC P ops Q S (ops.getD k default) (wpTr P ops Q S T t) a w ∧ runC P ops Q S (ops.getD k2 default) (wpTr P ops Q S T t2) a w
  | .three k t k2 t2 k3 t3, a, w => runC P ops Q S (ops.getD k default) (wpTr P ops Q S T t) a w ∧ runC P ops Q S (ops.getD k2 default) (wpTr P ops Q S T t2) a w ∧ runC P ops Q S (ops.getD k3 default) (wpTr P ops Q S T t3) a w
def treeB (md : Region.Mode) (ops : Array Oper) (n g : Nat) : Nat → Tr → Array Bool → Bool
  | 0, .nil, listed => Region.seqB md ops g n listed
  | f + 1, .take k t, listed => decide (k < n) && (Region.ready md ops listed).contains k && Region.free md ops listed k && treeB md ops n g f t (listed.setIfInBounds k true)
  | f + 1, .one k t, listed => decide (k < n) && decide (Region.ready md ops listed = [k]) && treeB md ops n g f t (listed.setIfInBounds k true)
  | f + 1, .two k t k2 t2, listed => decide (k < n) && decide (k2 < n) && decide (Region.ready md ops listed = [k, k2]) && treeB md ops n g f t (listed.setIfInBounds k true) && treeB md ops n g f t2 (listed.setIfInBounds k2 true)
  | f + 1, .three k t k2 t2 k3 t3, listed => decide (k < n) && decide (k2 < n) && decide (k3 < n) && decide (Region.ready md ops listed = [k, k2, k3]) && treeB md ops n g f t (listed.setIfInBounds k true) && treeB md ops n g f t2 (listed.setIfInBounds k2 true) && treeB md ops n g f t3 (listed.setIfInBounds k3 true)
  | _, _, _ => false
theorem runC_op {k : Nat} {K : Act → World → Prop} {a : Act} {w : World} (hk : k < ops.size) (h : runC P ops Q S (ops.getD k default) K a w) : wpOp P ops Q k (fun a' w' => S w' ∧ K a' w') a w := by
  have h0 : ops[k]? = some (ops.getD k default) := by simp [Array.getD_eq_getD_getElem?, hk]
  unfold wpOp
  simp only [h0]
  unfold runC at h
  by_cases hwt : Region.wanted (ops.getD k default) (yielded ops a.tmps) = true
  · rw [if_pos hwt] at h ⊢
    exact .inl h
  · rw [if_neg hwt] at h ⊢
    exact h
theorem headH_of_tree {n g : Nat} {T : Act → World → Prop} (hsel : Region.noSelect ops = true) (hQ : ∀ c a d v w, Q (.panic c) (a.put d v) w → Q (.panic c) a w) (hs : Region.sinkB md ops n = true) (hc : Region.chainB md ops n = true) (hn : n < ops.size) :
    ∀ (f : Nat) (t : Tr) (listed : Array Bool) (a : Act) (w : World), HeadInv md ops n listed → S w →
    treeB md ops n g f t listed = true → wpTr P ops Q S T t a w →
    headH P md ops Q S n (fun listed' a' w' => Region.seqB md ops g n listed' = true ∧ T a' w') f listed a w
  | 0, .nil, listed, a, w, _, _, hB, h => ⟨by simpa [treeB] using hB, by simpa [wpTr] using h⟩
  | f + 1, .take k t, listed, a, w, inv, hS, hB, h => by
    simp only [treeB, Bool.and_eq_true, decide_eq_true_eq] at hB
    obtain ⟨⟨⟨hkn, hr⟩, hf⟩, hB'⟩ := hB
    have hk : k < ops.size := by omega
    have h0 : ops[k]? = some (ops.getD k default) := by simp [Array.getD_eq_getD_getElem?, hk]
    have hr' : k ∈ Region.ready md ops listed := by simpa using hr
    obtain ⟨v, hy, hK⟩ : ∃ v, YieldsIf P ops S (ops.getD k default) v a ∧ wpTr P ops Q S T t (a.put (ops.getD k default).dst v) w := h
    exact headH_first h0 (Region.noSelect_spec hsel) hQ hs hc hn hkn (fun listed' a' w' hL => seqB_ready hL.1) f listed a w inv (Region.free_spec h0 hf) hr' hy hS
      (headH_of_tree hsel hQ hs hc hn f t _ _ w (inv.set hr' hkn) hS hB' hK)
  | f + 1, .one k t, listed, a, w, inv, hS, hB, h => by
    simp only [treeB, Bool.and_eq_true, decide_eq_true_eq] at hB
    obtain ⟨⟨hkn, hr⟩, hB'⟩ := hB
    refine ⟨fun h1 => (by rw [hr] at h1; cases h1), fun i hi => ?_⟩
    have hr' : i ∈ Region.ready md ops listed := hi
    rw [hr] at hi
    obtain rfl : i = k := by simpa using hi
    exact ⟨hkn, wpOp_mono (fun a' w' h' => ⟨h'.1, headH_of_tree hsel hQ hs hc hn f t _ a' w' (inv.set hr' hkn) h'.1 hB' h'.2⟩) (runC_op (by omega) h)⟩
  | f + 1, .two k t k2 t2, listed, a, w, inv, hS, hB, h => by
    simp only [treeB, Bool.and_eq_true, decide_eq_true_eq] at hB
    obtain ⟨⟨⟨⟨hkn, hkn2⟩, hr⟩, hB'⟩, hB2⟩ := hB
    refine ⟨fun h1 => (by rw [hr] at h1; cases h1), fun i hi => ?_⟩
    have hr' : i ∈ Region.ready md ops listed := hi
    rw [hr] at hi
    simp only [List.mem_cons, List.not_mem_nil, or_false] at hi
    obtain ⟨h1, h2⟩ : runC P ops Q S (ops.getD k default) (wpTr P ops Q S T t) a w ∧ runC P ops Q S (ops.getD k2 default) (wpTr P ops Q S T t2) a w := h
    rcases hi with rfl | rfl
    · exact ⟨hkn, wpOp_mono (fun a' w' h' => ⟨h'.1, headH_of_tree hsel hQ hs hc hn f t _ a' w' (inv.set hr' hkn) h'.1 hB' h'.2⟩) (runC_op (by omega) h1)⟩
    · exact ⟨hkn2, wpOp_mono (fun a' w' h' => ⟨h'.1, headH_of_tree hsel hQ hs hc hn f t2 _ a' w' (inv.set hr' hkn2) h'.1 hB2 h'.2⟩) (runC_op (by omega) h2)⟩
  | f + 1, .three k t k2 t2 k3 t3, listed, a, w, inv, hS, hB, h => by
    simp only [treeB, Bool.and_eq_true, decide_eq_true_eq] at hB
    obtain ⟨⟨⟨⟨⟨⟨hkn, hkn2⟩, hkn3⟩, hr⟩, hB'⟩, hB2⟩, hB3⟩ := hB
    refine ⟨fun h1 => (by rw [hr] at h1; cases h1), fun i hi => ?_⟩
    have hr' : i ∈ Region.ready md ops listed := hi
    rw [hr] at hi
    simp only [List.mem_cons, List.not_mem_nil, or_false] at hi
    obtain ⟨h1, h2, h3⟩ : runC P ops Q S (ops.getD k default) (wpTr P ops Q S T t) a w ∧ runC P ops Q S (ops.getD k2 default) (wpTr P ops Q S T t2) a w ∧ runC P ops Q S (ops.getD k3 default) (wpTr P ops Q S T t3) a w := h
    rcases hi with rfl | rfl | rfl
    · exact ⟨hkn, wpOp_mono (fun a' w' h' => ⟨h'.1, headH_of_tree hsel hQ hs hc hn f t _ a' w' (inv.set hr' hkn) h'.1 hB' h'.2⟩) (runC_op (by omega) h1)⟩
    · exact ⟨hkn2, wpOp_mono (fun a' w' h' => ⟨h'.1, headH_of_tree hsel hQ hs hc hn f t2 _ a' w' (inv.set hr' hkn2) h'.1 hB2 h'.2⟩) (runC_op (by omega) h2)⟩
    · exact ⟨hkn3, wpOp_mono (fun a' w' h' => ⟨h'.1, headH_of_tree hsel hQ hs hc hn f t3 _ a' w' (inv.set hr' hkn3) h'.1 hB3 h'.2⟩) (runC_op (by omega) h3)⟩
  | 0, .take _ _, _, _, _, _, _, hB, _ => by simp [treeB] at hB
  | 0, .one _ _, _, _, _, _, _, hB, _ => by simp [treeB] at hB
  | 0, .two _ _ _ _, _, _, _, _, _, hB, _ => by simp [treeB] at hB
  | 0, .three _ _ _ _ _ _, _, _, _, _, _, hB, _ => by simp [treeB] at hB
  | f + 1, .nil, _, _, _, _, _, hB, _ => by simp [treeB] at hB
def treeTailB (md : Region.Mode) (ops : Array Oper) (n : Nat) (t : Tr) : Bool :=
  Region.noSelect ops && decide (n < ops.size) && Region.sinkB md ops n && Region.chainB md ops n && treeB md ops n (ops.size - n) n t (Array.replicate ops.size false)
theorem wp_region_tree {id : Nat} {a : Act} {w : World} {l : List Oper} (n : Nat) (t : Tr) (S : World → Prop) (hm : P.follows .mixedOrders = true) (hQ : ∀ c a d v w, Q (.panic c) (a.put d v) w → Q (.panic c) a w) (hB : treeTailB .any l.toArray n t = true) (hS : S w.drew)
    (h : wpTr P l.toArray Q S (fun a' w' => wpList P l.toArray Q (l.drop n) a' w') t a w.drew) : (Code.region id l.toArray true).wp P Q a w := by
  simp only [treeTailB, Bool.and_eq_true, decide_eq_true_eq] at hB
  obtain ⟨⟨⟨⟨hsel, hn⟩, hs⟩, hc⟩, hlex⟩ := hB
  have hdl : (l.drop n).length = l.toArray.size - n := by simp
  have inv0 : HeadInv .any l.toArray n (Array.replicate l.toArray.size false) :=
    ⟨by simp, fun j oj _ hl => (by rw [getD_replicate_false] at hl; cases hl), fun t _ ht => getD_in (by simpa using ht) (getD_replicate_false _ _)⟩
  have H := headH_of_tree (md := .any) (g := l.toArray.size - n) hsel hQ hs hc hn n t _ a w.drew inv0 hS hlex h
  refine wp_region_any hm ?_
  have := any_of_headH (Q := Q) (S := S) (g := l.toArray.size - n) (fun listed a' w' hL => by
    have := wpAny_of_seq (md := .any) (Q' := Q) (l.drop n) n listed a' w' (fun j => by simp [List.getElem?_drop]) (by rw [hdl]; exact hL.1) hL.2
    rwa [hdl] at this) _ _ _ _ H
  rw [show n + (l.toArray.size - n) = l.toArray.size by omega] at this
  exact this
theorem wpTr_nil {T : Act → World → Prop} {a : Act} {w : World} (h : T a w) : wpTr P ops Q S T .nil a w := h
theorem wpTr_take {T : Act → World → Prop} {k : Nat} {t : Tr} {a : Act} {w : World} {o : Oper} (ho : ops.getD k default = o) (v : Value) (hy : YieldsIf P ops S o v a) (h : wpTr P ops Q S T t (a.put o.dst v) w) : wpTr P ops Q S T (.take k t) a w := by
  subst ho
  exact ⟨v, hy, h⟩
theorem wpTr_run {K : Act → World → Prop} {k : Nat} {a : Act} {w : World} {o : Oper} (ho : ops.getD k default = o) (h : ∀ K' : Act → World → Prop, Shut (∀ a w, S w → K a w → K' a w) → if Region.wanted o (yielded ops a.tmps) = true then Oper.wp P o a w K' Q else K' (a.put o.dst undef) w) : runC P ops Q S (ops.getD k default) K a w := by
  subst ho
  exact h _ (fun _ _ h1 h2 => ⟨h1, h2⟩)
theorem getD_lit {l : List Oper} {k : Nat} {o : Oper} (h : l[k]? = some o) : l.toArray.getD k default = o := by
  simp only [Array.getD_eq_getD_getElem?, List.getElem?_toArray, h, Option.getD_some]
theorem wpTr_runL {l : List Oper} {K : Act → World → Prop} {k : Nat} {a : Act} {w : World} {o : Oper} (ho : l[k]? = some o) (h : ∀ K' : Act → World → Prop, Shut (∀ a w, S w → K a w → K' a w) → if Region.wanted o (yielded l.toArray a.tmps) = true then Oper.wp P o a w K' Q else K' (a.put o.dst undef) w) : runC P l.toArray Q S (l.toArray.getD k default) K a w :=
  wpTr_run (getD_lit ho) h
theorem wpTr_takeL {l : List Oper} {T : Act → World → Prop} {k : Nat} {t : Tr} {a : Act} {w : World} {o : Oper} (ho : l[k]? = some o) (v : Value) (hy : YieldsIf P l.toArray S o v a) (h : wpTr P l.toArray Q S T t (a.put o.dst v) w) : wpTr P l.toArray Q S T (.take k t) a w :=
  wpTr_take (getD_lit ho) v hy h
theorem wpTr_one {T : Act → World → Prop} {k : Nat} {t : Tr} {a : Act} {w : World} (h : runC P ops Q S (ops.getD k default) (wpTr P ops Q S T t) a w) : wpTr P ops Q S T (.one k t) a w := h
theorem wpTr_two {T : Act → World → Prop} {k k2 : Nat} {t t2 : Tr} {a : Act} {w : World} (h : runC P ops Q S (ops.getD k default) (wpTr P ops Q S T t) a w) (h2 : runC P ops Q S (ops.getD k2 default) (wpTr P ops Q S T t2) a w) : wpTr P ops Q S T (.two k t k2 t2) a w := ⟨h, h2⟩
theorem wpTr_three {T : Act → World → Prop} {k k2 k3 : Nat} {t t2 t3 : Tr} {a : Act} {w : World} (h : runC P ops Q S (ops.getD k default) (wpTr P ops Q S T t) a w) (h2 : runC P ops Q S (ops.getD k2 default) (wpTr P ops Q S T t2) a w) (h3 : runC P ops Q S (ops.getD k3 default) (wpTr P ops Q S T t3) a w) : wpTr P ops Q S T (.three k t k2 t2 k3 t3) a w := ⟨h, h2, h3⟩
end
end Go.Proofs.YtmiknfneeipkeaaGreat
