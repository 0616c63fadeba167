/- Contracts of the walk, part 31. -/
import Derived.Test.YtmiknfneeipkeaaGreatQ30
import Derived.Test.YtmiknfneeipkeaaGreatQ24
import Derived.Test.YtmiknfneeipkeaaGreatQ28
import Derived.Test.YtmiknfneeipkeaaGreatQ26
import Derived.Test.YtmiknfneeipkeaaGreatQ19
namespace Go.Proofs.YtmiknfneeipkeaaGreat
open Go.RowKit Go.MapKept Go.ChangeMaps Go.Shelf Go.Sort
attribute [local go_sem] wext_cell
theorem fields36 : Tryz.prog.underlying 36 = some (.struct (Tryz.prog.fieldsOf 36)) := by kernel_rfl
theorem stood36 : Tryz.prog.stoodInHeld 36 = false := by kernel_rfl
set_option maxRecDepth 20000 in
theorem eqIn36 (a b : ID) (W : World) : (Op.equalIn 10000 36 (.agg #[.int .u64 a.1, .int .i64 a.2]) (.agg #[.int .u64 b.1, .int .i64 b.2])).run Tryz.prog W = .ok (decide (a = b)) W := by
  have h1 := run_equalIn_agg (P := Tryz.prog) W 9999 36 #[.int .u64 a.1, .int .i64 a.2] #[.int .u64 b.1, .int .i64 b.2] fields36 stood36
  rw [show Op.equalIn 10000 36 (.agg #[.int .u64 a.1, .int .i64 a.2]) (.agg #[.int .u64 b.1, .int .i64 b.2]) = Op.equalIn (9999 + 1) 36 (.agg #[.int .u64 a.1, .int .i64 a.2]) (.agg #[.int .u64 b.1, .int .i64 b.2]) from rfl, h1]
  unfold Program.fieldsOf
  rw [Tryz.underlying36]
  have e34 := fun (a b : Int) => run_equalIn_int (P := Tryz.prog) W 9998 34 .u64 .u64 a b Tryz.underlying34
  have e3 := fun (a b : Int) => run_equalIn_int (P := Tryz.prog) W 9998 3 .i64 .i64 a b Tryz.underlying3
  simp [Op.eqFields, go_sem]
  by_cases h1 : a.1 = b.1
  · by_cases h2 : a.2 = b.2
    · have : a = b := Prod.ext h1 h2
      simp [this]
    · have : a ≠ b := fun e => h2 (by rw [e])
      simp [h1, h2, this]
  · have : a ≠ b := fun e => h1 (by rw [e])
    simp [h1, this]
theorem eql36 (a b : ID) (W : World) : (binOp .eql 36 (.agg #[.int .u64 a.1, .int .i64 a.2]) (.agg #[.int .u64 b.1, .int .i64 b.2])).run Tryz.prog W = .ok (.bool (decide (a = b))) W := by
  rw [run_eql_struct, eqIn36]
  rfl
section
variable {b : Nat} {w0 w w' : World} {l : List Ob}
set_option maxRecDepth 100000 in
set_option maxHeartbeats 8000000 in
theorem shbytes_any {m1 m2 : Nat} {L1 : List (ID × BS)} {L2 : List (ID × Bool)} (h : SW b w0 (mpOb okID vID vBS m1 L1 :: mpOb okID vID vB1 m2 L2 :: l) w) (i : ID) (hi : okID i) (e : BS) (ha : asc L1 i = some e) (hrb : BSok w e) (hf : fpOf e.bs = i) (hl : e.bs.length ≤ 8192) :
    Calls Tryz.prog 124 #[.agg #[.map (some m1), .map (some m2)], .agg #[.int .u64 i.1, .int .i64 i.2]] w (fun en w' => ∃ L2' : List (ID × Bool), en = .returned (.tuple #[.slice e.d.A e.bs.length e.d.cap, .int .i64 0]) ∧ SW b w0 (mpOb okID vID vBS m1 L1 :: mpOb okID vID vB1 m2 L2' :: l) w') := by
  have HI := Lib.hid hi
  have HRB := Lib.hid hrb
  have HF := Lib.hid hf
  have S0 := Lib.hid ((h.newCell 193 #[.map (some m1), .map (some m2)]).newCellAt 36 #[.int .u64 i.1, .int .i64 i.2] (H := w.heap.size + 1) (by simp))
  have HRB1 : Hid (BSok ((w.alloc (.cells #[.map (some m1), .map (some m2)] 193)).alloc (.cells #[.int .u64 i.1, .int .i64 i.2] 36)) e) := ⟨(hrb.1.on (bel1q _ _)).on (bel1q _ _), hrb.2⟩
  have hdl : e.d.len = e.bs.length := hrb.2.1
  have hlk1 := MapIs.look mkI Tryz.underlying191 (zero40 ((w.alloc (.cells #[.map (some m1), .map (some m2)] 193)).alloc (.cells #[.int .u64 i.1, .int .i64 i.2] 36))) (S0.out.get 2 (o := mpOb okID vID vBS m1 L1) rfl) hi true
  rw [ha] at hlk1
  have hlk1 : (Instr.lookup 191 (.map (some m1)) (.agg #[.int .u64 i.1, .int .i64 i.2]) true).run Tryz.prog ((w.alloc (.cells #[.map (some m1), .map (some m2)] 193)).alloc (.cells #[.int .u64 i.1, .int .i64 i.2] 36)) = .ok (.tuple #[.slice e.d.A e.d.len e.d.cap, .bool true]) ((w.alloc (.cells #[.map (some m1), .map (some m2)] 193)).alloc (.cells #[.int .u64 i.1, .int .i64 i.2] 36)) := hlk1
  rw [hdl] at hlk1
  obtain ⟨W1, HW1⟩ : ∃ W1, Hid ((w.alloc (.cells #[.map (some m1), .map (some m2)] 193)).alloc (.cells #[.int .u64 i.1, .int .i64 i.2] 36) = W1) := ⟨_, rfl⟩
  obtain ⟨g2, HG2⟩ : ∃ g2, Hid (w.heap.size = g2) := ⟨_, rfl⟩
  obtain ⟨g3, HG3⟩ : ∃ g3, Hid (w.heap.size + 1 = g3) := ⟨_, rfl⟩
  rw [HG3.out, HG2.out, HW1.out] at S0
  rw [HW1.out] at HRB1 hlk1
  have HOF := Lib.hid (fun (W : World) (hW : BSok W e) => Of_any e.d.A e.d.cap e.bs W hW.1 (by omega))
  rw [hf] at HOF
  clear h ha hrb hf hdl
  go_enter Tryz.func124, Tryz.ntmps124
  go_upto_region 1 with fail
  rw [HW1.out, HG3.out, HG2.out]
  clear HW1 HG3 HG2
  have c0 : W1.cell? ⟨g2, 0, none⟩ = some (.map (some m1)) := (S0.out.cell 1 rfl).cell 0
  have c1 : W1.cell? ⟨g2, 1, none⟩ = some (.map (some m2)) := (S0.out.cell 1 rfl).cell 1
  have d0 : W1.cell? ⟨g3, 0, none⟩ = some (.int .u64 i.1) := (S0.out.cell 0 rfl).cell 0
  have d1 : W1.cell? ⟨g3, 1, none⟩ = some (.int .i64 i.2) := (S0.out.cell 0 rfl).cell 1
  have l2 : g2 < W1.heap.size := (S0.out.cell 1 rfl).lt
  have l3 : g3 < W1.heap.size := (S0.out.cell 0 rfl).lt
  have heq := fun W => eql36 i i W
  go_upto_region 4 with fail
  have hlk2 : ∀ q : Ext W1, (Instr.lookup 146 (.map (some m2)) (.agg #[.int .u64 i.1, .int .i64 i.2]) false).run Tryz.prog (wext W1 q) = .ok (.bool (inS L2 i)) (wext W1 q) := fun q => MapIs.lookB mkI Tryz.underlying146 ((S0.out.on (wext_below q)).get 3 rfl : MapIs okID vID vB1 (wext W1 q) m2 L2) HI.out
  obtain ⟨v, hv⟩ : ∃ v, inS L2 i = v := ⟨_, rfl⟩
  rw [hv] at hlk2
  clear hv hlk1
  cases v
  all_goals (
    refine wp_region_ext (by kernel_rfl) (by kernel_rfl) ?_
    repeat (go_big_quiet_step ((go_at_call 33; exact ext_call (HOF.out _ ⟨HRB1.out.1.on (wext_below _), HRB1.out.2⟩))))
    refine wpQuiet_nil ?_
    intro w2 hb2
    have S2 := Lib.hid (S0.out.on hb2)
    clear hb2 hlk2 c0 c1 d0 d1 l2 l3 heq S0
    have c1 : w2.cell? ⟨g2, 1, none⟩ = some (.map (some m2)) := (S2.out.cell 1 rfl).cell 1
    have d0 : w2.cell? ⟨g3, 0, none⟩ = some (.int .u64 i.1) := (S2.out.cell 0 rfl).cell 0
    have d1 : w2.cell? ⟨g3, 1, none⟩ = some (.int .i64 i.2) := (S2.out.cell 0 rfl).cell 1
    obtain ⟨w5, hu, hm5, hg5, hz5⟩ := MapIs.update mkI Tryz.underlying146 (S2.out.get 3 (o := mpOb okID vID vB1 m2 L2) rfl) HI.out true
    have hu' : (Instr.mapUpdate 146 (.map (some m2)) (.agg #[.int .u64 i.1, .int .i64 i.2]) (.bool true)).run Tryz.prog w2 = .ok () w5 := hu
    have S5 := Lib.hid (S2.out.updMp 3 rfl hm5 hg5)
    clear hu hm5 hg5 hz5 S2
    go_wp2_with fail
    go_ret2
    exact ⟨rfl, setL L2 i true, SW.few (pre := [_, _, _, _]) S5.out [2, 3] (n := 4) rfl (by decide) (by decide)⟩)
end
end Go.Proofs.YtmiknfneeipkeaaGreat
namespace Go.Proofs.YtmiknfneeipkeaaGreat
open Go.RowKit Go.MapKept Go.ChangeMaps Go.Shelf Go.Sort
theorem fstL_mem {T : List CH} {i : ID} {e : BS} (h : asc (fstL T) i = some e) : (i, e) ∈ T := by
  have key : ∀ k, k ≤ T.length → ∀ i e, asc (fstL (T.take k)) i = some e → (i, e) ∈ T := fun k => by
    induction k with
    | zero => intro _ i e h; cases h
    | succ k ih =>
      intro hk i e h
      rw [take_snoc _ ch0 _ (by omega), fstL_snoc] at h
      split at h
      · exact ih (by omega) i e h
      · rw [asc_setL] at h
        split at h
        · rename_i e1
          injection h with h
          have : (i, e) = T.getD k ch0 := by rw [← e1, ← h]
          rw [this]
          exact getD_mem _ _ _ (by omega)
        · exact ih (by omega) i e h
  have := key T.length (Nat.le_refl _) i e
  rw [List.take_length] at this
  exact this h
def byL (T : List CH) (i : ID) : List UInt8 := ((asc (fstL T) i).map (·.bs)).getD []
def asmL (T : List CH) (ids : List ID) : List UInt8 := ids.flatMap (byL T)
theorem asmL_snoc (T : List CH) (ids : List ID) (i : ID) : asmL T (ids ++ [i]) = asmL T ids ++ byL T i := by simp [asmL]
theorem elem_of (t e : TypeId) (ht : Tryz.prog.underlying t = some (.slice e)) : Tryz.prog.elem t = e := by
  simp [Program.elem, ht]
theorem slice_all40 (w : World) (A : Option Addr) (n c : Nat) (hc : n ≤ c) : (Instr.slice 40 (.slice A n c) (some (.int .i64 0)) (some (.int .i64 (n : Int))) none).run Tryz.prog w = .ok (.slice A n c) w := by
  have he := elem_of 40 5 Tryz.underlying40
  have ht' : Tryz.prog.underlying 40 = some (.slice (Tryz.prog.elem 40)) := by rw [he]; exact Tryz.underlying40
  rw [Go.run_slice_lh (w := w) 40 A n c ht' .i64 .i64 0 (n : Int) (by omega) (by omega) (by omega), he, Tryz.sizeOf5]
  simp only [Result.andThen, sliced, Int.toNat_natCast, Int.toNat_zero, Nat.sub_zero, Nat.zero_mul]
  have e : (if c = 0 then A else A.map (·.add 0)) = A := by
    split
    · rfl
    · cases A with
      | none => rfl
      | some ad => simp [Addr.add]
  rw [e]
section
variable {b : Nat} {w0 w w' : World} {l : List Ob}
theorem row_at3 {A : Option Addr} {c : Nat} {P : List PCe} {v : Value} (hr : w.ownsRow 0 196 3 v P.length (P.flatMap encPc)) {k : Nat} (hk : k < P.length) {p : PCe} (hp : P.getD k (0, 0) = p) : ∃ g cap, v = .slice (some ⟨g, 0, none⟩) P.length cap ∧ w.cell? ⟨g, k * 3, none⟩ = some (.int .i64 (p.1 : Int)) ∧ w.cell? ⟨g, k * 3 + 1, none⟩ = some (.int .i64 0) ∧ w.cell? ⟨g, k * 3 + 2, none⟩ = some (.int .i64 p.2) := by
  obtain ⟨g, cap, rfl⟩ := own_some hr (by omega)
  have hf := fun a (ha : a < 3) => flat_at encPc_len ((0, 0) : PCe) P k a hk ha
  rw [hp] at hf
  refine ⟨g, cap, rfl, ?_, ?_, ?_⟩
  · have := hf 0 (by omega)
    rw [Nat.add_zero] at this
    rw [hr.cellAt (k * 3) (by omega), this]
    rfl
  · rw [hr.cellAt (k * 3 + 1) (by omega), hf 1 (by omega)]
    rfl
  · rw [hr.cellAt (k * 3 + 2) (by omega), hf 2 (by omega)]
    rfl
set_option maxRecDepth 100000 in
set_option maxHeartbeats 16000000 in
theorem Range_any (h : SW b w0 l w) (n : Nat) (ids : List ID) (A : Option Addr) (c : Nat) (hA : rgOb A ids ∈ l) (hE : manE ⟨(n : Int), ids⟩ = 0) {C : Option Addr} {T : List CH} (cc : Nat) (hC : cxOb C T ∈ l) (hok : ∀ e ∈ T, okID e.1) (hT : T.length ≤ 100000) (hget : ∀ i ∈ ids, ∃ e, asc (fstL T) i = some e ∧ fpOf e.bs = i) :
    Calls Tryz.prog 76 #[.agg #[.int .i64 (n : Int), .slice A ids.length c], .slice C T.length cc, .int .i64 0, .int .i64 (n : Int)] w (fun e w' => ∃ d, e = .returned (.tuple #[.slice d.A d.len d.cap, .int .i64 0]) ∧ SW b w0 (bufOb d (asmL T ids) :: l) w') := by
  have HA := Lib.hid hA
  have HC := Lib.hid hC
  have HOK := Lib.hid hok
  have HGET := Lib.hid hget
  have hl : ids.length ≤ 1024 := manE_len hE
  obtain ⟨hs1, hs2⟩ : (n : Int) = sumZ ids ∧ (n : Int) ≤ 1048576 := manE_size hE
  have HALL : Hid (ids.all chunkB = true) := manE_all hE
  have S1 := Lib.hid (h.newCell 33 #[.int .i64 (n : Int), .slice A ids.length c])
  have HSL := Lib.hid (Slice_any S1.out (n : Int) ids A c (by simp [HA.out]) hE)
  clear h hA hC hok hget hE hs1
  obtain ⟨g4, HG4⟩ : ∃ g4, Hid (w.heap.size = g4) := ⟨_, rfl⟩
  obtain ⟨W1, HW1⟩ : ∃ W1, Hid (w.alloc (.cells #[.int .i64 (n : Int), .slice A ids.length c] 33) = W1) := ⟨_, rfl⟩
  rw [HG4.out, HW1.out] at HSL S1
  have c0 : W1.cell? ⟨g4, 0, none⟩ = some (.int .i64 (n : Int)) := (S1.out.cell 0 rfl).cell 0
  have c1 : W1.cell? ⟨g4, 1, none⟩ = some (.slice A ids.length c) := (S1.out.cell 0 rfl).cell 1
  go_enter Tryz.func76, Tryz.ntmps76
  go_upto_region 1 with fail
  rw [HW1.out, HG4.out]
  clear HW1 HG4
  go_wp2_with (go_at_call 122; (with_reducible refine HSL.out.mono ?_); refine halt_ ?_)
  rintro e w2 ⟨v, rfl, s2⟩
  obtain ⟨pA, pc, rfl⟩ := own_slL (s2.get 0 rfl)
  have S2 := Lib.hid s2
  have HSH := Lib.hid (shelf_any S2.out (A := C) (T := T) (by simp [HC.out]) HOK.out cc hT)
  clear s2 HSL S1 c0 c1
  go_wp2_with (go_at_call 123; (with_reducible refine HSH.out.mono ?_); refine halt_ ?_)
  rintro e w3 ⟨m1, m2, rfl, s3⟩
  have S3 := Lib.hid (s3.newCell 193 #[.map (some m1), .map (some m2)])
  obtain ⟨g12, HG12⟩ : ∃ g12, Hid (w3.heap.size = g12) := ⟨_, rfl⟩
  obtain ⟨W3, HW3⟩ : ∃ W3, Hid (w3.alloc (.cells #[.map (some m1), .map (some m2)] 193) = W3) := ⟨_, rfl⟩
  rw [HG12.out, HW3.out] at S3
  have hwr : IntKind.i64.wrap ((n : Int) - 0) = (n : Int) := by rw [Int.sub_zero]; exact IntWalk.i64_in _ (by omega)
  have hmk : ∀ W : World, (Instr.makeSlice 40 (.int .i64 0) (.int .i64 (n : Int))).run Tryz.prog W = .ok (.slice (some ⟨W.heap.size, 0, none⟩) 0 n) (W.alloc (.cells (Array.replicate n (encU 0)) 5)) := fun W => mk_bytes W 0 n (Nat.zero_le _) (by omega)
  clear s3 HSH S2
  go_upto_region 5 with fail
  rw [HW3.out, HG12.out]
  clear HW3 HG12
  go_upto_region 6 with fail
  have S4 : Hid (SW b w0 (bufOb ⟨some ⟨W3.heap.size, 0, none⟩, 0, n⟩ [] :: cellOb g12 193 #[.map (some m1), .map (some m2)] :: mpOb okID vID vBS m1 (fstL T) :: mpOb okID vID vB1 m2 ([] : List (ID × Bool)) :: rowOb 196 3 (.slice pA ids.length pc) ids.length ((pie ids ids.length).flatMap encPc) :: cellOb g4 33 #[.int .i64 (n : Int), .slice A ids.length c] :: l) (W3.alloc (.cells (Array.replicate n (encU 0)) 5))) := S3.out.newBuT (bel1 _ _) (new_bytes W3 _ _ 0 n [] rfl rfl (Nat.zero_le _) (by simp) (fun j u hu => by simp at hu)) (fun g hg => by simp [blk] at hg; omega)
  obtain ⟨W4, HW4⟩ : ∃ W4, Hid (W3.alloc (.cells (Array.replicate n (encU 0)) 5) = W4) := ⟨_, rfl⟩
  rw [HW4.out] at S4
  clear S3 hmk
  go_upto_region 7 with fail
  rw [HW4.out]
  clear HW4
  go_loopw [13, 36] (fun s13 s36 wr => ∃ (k : Nat) (d : BD) (L2 : List (ID × Bool)), k ≤ ids.length ∧ s36 = .int .i64 (k : Int) ∧ s13 = .slice d.A d.len d.cap ∧ Hid ((asmL T (ids.take k)).length ≤ 8192 * k) ∧ SW b w0 (bufOb d (asmL T (ids.take k)) :: cellOb g12 193 #[.map (some m1), .map (some m2)] :: mpOb okID vID vBS m1 (fstL T) :: mpOb okID vID vB1 m2 L2 :: rowOb 196 3 (.slice pA ids.length pc) ids.length ((pie ids ids.length).flatMap encPc) :: cellOb g4 33 #[.int .i64 (n : Int), .slice A ids.length c] :: l) wr) (fun _ s36 _ => ids.length - (intOf s36).toNat)
  case atStart => exact ⟨0, ⟨some ⟨W3.heap.size, 0, none⟩, 0, n⟩, [], Nat.zero_le _, rfl, rfl, by simp [Hid, asmL], S4.out⟩
  case round =>
    obtain ⟨k, d, L2, hk, rfl, rfl, HLEN, hs⟩ := hrel
    have S5 := Lib.hid hs
    clear hs S4
    by_cases hlt : k < ids.length
    · obtain ⟨i, hik⟩ : ∃ i, ids.getD k id0 = i := ⟨_, rfl⟩
      have him : i ∈ ids := by rw [← hik]; exact getD_mem _ _ _ hlt
      obtain ⟨e, ha, hf⟩ := HGET.out i him
      have heT := fstL_mem ha
      have hch : chunkB i = true := by
        have h1 := HALL.out
        rw [List.all_eq_true] at h1
        exact h1 i him
      obtain ⟨hc1, hc2⟩ := chunkB_sound hch
      have hil : i.2 = (e.bs.length : Int) := by rw [← hf]; rfl
      have hoki : okID i := HOK.out (i, e) heT
      have hel : e.bs.length ≤ 8192 := by omega
      have HBY : Hid (asmL T (ids.take (k + 1)) = asmL T (ids.take k) ++ e.bs) := by
        rw [Hid, take_snoc _ id0 _ hlt, asmL_snoc, hik, byL, ha]
        rfl
      have HIK := Lib.hid hik
      have HAE := Lib.hid ha
      have HF := Lib.hid hf
      have HEL := Lib.hid hel
      have HOI := Lib.hid hoki
      have HMT := Lib.hid heT
      have HPP : Hid ((pie ids ids.length).getD k (0, 0) = (k, (e.bs.length : Int))) := by rw [Hid, pie_at _ hlt, hik, hil]
      obtain ⟨gp, cap, hpe, p0, p1, p2⟩ := row_at3 (A := none) (c := 0) (v := .slice pA ids.length pc) (P := pie ids ids.length) (by rw [pie_len]; exact S5.out.get 4 rfl) (k := k) (by rw [pie_len]; exact hlt) HPP.out
      rw [pie_len] at hpe
      injection hpe with e1 _ e3
      subst e1
      obtain ⟨gA, oA, hAe, a0, a1⟩ := S5.out.rgCell (A := A) (ids := ids) (by simp [HA.out]) hlt hik
      subst hAe
      have S6 := Lib.hid (S5.out.newCell 196 #[.int .i64 (k : Int), .int .i64 0, .int .i64 (e.bs.length : Int)])
      obtain ⟨g15, HG15⟩ : ∃ g15, Hid (wr.heap.size = g15) := ⟨_, rfl⟩
      obtain ⟨W5, HW5⟩ : ∃ W5, Hid (wr.alloc (.cells #[.int .i64 (k : Int), .int .i64 0, .int .i64 (e.bs.length : Int)] 196) = W5) := ⟨_, rfl⟩
      rw [HG15.out, HW5.out] at S6
      have hki : (k : Int) < (ids.length : Int) := by omega
      clear hik him ha hf heT hch hil hoki hel S5 a0 a1 e3
      go_upto_region 9 with fail
      rw [HW5.out, HG15.out]
      clear HW5 HG15 p0 p1 p2
      have HCL := Lib.hid (fun (w' : World) (L2 : List (ID × Bool)) (hS : SW b w0 (cellOb g15 196 #[.int .i64 (k : Int), .int .i64 0, .int .i64 (e.bs.length : Int)] :: bufOb d (asmL T (ids.take k)) :: cellOb g12 193 #[.map (some m1), .map (some m2)] :: mpOb okID vID vBS m1 (fstL T) :: mpOb okID vID vB1 m2 L2 :: rowOb 196 3 (.slice (some ⟨gp, 0, none⟩) ids.length pc) ids.length ((pie ids ids.length).flatMap encPc) :: cellOb g4 33 #[.int .i64 (n : Int), .slice (some ⟨gA, oA, none⟩) ids.length c] :: l) w') => (show w'.cell? ⟨g12, 0, none⟩ = some (.map (some m1)) ∧ w'.cell? ⟨g12, 1, none⟩ = some (.map (some m2)) ∧ w'.cell? ⟨g4, 1, none⟩ = some (.slice (some ⟨gA, oA, none⟩) ids.length c) ∧ w'.cell? ⟨g15, 0, none⟩ = some (.int .i64 (k : Int)) ∧ w'.cell? ⟨gA, oA + k * 2, none⟩ = some (.int .u64 i.1) ∧ w'.cell? ⟨gA, oA + k * 2 + 1, none⟩ = some (.int .i64 i.2) from by
        obtain ⟨gq, oq, hq, a0, a1⟩ := hS.rgCell (A := some ⟨gA, oA, none⟩) (ids := ids) (by simp [HA.out]) hlt HIK.out
        injection hq with hq
        injection hq with hq hq2
        subst hq hq2
        exact ⟨(hS.cell 2 rfl).cell 0, (hS.cell 2 rfl).cell 1, (hS.cell 6 rfl).cell 1, (hS.cell 0 rfl).cell 0, a0, a1⟩))
      have S7 := Lib.hid S6.out.drew
      clear S6
      refine wp_region_held_tail [(0, true), (1, true), (2, true), (3, true), (4, true), (5, true), (6, true), (7, false), (8, true), (9, true), (10, true), (11, true)] (fun w' => w'.cell? ⟨g12, 0, none⟩ = some (.map (some m1)) ∧ w'.cell? ⟨g12, 1, none⟩ = some (.map (some m2)) ∧ w'.cell? ⟨g4, 1, none⟩ = some (.slice (some ⟨gA, oA, none⟩) ids.length c) ∧ w'.cell? ⟨g15, 0, none⟩ = some (.int .i64 (k : Int)) ∧ w'.cell? ⟨gA, oA + k * 2, none⟩ = some (.int .u64 i.1) ∧ w'.cell? ⟨gA, oA + k * 2 + 1, none⟩ = some (.int .i64 i.2)) (by kernel_rfl) (fun _ _ d _ _ h => by cases d <;> exact h) (by kernel_rfl) (HCL.out _ _ S7.out) ?_
      simp only [picked, List.map_cons, List.map_nil, List.getD_cons_succ, List.getD_cons_zero]
      (refine wpHeld_take (v := ?_) (Or.inl ⟨by rfl, ?_⟩) ?_
       rotate_left
       · (intro w' hSw; have h1 := hSw.1; have h2 := hSw.2.1; have h3 := hSw.2.2.1; have h4 := hSw.2.2.2.1; have h5 := hSw.2.2.2.2.1; have h6 := hSw.2.2.2.2.2; go_simp; try with_reducible rfl)
       try simp only [Act.put, List.setIfInBounds_toArray, List.set])
      (refine wpHeld_take (v := ?_) (Or.inl ⟨by rfl, ?_⟩) ?_
       rotate_left
       · (intro w' hSw; have h1 := hSw.1; have h2 := hSw.2.1; have h3 := hSw.2.2.1; have h4 := hSw.2.2.2.1; have h5 := hSw.2.2.2.2.1; have h6 := hSw.2.2.2.2.2; go_simp; try with_reducible rfl)
       try simp only [Act.put, List.setIfInBounds_toArray, List.set])
      (refine wpHeld_take (v := ?_) (Or.inl ⟨by rfl, ?_⟩) ?_
       rotate_left
       · (intro w' hSw; have h1 := hSw.1; have h2 := hSw.2.1; have h3 := hSw.2.2.1; have h4 := hSw.2.2.2.1; have h5 := hSw.2.2.2.2.1; have h6 := hSw.2.2.2.2.2; go_simp; try with_reducible rfl)
       try simp only [Act.put, List.setIfInBounds_toArray, List.set])
      (refine wpHeld_take (v := ?_) (Or.inl ⟨by rfl, ?_⟩) ?_
       rotate_left
       · (intro w' hSw; have h1 := hSw.1; have h2 := hSw.2.1; have h3 := hSw.2.2.1; have h4 := hSw.2.2.2.1; have h5 := hSw.2.2.2.2.1; have h6 := hSw.2.2.2.2.2; go_simp; try with_reducible rfl)
       try simp only [Act.put, List.setIfInBounds_toArray, List.set])
      (refine wpHeld_take (v := ?_) (Or.inl ⟨by rfl, ?_⟩) ?_
       rotate_left
       · (intro w' hSw; have h1 := hSw.1; have h2 := hSw.2.1; have h3 := hSw.2.2.1; have h4 := hSw.2.2.2.1; have h5 := hSw.2.2.2.2.1; have h6 := hSw.2.2.2.2.2; go_simp; try with_reducible rfl)
       try simp only [Act.put, List.setIfInBounds_toArray, List.set])
      (refine wpHeld_take (v := ?_) (Or.inl ⟨by rfl, ?_⟩) ?_
       rotate_left
       · (intro w' hSw; have h1 := hSw.1; have h2 := hSw.2.1; have h3 := hSw.2.2.1; have h4 := hSw.2.2.2.1; have h5 := hSw.2.2.2.2.1; have h6 := hSw.2.2.2.2.2; go_simp; try with_reducible rfl)
       try simp only [Act.put, List.setIfInBounds_toArray, List.set])
      (refine wpHeld_take (v := ?_) (Or.inl ⟨by rfl, ?_⟩) ?_
       rotate_left
       · (intro w' hSw; have h1 := hSw.1; have h2 := hSw.2.1; have h3 := hSw.2.2.1; have h4 := hSw.2.2.2.1; have h5 := hSw.2.2.2.2.1; have h6 := hSw.2.2.2.2.2; go_simp; try with_reducible rfl)
       try simp only [Act.put, List.setIfInBounds_toArray, List.set])
      refine wpHeld_run (fun K hK => ?_)
      have S7' : SW b w0 (mpOb okID vID vBS m1 (fstL T) :: mpOb okID vID vB1 m2 L2 :: cellOb g15 196 #[.int .i64 (k : Int), .int .i64 0, .int .i64 (e.bs.length : Int)] :: bufOb d (asmL T (ids.take k)) :: cellOb g12 193 #[.map (some m1), .map (some m2)] :: rowOb 196 3 (.slice (some ⟨gp, 0, none⟩) ids.length pc) ids.length ((pie ids ids.length).flatMap encPc) :: cellOb g4 33 #[.int .i64 (n : Int), .slice (some ⟨gA, oA, none⟩) ids.length c] :: l) W5.drew := SW.front (pre := [_, _, _, _, _]) S7.out [3, 4, 0, 1, 2] (n := 5) rfl (by decide)
      have HBT := Lib.hid (shbytes_any S7' i HOI.out e HAE.out ((S7.out.1.holds (cxOb C T) (by simp [HC.out])).2 (i, e) HMT.out) HF.out HEL.out)
      clear S7'
      go_simp
      go_at_call 124
      refine HBT.out.mono ?_
      rintro e2 w6 ⟨L3, rfl, s6⟩
      have S8 : Hid (SW b w0 (cellOb g15 196 #[.int .i64 (k : Int), .int .i64 0, .int .i64 (e.bs.length : Int)] :: bufOb d (asmL T (ids.take k)) :: cellOb g12 193 #[.map (some m1), .map (some m2)] :: mpOb okID vID vBS m1 (fstL T) :: mpOb okID vID vB1 m2 L3 :: rowOb 196 3 (.slice (some ⟨gp, 0, none⟩) ids.length pc) ids.length ((pie ids ids.length).flatMap encPc) :: cellOb g4 33 #[.int .i64 (n : Int), .slice (some ⟨gA, oA, none⟩) ids.length c] :: l) w6) := SW.front (pre := [_, _, _, _, _]) s6 [2, 3, 4, 0, 1] (n := 5) rfl (by decide)
      clear s6 HBT S7
      go_wp2_with fail
      refine hK.out _ _ (HCL.out _ _ S8.out) ?_
      clear hK K HCL
      try simp only [Act.put, List.setIfInBounds_toArray, List.set]
      (refine wpHeld_take (v := ?_) (Or.inl ⟨by rfl, ?_⟩) ?_
       rotate_left
       · (intro w' hSw; have h1 := hSw.1; have h2 := hSw.2.1; have h3 := hSw.2.2.1; have h4 := hSw.2.2.2.1; have h5 := hSw.2.2.2.2.1; have h6 := hSw.2.2.2.2.2; go_simp; try with_reducible rfl)
       try simp only [Act.put, List.setIfInBounds_toArray, List.set])
      (refine wpHeld_take (v := ?_) (Or.inl ⟨by rfl, ?_⟩) ?_
       rotate_left
       · (intro w' hSw; have h1 := hSw.1; have h2 := hSw.2.1; have h3 := hSw.2.2.1; have h4 := hSw.2.2.2.1; have h5 := hSw.2.2.2.2.1; have h6 := hSw.2.2.2.2.2; go_simp; try with_reducible rfl)
       try simp only [Act.put, List.setIfInBounds_toArray, List.set])
      (refine wpHeld_take (v := ?_) (Or.inl ⟨by rfl, ?_⟩) ?_
       rotate_left
       · (intro w' hSw; have h1 := hSw.1; have h2 := hSw.2.1; have h3 := hSw.2.2.1; have h4 := hSw.2.2.2.1; have h5 := hSw.2.2.2.2.1; have h6 := hSw.2.2.2.2.2; go_simp; try with_reducible rfl)
       try simp only [Act.put, List.setIfInBounds_toArray, List.set])
      (refine wpHeld_take (v := ?_) (Or.inl ⟨by rfl, ?_⟩) ?_
       rotate_left
       · (intro w' hSw; have h1 := hSw.1; have h2 := hSw.2.1; have h3 := hSw.2.2.1; have h4 := hSw.2.2.2.1; have h5 := hSw.2.2.2.2.1; have h6 := hSw.2.2.2.2.2; go_simp; try with_reducible rfl)
       try simp only [Act.put, List.setIfInBounds_toArray, List.set])
      refine wpHeld_nil ?_
      simp only [List.length_cons, List.length_nil, List.drop_succ_cons, List.drop_zero]
      have q1 : w6.cell? ⟨g15, 1, none⟩ = some (.int .i64 0) := (S8.out.cell 0 rfl).cell 1
      have q2 : w6.cell? ⟨g15, 2, none⟩ = some (.int .i64 (e.bs.length : Int)) := (S8.out.cell 0 rfl).cell 2
      have hrb : BSok w6 e := (S8.out.1.holds (cxOb C T) (by simp [HC.out])).2 (i, e) HMT.out
      have hsl := fun W => slice_all40 W e.d.A e.bs.length e.d.cap (by have := hrb.2.1; have := hrb.2.2; omega)
      have HSRC := Lib.hid hrb.1.sb
      have hrd : RB w6 d (asmL T (ids.take k)) := S8.out.get 1 (o := bufOb d (asmL T (ids.take k))) rfl
      have hlen := HLEN.out
      clear hrb
      go_wp2_with (at_builtin; refine halt_ ?_)
      refine wpList_append_bytes rfl _ _ rfl d (asmL T (ids.take k)) rfl hrd e.d.A e.d.cap e.bs rfl HSRC.out (by have := HEL.out; omega) ?_
      intro d2 w7 hl2 happ
      have S9 := Lib.hid (S8.out.appB 1 rfl happ)
      clear happ hl2 hrd hsl q1 q2 S8
      go_wp2_with fail
      go_roundw
      case rel =>
        refine ⟨k + 1, d2, L3, by omega, by go_num, rfl, ?_, ?_⟩
        · rw [Hid, HBY.out, List.length_append]
          have := HEL.out
          omega
        · rw [HBY.out]
          exact SW.few (pre := [_, _, _, _, _, _, _]) S9.out [1, 2, 3, 4, 5, 6] (n := 7) rfl (by decide) (by decide)
      case measure => simp [intOf]; omega
    · obtain rfl : k = ids.length := by omega
      rw [List.take_length] at S5
      go_wp2_with fail
      go_ret2
      exact ⟨d, rfl, SW.few (pre := [_, _, _, _, _, _]) S5.out [0] (n := 6) rfl (by decide) (by decide)⟩
set_option maxRecDepth 100000 in
set_option maxHeartbeats 4000000 in
theorem Assemble_any (h : SW b w0 l w) (n : Nat) (ids : List ID) (A : Option Addr) (c : Nat) (hA : rgOb A ids ∈ l) (hE : manE ⟨(n : Int), ids⟩ = 0) {C : Option Addr} {T : List CH} (cc : Nat) (hC : cxOb C T ∈ l) (hok : ∀ e ∈ T, okID e.1) (hT : T.length ≤ 100000) (hget : ∀ i ∈ ids, ∃ e, asc (fstL T) i = some e ∧ fpOf e.bs = i) :
    Calls Tryz.prog 32 #[.agg #[.int .i64 (n : Int), .slice A ids.length c], .slice C T.length cc] w (fun e w' => ∃ d, e = .returned (.tuple #[.slice d.A d.len d.cap, .int .i64 0]) ∧ SW b w0 (bufOb d (asmL T ids) :: l) w') := by
  have S1 := Lib.hid (h.newCell 33 #[.int .i64 (n : Int), .slice A ids.length c])
  have HR := Lib.hid (Range_any S1.out n ids A c (by simp [hA]) hE (C := C) cc (by simp [hC]) hok hT hget)
  clear h hA hE hC hok hget
  have c0 : (w.alloc (.cells #[.int .i64 (n : Int), .slice A ids.length c] 33)).cell? ⟨w.heap.size, 0, none⟩ = some (.int .i64 (n : Int)) := (S1.out.cell 0 rfl).cell 0
  have c1 : (w.alloc (.cells #[.int .i64 (n : Int), .slice A ids.length c] 33)).cell? ⟨w.heap.size, 1, none⟩ = some (.slice A ids.length c) := (S1.out.cell 0 rfl).cell 1
  clear S1
  go_enter Tryz.func32, Tryz.ntmps32
  go_wp2_with (go_at_call 76; (with_reducible refine HR.out.mono ?_); refine halt_ ?_)
  rintro e w2 ⟨d, rfl, s2⟩
  have S2 := Lib.hid s2
  clear s2 HR c0 c1
  go_wp2_with fail
  go_ret2
  exact ⟨d, rfl, SW.few (pre := [_, _]) S2.out [0] (n := 2) rfl (by decide) (by decide)⟩
end
end Go.Proofs.YtmiknfneeipkeaaGreat
namespace Go.Proofs.YtmiknfneeipkeaaGreat
open Go.RowKit Go.MapKept Go.ChangeMaps Go.Shelf Go.Sort
def FewS (ms : List Man) : Prop := ms.length ≤ 4 ∧ ∀ m ∈ ms, m.ids.length ≤ 3 ∧ ∀ i ∈ m.ids, okID i ∧ i.2 ≤ 9
section
variable {b : Nat} {w0 w w' : World} {l : List Ob}
end
theorem im_row {w : World} {A : Option Addr} {c : Nat} {rs : List MR} {ms : List Man} (hr : w.ownsRow 0 33 2 (.slice A ms.length c) ms.length (rs.flatMap encMR)) (hm : (msOb rs ms).holds w) : (imOb A rs ms).holds w :=
  ⟨row_rdM hr hm.1, hm.1, hm.2⟩
theorem cx_row {w : World} {A : Option Addr} {q c : Nat} {S : List CH} (hr : w.ownsRow 0 42 3 (.slice A q c) q (S.flatMap encCH)) (hq : S.length = q) (hb : ∀ e ∈ S, BSok w e.2) : (cxOb A S).holds w := ⟨row_rdCH hr hq, hb⟩
theorem few_mans {Ps : List (List BS)} (h : GoodPs Ps) : ∀ m ∈ mansT Ps, manE m = 0 ∧ m.ids.length ≤ 3 ∧ (0 ≤ m.size ∧ m.size ≤ 9) ∧ ∀ i ∈ m.ids, okID i ∧ i.2 ≤ 9 := by
  intro m hm
  refine ⟨good_man h m hm, good_ids h m hm, ?_, fun i hi => ⟨good_ok h m hm i hi, ?_⟩⟩
  · obtain ⟨T, hT, rfl⟩ := List.mem_map.1 hm
    have h1 := lenS_le (T := T) (B := 3) (fun e he => ((h.2 T hT).2 e he).2)
    have h2 := (h.2 T hT).1
    simp only [manT]
    omega
  · obtain ⟨T, hT, rfl⟩ := List.mem_map.1 hm
    obtain ⟨e, he, rfl⟩ := List.mem_map.1 hi
    have h1 := ((h.2 T hT).2 e he).2
    show ((e.bs.length : Nat) : Int) ≤ 9
    omega
theorem chs_few {Ps : List (List BS)} (h : GoodPs Ps) : (chsT Ps).length ≤ 9 ∧ ∀ e ∈ chsT Ps, okID e.1 ∧ e.2.bs.length ≤ 5 ∧ e.2 ∈ allT Ps := by
  constructor
  · have : ∀ l : List (List BS), (∀ T ∈ l, T.length ≤ 3) → (l.flatMap chOfT).length ≤ 3 * l.length := by
      intro l
      induction l with
      | nil => intro _; simp
      | cons a l ih =>
        intro hl
        have h1 := ih (fun T hT => hl T (.tail _ hT))
        have h2 := hl a (.head _)
        rw [List.flatMap_cons, List.length_append, List.length_cons, chOfT_len]
        omega
    have h1 := this Ps (fun T hT => (h.2 T hT).1)
    have h2 := h.1
    show (Ps.flatMap chOfT).length ≤ 9
    omega
  · intro e he
    obtain ⟨T, hT, he⟩ := List.mem_flatMap.1 he
    obtain ⟨x, hx, rfl⟩ := List.mem_map.1 he
    have h1 := ((h.2 T hT).2 x hx).2
    exact ⟨okID_fp _ (by omega), (show x.bs.length ≤ 5 by omega), List.mem_flatMap.2 ⟨T, hT, hx⟩⟩
theorem pack_few {ids : List ID} {T : List CH} (hn : ids.length ≤ 100) (ha : AllR ids T) (hs : ∀ i ∈ ids, i.2 ≤ 9) : (packP (selR ids T)).length ≤ 1048576 := by
  have hl : ∀ e ∈ selR ids T, (frameP e).length ≤ 50 := fun e he => by
    obtain ⟨i, hi, rfl⟩ := List.mem_map.1 he
    obtain ⟨x, hx⟩ := Option.isSome_iff_exists.1 (ha i hi)
    obtain ⟨_, h2, _⟩ := firstR_id hx
    rw [hx, Option.getD_some]
    have h3 : ((x.2.bs.length : Nat) : Int) = i.2 := congrArg Prod.snd h2
    have h4 := hs i hi
    have h5 := putU_ten (v := x.2.bs.length) (by omega)
    have h6 := putU_ten (v := fpSum x.2.bs) (by have := fpSum_lt x.2.bs; unfold pP at this; omega)
    rw [frameP]
    simp only [List.length_append, List.length_singleton]
    omega
  have hsum : ∀ l : List CH, (∀ e ∈ l, (frameP e).length ≤ 50) → (l.flatMap frameP).length ≤ 50 * l.length := by
    intro l
    induction l with
    | nil => intro _; simp
    | cons a l ih =>
      intro h
      have h1 := ih (fun e he => h e (.tail _ he))
      have h2 := h a (.head _)
      rw [List.flatMap_cons, List.length_append, List.length_cons]
      omega
  have h1 := hsum _ hl
  have h2 := selR_len ids T
  have h5 := putU_ten (v := (selR ids T).length) (by omega)
  have h6 := putU_ten (v := fpSum (packB (selR ids T))) (by have := fpSum_lt (packB (selR ids T)); unfold pP at this; omega)
  rw [packP, List.length_append]
  have h7 : (packB (selR ids T)).length = 4 + ((selR ids T).flatMap frameP).length + 1 + (putU (selR ids T).length).length := by
    simp [packB, packF]
    omega
  omega
theorem few_pack {ms : List Man} (h : FewS ms) (T : List CH) : AllR (setR (idsOf ms)) T → (packP (selR (setR (idsOf ms)) T)).length ≤ 1048576 := fun ha => by
  have h1 := idsOf_few (B := 3) (fun m hm => (h.2 m hm).1)
  have h2 := setR_len (idsOf ms)
  have h3 := h.1
  refine pack_few (by omega) ha (fun i hi => ?_)
  rw [setR_mem] at hi
  obtain ⟨m, hm, hi⟩ := List.mem_flatMap.1 hi
  exact ((h.2 m hm).2 i hi).2
end Go.Proofs.YtmiknfneeipkeaaGreat
namespace Go.Proofs.YtmiknfneeipkeaaGreat
open Go.RowKit Go.MapKept Go.ChangeMaps Go.Shelf Go.Sort
theorem mod_l (a b c p : Nat) : (a % p * b + c) % p = (a * b + c) % p := by
  rw [Nat.add_mod, Nat.mul_mod, Nat.mod_mod, ← Nat.mul_mod, ← Nat.add_mod]
theorem mod_r (a b c p : Nat) : (a * (b % p) + c) % p = (a * b + c) % p := by
  rw [Nat.mul_comm a, mod_l, Nat.mul_comm b]
theorem fpSum_app (a : List UInt8) : ∀ (n : Nat) (b : List UInt8), b.length = n → fpSum (a ++ b) = (fpSum a * powP n + fpSum b) % pP := by
  intro n
  induction n with
  | zero =>
    intro b hb
    obtain rfl := List.eq_nil_of_length_eq_zero hb
    have h1 : powP 0 = 1 := by unfold powP pP; decide
    rw [List.append_nil, h1, fpSum_nil, Nat.mul_one, Nat.add_zero, Nat.mod_eq_of_lt (fpSum_lt a)]
  | succ n ih =>
    intro b hb
    rcases List.eq_nil_or_concat b with rfl | ⟨b, x, rfl⟩
    · simp at hb
    · rw [List.concat_eq_append] at *
      have hb' : b.length = n := by simpa using hb
      rw [← List.append_assoc, fpSum_snoc, fpSum_snoc, ih b hb']
      unfold fpStep powP
      rw [mod_l, Nat.add_mod_mod, mod_r, Nat.add_mul, Nat.pow_succ]
      have e1 : fpSum a * (pB ^ n % pP) * pB + fpSum b * pB + (x.toNat + 1) = (fpSum a * pB) * (pB ^ n % pP) + (fpSum b * pB + (x.toNat + 1)) := by
        rw [Nat.mul_right_comm, Nat.add_assoc]
      rw [e1, mod_r, Nat.mul_assoc, Nat.mul_comm pB]
theorem join_fp (a b : List UInt8) : joinP (fpOf a) (fpOf b) = fpOf (a ++ b) := by
  have e1 : joinP (fpOf a) (fpOf b) = ((((fpSum a * powP b.length + fpSum b) % pP : Nat) : Int), ((a.length : Nat) : Int) + ((b.length : Nat) : Int)) := rfl
  rw [e1, ← fpSum_app a b.length b rfl]
  show _ = (((fpSum (a ++ b) : Nat) : Int), (((a ++ b).length : Nat) : Int))
  rw [List.length_append, Int.natCast_add]
theorem whole_asm {T : List CH} : ∀ (n : Nat) (ids : List ID), ids.length = n → (∀ i ∈ ids, fpOf (byL T i) = i) → wholeP ids = fpOf (asmL T ids) := by
  intro n
  induction n with
  | zero =>
    intro ids hn _
    obtain rfl := List.eq_nil_of_length_eq_zero hn
    rfl
  | succ n ih =>
    intro ids hn h
    rcases List.eq_nil_or_concat ids with rfl | ⟨ids, i, rfl⟩
    · simp at hn
    · rw [List.concat_eq_append] at *
      rw [wholeP_snoc, ih ids (by simpa using hn) (fun x hx => h x (List.mem_append_left _ hx)), asmL_snoc]
      conv => lhs; rw [← h i (by simp)]
      exact join_fp _ _
theorem fstL_some {T : List CH} : ∀ (n : Nat) (T : List CH), T.length = n → ∀ i ∈ T.map (·.1), (asc (fstL T) i).isSome = true := by
  intro n
  induction n with
  | zero =>
    intro T hn i hi
    obtain rfl := List.eq_nil_of_length_eq_zero hn
    cases hi
  | succ n ih =>
    intro T hn i hi
    rcases List.eq_nil_or_concat T with rfl | ⟨T, e, rfl⟩
    · simp at hn
    · rw [List.concat_eq_append] at *
      have h0 := ih T (by simpa using hn)
      rw [List.map_append, List.mem_append] at hi
      rw [fstL_snoc]
      split
      · rename_i hs
        rcases hi with hi | hi
        · exact h0 i hi
        · have : i = e.1 := by simpa using hi
          rw [this]
          exact hs
      · rw [asc_setL]
        split
        · rfl
        · rename_i hne
          rcases hi with hi | hi
          · exact h0 i hi
          · have : i = e.1 := by simpa using hi
            exact absurd this.symm hne
theorem rst_get {S T : List CH} {ids : List ID} (hT : T.map (·.1) = firsts ids) (hx : ∀ e ∈ T, ∃ x, firstR S e.1 = some x ∧ x.2.bs = e.2.bs) : (∀ i ∈ ids, ∃ e, asc (fstL T) i = some e ∧ fpOf e.bs = i) ∧ wholeP ids = fpOf (asmL T ids) := by
  have h1 : ∀ i ∈ ids, ∃ e, asc (fstL T) i = some e ∧ fpOf e.bs = i := fun i hi => by
    have h2 := fstL_some (T := T) _ T rfl i (by rw [hT]; exact (firsts_mem _ _).2 hi)
    obtain ⟨e, he⟩ := Option.isSome_iff_exists.1 h2
    refine ⟨e, he, ?_⟩
    obtain ⟨x, h3, h4⟩ := hx _ (fstL_mem he)
    obtain ⟨_, h5, _⟩ := firstR_id h3
    rw [← h4]
    exact h5
  refine ⟨h1, whole_asm _ ids rfl (fun i hi => ?_)⟩
  obtain ⟨e, h2, h3⟩ := h1 i hi
  rw [byL, h2]
  exact h3
theorem asm_okid {T : List CH} {ids : List ID} (hT : T.map (·.1) = firsts ids) (hok : ∀ i ∈ ids, okID i) : ∀ e ∈ T, okID e.1 := fun e he => hok _ ((firsts_mem _ _).1 (by rw [← hT]; exact List.mem_map.2 ⟨e, he, rfl⟩))
theorem setR_same {a b : List ID} (h : ∀ i, i ∈ a ↔ i ∈ b) : setR a = setR b := by
  have key : ∀ {x y : List ID}, AscI x → AscI y → (∀ i, i ∈ x ↔ i ∈ y) → x = y := by
    intro x
    induction x with
    | nil =>
      intro y _ _ h
      cases y with
      | nil => rfl
      | cons c y => exact absurd ((h c).2 (.head _)) (by simp)
    | cons c x ih =>
      intro y hx hy h
      cases y with
      | nil => exact absurd ((h c).1 (.head _)) (by simp)
      | cons d y =>
        obtain ⟨x1, x2⟩ := List.pairwise_cons.1 hx
        obtain ⟨y1, y2⟩ := List.pairwise_cons.1 hy
        have irr : ∀ i : ID, ltID i i ≠ true := fun i => by simp [ltID]
        have hcd : c = d := by
          rcases List.mem_cons.1 ((h c).1 (.head _)) with e | e
          · exact e
          · rcases List.mem_cons.1 ((h d).2 (.head _)) with e' | e'
            · exact e'.symm
            · exact absurd (ltI_trans (x1 d e') (y1 c e)) (irr c)
        subst hcd
        congr 1
        refine ih x2 y2 (fun i => ⟨fun hi => ?_, fun hi => ?_⟩)
        · rcases List.mem_cons.1 ((h i).1 (.tail _ hi)) with e | e
          · exact absurd (x1 i hi) (by rw [e]; exact irr c)
          · exact e
        · rcases List.mem_cons.1 ((h i).2 (.tail _ hi)) with e | e
          · exact absurd (y1 i hi) (by rw [e]; exact irr c)
          · exact e
  exact key (setR_strict a) (setR_strict b) (fun i => by rw [setR_mem, setR_mem, h])
theorem selR_fst {ids : List ID} {T : List CH} (ha : AllR ids T) : (selR ids T).map (·.1) = ids := by
  rw [selR, List.map_map]
  conv => rhs; rw [← List.map_id ids]
  refine List.map_congr_left fun i hi => ?_
  obtain ⟨x, hx⟩ := Option.isSome_iff_exists.1 (ha i hi)
  simp only [Function.comp, hx, Option.getD_some, id]
  exact (firstR_id hx).1
theorem selR_mem2 {ids : List ID} {T : List CH} (ha : AllR ids T) : ∀ e ∈ selR ids T, e.1 ∈ ids ∧ fpOf e.2.bs = e.1 ∧ firstR T e.1 = some e := fun e he => by
  obtain ⟨i, hi, rfl⟩ := List.mem_map.1 he
  obtain ⟨x, hx⟩ := Option.isSome_iff_exists.1 (ha i hi)
  rw [hx, Option.getD_some]
  obtain ⟨h1, h2, _⟩ := firstR_id hx
  refine ⟨by rw [h1]; exact hi, by rw [h2, h1], by rw [h1]; exact hx⟩
theorem sel_again {ids : List ID} {T : List CH} (hs : AscI ids) (ha : AllR ids T) : AllR ids (selR ids T) ∧ selR ids (selR ids T) = selR ids T := by
  have h1 : ∀ i ∈ ids, firstR (selR ids T) i = firstR T i := fun i hi => by
    obtain ⟨x, hx⟩ := Option.isSome_iff_exists.1 (ha i hi)
    have hm : x ∈ selR ids T := List.mem_map.2 ⟨i, hi, by rw [hx]; rfl⟩
    obtain ⟨e1, e2, _⟩ := firstR_id hx
    have hsome : (firstR (selR ids T) i).isSome = true := by
      rw [firstR, List.find?_isSome]
      exact ⟨x, hm, by rw [rightB, decide_eq_true_eq]; exact ⟨e1, e2⟩⟩
    obtain ⟨y, hy⟩ := Option.isSome_iff_exists.1 hsome
    obtain ⟨f1, _, fm⟩ := firstR_id hy
    have := (selR_mem2 ha y fm).2.2
    rw [hy, ← this, f1]
  refine ⟨fun i hi => by rw [h1 i hi]; exact ha i hi, ?_⟩
  rw [selR]
  conv => rhs; rw [selR]
  exact List.map_congr_left fun i hi => by rw [h1 i hi]
theorem vol_put {ms ys : List Man} {T : List CH} (hok : ∀ m ∈ ms, ManOk m) (hone : OneM ms) (hc : ConM ms ys) (ha : AllR (setR (idsOf ms)) T) (hl : (packP (selR (setR (idsOf ms)) T)).length ≤ 1048576) (hn : ys.length < 18446744073709551616) :
    opnV (volB ys (selR (setR (idsOf ms)) T)) = some (ys, pcs (selR (setR (idsOf ms)) T)) ∧ VolOk (volB ys (selR (setR (idsOf ms)) T)) := by
  have hy : ∀ m ∈ ys, ManOk m := fun m hm => hok m ((hc.2 m).1 hm)
  have hokT : ∀ e ∈ selR (setR (idsOf ms)) T, okCH e = true := fun e he => by
    obtain ⟨h1, h2, _⟩ := selR_mem2 ha e he
    rw [setR_mem] at h1
    obtain ⟨m, hm, hi⟩ := List.mem_flatMap.1 h1
    have h3 := okI_of (hok m hm) _ hi
    have h4 := chunkB_sound (List.all_eq_true.1 (manE_zero (hok m hm).1).1 _ hi)
    rw [okCH, decide_eq_true_eq]
    exact ⟨by omega, by omega, h2⟩
  have hasc : AscI ((selR (setR (idsOf ms)) T).map (·.1)) := by rw [selR_fst ha]; exact setR_strict _
  have h1 : opnV (volB ys (selR (setR (idsOf ms)) T)) = some (ys, pcs (selR (setR (idsOf ms)) T)) := by
    rw [volB, opnV_put ys _ hy hn, decP_put hokT hasc hl]
    rfl
  have hset : setR (idsOf ys) = setR (idsOf ms) := setR_same (fun i => by
    simp only [idsOf, List.mem_flatMap]
    exact ⟨fun ⟨m, hm, hi⟩ => ⟨m, (hc.2 m).1 hm, hi⟩, fun ⟨m, hm, hi⟩ => ⟨m, (hc.2 m).2 hm, hi⟩⟩)
  obtain ⟨g1, g2⟩ := sel_again (setR_strict (idsOf ms)) ha
  refine ⟨h1, ys, ys, _, h1, fun a h b h' => hone a ((hc.2 a).1 h) b ((hc.2 b).1 h'), ⟨hc.1, fun _ => Iff.rfl⟩, by rw [hset]; exact g1, ?_⟩
  rw [hset, g2]
theorem vol_back {ms ys ms' ys' : List Man} {T S : List CH} (ho : opnV (volB ys (selR (setR (idsOf ms)) T)) = some (ys, pcs (selR (setR (idsOf ms)) T))) (hc : ConM ms ys) (ho' : opnV (volB ys (selR (setR (idsOf ms)) T)) = some (ms', pcs S)) (hc' : ConM ms' ys') : ys' = ys ∧ ms' = ys := by
  rw [ho] at ho'
  injection ho' with h
  injection h with h1 _
  subst h1
  exact ⟨conM_uniq hc' ⟨hc.1, fun _ => Iff.rfl⟩, rfl⟩
theorem volB_len {ys : List Man} {S : List CH} (hy : ∀ m ∈ ys, ManOk m) (hn : ys.length ≤ 20) (hl : (packP S).length ≤ 1048576) : (volB ys S).length ≤ 3000000 := by
  have key : ∀ l : List Man, (∀ m ∈ l, ManOk m) → (l.flatMap partB).length ≤ 20510 * l.length := by
    intro l
    induction l with
    | nil => intro _; simp
    | cons m l ih =>
      intro h
      have h1 := ih (fun x hx => h x (.tail _ hx))
      have h2 := manB_len (h m (.head _)).1 (h m (.head _)).2
      have h3 := putU_ten (v := (manB m).length) (by omega)
      rw [List.flatMap_cons, List.length_append, List.length_cons, partB, List.length_append]
      omega
  have h1 := key ys hy
  have h2 := putU_ten (v := ys.length) (by omega)
  rw [volB, volH]
  simp only [List.length_append, List.length_cons, List.length_nil]
  omega
end Go.Proofs.YtmiknfneeipkeaaGreat
