/- RP in one text. -/
import Derived.Test.YteabgcollokgjaaGreatDoorQ26
import Derived.Test.YteabgcollokgjaaGreatDoorQ25
import Derived.BigRegion
set_option linter.unusedSimpArgs false
set_option linter.unusedVariables false
namespace Go.Proofs.YteabgcollokgjaaGreatDoor
open Go.RowKit Go.MapKept Go.ChangeMaps Go.Shelf Go.Sort

theorem info65 : (Tryz.prog.info? 65).map (fun i => (i.zero, i.size, i.bytes)) = some (some (.agg #[.int .u64 0, .int .i64 0, .slice none 0 0]), 3, 40) := by kernel_rfl
theorem info4 : (Tryz.prog.info? 4).map (fun i => (i.zero, i.size, i.bytes)) = some (some (.bool false), 1, 1) := by kernel_rfl
theorem sz65 (w : World) : (sizeOf 65).run Tryz.prog w = .ok 3 w := by kernel_rfl
theorem sz4 (w : World) : (sizeOf 4).run Tryz.prog w = .ok 1 w := by kernel_rfl
def RS3 (r : R3) (s2 s7 : Nat) (i : ID) (d2 : BD) (w' : World) : Prop := w'.cell? ⟨s2, 0, none⟩ = some (.slice r.A r.E.length r.c) ∧ w'.cell? ⟨s2, 1, none⟩ = some (.slice r.B r.E.length r.k) ∧ w'.cell? ⟨s7, 0, none⟩ = some (.int .u64 i.1) ∧ w'.cell? ⟨s7, 1, none⟩ = some (.int .i64 i.2) ∧ w'.cell? ⟨s7, 2, none⟩ = some (.slice d2.A d2.len d2.cap) ∧ R3Ok w' r
abbrev RPutN (r : R3) (bs : List UInt8) (w : World) (e : Ending) (w' : World) : Prop :=
 ∃ r' d', e = .returned (.tuple #[.agg #[.slice r'.A r'.E.length r'.c, .slice r'.B r'.E.length r'.k], .agg #[.int .u64 (fpOf bs).1, .int .i64 (fpOf bs).2], .int .i64 0]) ∧ R3Ok w' r' ∧ r'.E = putE r.E ⟨fpOf bs, d', bs, true⟩ ∧ Below w.heap.size w w' ∧ ∀ i, (r3Ob r').rd i → w.heap.size ≤ i ∨ (r3Ob r).rd i
theorem flat_take {α : Type} {enc : α → List Value} {k : Nat} (hk : ∀ x, (enc x).length = k) (l : List α) (K : Nat) : (l.flatMap enc).take (K * k) = (l.take K).flatMap enc ∧ (l.flatMap enc).drop (K * k) = (l.drop K).flatMap enc := by
 induction l generalizing K with
 | nil => simp
 | cons x l ih =>
  cases K with
  | zero => simp
  | succ K =>
   obtain ⟨h1, h2⟩ := ih K
   have e : (K + 1) * k = (enc x).length + K * k := by rw [hk, Nat.succ_mul]; omega
   rw [List.flatMap_cons, List.take_succ_cons, List.drop_succ_cons, List.flatMap_cons, e, List.take_length_add_append, List.drop_length_add_append, h1, h2]
   exact ⟨rfl, rfl⟩
theorem encK_one (l : List RE) : ∀ u ∈ l.flatMap encK, u.oneCell' = true := fun u hu => by
 obtain ⟨e, _, hu⟩ := List.mem_flatMap.1 hu
 simp [encK] at hu
 rcases hu with rfl | rfl | rfl <;> rfl
theorem encP_one (l : List RE) : ∀ u ∈ l.flatMap encP, u.oneCell' = true := fun u hu => by
 obtain ⟨e, _, hu⟩ := List.mem_flatMap.1 hu
 simp [encP] at hu
 rw [hu]
 rfl
theorem one_src {w : World} {g : Nat} {v : Value} (h : w.cell? ⟨g, 0, none⟩ = some v) : ∀ j u, [v][j]? = some u → w.cell? ((⟨g, 0, none⟩ : Addr).add j) = some u := fun j u hu => by
 match j, hu with
 | 0, hu =>
  rw [lit_add, h]
  simpa using hu
 | j + 1, hu => simp at hu
theorem rput_ok {w' : World} {r : R3} {i : ID} {d2 : BD} {bs : List UInt8} {K gA cA gB cB M : Nat} (hK : atI r.E i = K) (hM : 0 + K + 1 + (r.E.length - K) = M)
 (hA : w'.ownsRow 0 65 3 (.slice (some ⟨gA, 0, none⟩) M cA) M ((([] ++ (r.E.flatMap encK).take (K * 3)) ++ [.int .u64 i.1, .int .i64 i.2, .slice d2.A d2.len d2.cap]) ++ (r.E.flatMap encK).drop (K * 3)))
 (hB : w'.ownsRow 0 4 1 (.slice (some ⟨gB, 0, none⟩) M cB) M ((([] ++ (r.E.flatMap encP).take (K * 1)) ++ [.bool true]) ++ (r.E.flatMap encP).drop (K * 1)))
 (hb : RB w' d2 bs) (ho : R3Ok w' r) (hl : r.E.length < 4096) : (putE r.E ⟨i, d2, bs, true⟩).length = M ∧ R3Ok w' ⟨some ⟨gA, 0, none⟩, cA, some ⟨gB, 0, none⟩, cB, putE r.E ⟨i, d2, bs, true⟩⟩ := by
 subst hM
 have hKl := atI_le r.E i
 rw [hK] at hKl
 have hlen : (putE r.E ⟨i, d2, bs, true⟩).length = 0 + K + 1 + (r.E.length - K) := by
  unfold putE
  rw [hK, List.length_append, List.length_cons, List.length_take, List.length_drop]
  omega
 obtain ⟨tA, dA⟩ := flat_take encK_len r.E K
 obtain ⟨tB, dB⟩ := flat_take encP_len r.E K
 have eA : ((([] ++ (r.E.flatMap encK).take (K * 3)) ++ [.int .u64 i.1, .int .i64 i.2, .slice d2.A d2.len d2.cap]) ++ (r.E.flatMap encK).drop (K * 3)) = (putE r.E ⟨i, d2, bs, true⟩).flatMap encK := by
  unfold putE
  rw [hK, tA, dA, List.flatMap_append, List.flatMap_cons]
  simp [encK]
 have eB : ((([] ++ (r.E.flatMap encP).take (K * 1)) ++ [.bool true]) ++ (r.E.flatMap encP).drop (K * 1)) = (putE r.E ⟨i, d2, bs, true⟩).flatMap encP := by
  unfold putE
  rw [hK, tB, dB, List.flatMap_append, List.flatMap_cons]
  simp [encP]
 rw [eA, ← hlen] at hA
 rw [eB, ← hlen] at hB
 obtain ⟨a1, a2⟩ := RowV.of_own hA
 obtain ⟨b1, b2⟩ := RowV.of_own hB
 refine ⟨hlen, a1, b1, a2, b2, by rw [hlen]; omega, fun e he => ?_⟩
 rcases putE_mem.1 he with rfl | he
 · exact hb
 · exact ho.bytes e he
theorem rsOb_lt {w : World} {A : Option Addr} {bs : List UInt8} (h : RS w A bs) {i : Nat} (hi : (rsOb A bs).rd i) : i < w.heap.size := by
 obtain ⟨hp, o, e⟩ := hi
 obtain ⟨g, o', e', hc⟩ := h.2 _ e
 injection e' with e1 e2
 rw [e1]
 exact World.block_lt_of_cell? _ _ (hc 0 hp)
/-- What the rows hold on the way. -/
abbrev x1 (r : R3) (K : Nat) : List Value := [] ++ (r.E.flatMap encK).take (K * 3)
abbrev x2 (r : R3) (K : Nat) (i : ID) (d2 : BD) : List Value := x1 r K ++ [.int .u64 i.1, .int .i64 i.2, .slice d2.A d2.len d2.cap]
abbrev x3 (r : R3) (K : Nat) (i : ID) (d2 : BD) : List Value := x2 r K i d2 ++ (r.E.flatMap encK).drop (K * 3)
abbrev y1 (r : R3) (K : Nat) : List Value := [] ++ (r.E.flatMap encP).take (K * 1)
abbrev y2 (r : R3) (K : Nat) : List Value := y1 r K ++ [.bool true]
abbrev y3 (r : R3) (K : Nat) : List Value := y2 r K ++ (r.E.flatMap encP).drop (K * 1)
abbrev PXi (w : World) (bl : List Ob) (i : ID) (d2 : BD) := PX w.heap.size w bl #[.int .u64 i.1, .int .i64 i.2, .slice d2.A d2.len d2.cap]
abbrev xl (w w3 : World) (r : R3) (d d2 : BD) (bs : List UInt8) (i : ID) (K M gA cA gB cB G6 G18 : Nat) : List Ob := [rowOb 65 3 (.slice (some ⟨gA, 0, none⟩) M cA) M (x3 r K i d2), rowOb 4 1 (.slice (some ⟨gB, 0, none⟩) M cB) M (y3 r K), cellOb G6 65 #[.int .u64 i.1, .int .i64 i.2, .slice d2.A d2.len d2.cap], cellOb G18 4 #[.bool true], cellOb w3.heap.size 65 #[.int .u64 i.1, .int .i64 i.2, .slice d2.A d2.len d2.cap], bufOb d2 bs, cellOb (w.heap.size + 2) 31 #[.int .u64 0, .int .i64 0], cellOb (w.heap.size + 1) 54 #[.slice none 0 0, .slice none 0 0], cellOb w.heap.size 54 #[.slice r.A r.E.length r.c, .slice r.B r.E.length r.k], rsOb d.A bs, r3Ob r]
set_option maxRecDepth 100000 in
set_option maxHeartbeats 16000000 in
theorem rPut_new {w : World} {r : R3} (h : R3Ok w r) (d : BD) (bs : List UInt8) (hb : RB w d bs) (h1 : 1 ≤ bs.length) (h2 : bs.length ≤ 8192) (hno : hasAt r.E (fpOf bs) = false) (hlen : r.E.length < 4096) :
 Calls Tryz.prog 36 #[.agg #[.slice r.A r.E.length r.c, .slice r.B r.E.length r.k], .slice d.A d.len d.cap] w (RPutN r bs w) := by
 have hdl : d.len = bs.length := hb.1.symm
 rw [hdl]
 have HRB := Lib.hid hb
 have S0 : Hid (SW w.heap.size w [rsOb d.A bs, r3Ob r] w) := (SW.startR h).also (o' := rsOb d.A bs) hb.rs (fun _ h => h) (fun _ h' => rsOb_lt hb.rs h') (fun i _ y hy => by
  rcases List.mem_cons.1 hy with rfl | hy
  · exact fun h => h
  · cases hy)
 have S1 := Lib.hid (((S0.out.newCell 54 #[.slice r.A r.E.length r.c, .slice r.B r.E.length r.k]).newCellAt 54 #[.slice none 0 0, .slice none 0 0] (H := w.heap.size + 1) (by simp)).newCellAt 31 #[.int .u64 0, .int .i64 0] (H := w.heap.size + 2) (by simp))
 generalize hN : bs.length = N at h1 h2
 have HN := Lib.hid hN
 have hd1 : decide ((N : Int) < 1) = false := decide_eq_false (by omega)
 have hd2 : decide ((N : Int) > 8192) = false := decide_eq_false (by omega)
 obtain ⟨W1, HW1⟩ : ∃ W1, Hid (((w.alloc (.cells #[.slice r.A r.E.length r.c, .slice r.B r.E.length r.k] 54)).alloc (.cells #[.slice none 0 0, .slice none 0 0] 54)).alloc (.cells #[.int .u64 0, .int .i64 0] 31) = W1) := ⟨_, rfl⟩
 rw [HW1.out] at S1
 have HOF := Lib.hid (rOf_any d.A d.cap bs W1 (S1.out.get 3 (o := rsOb d.A bs) rfl) (by omega))
 rw [hN] at HOF
 obtain ⟨i, HI⟩ : ∃ i, Hid (fpOf bs = i) := ⟨_, rfl⟩
 rw [HI.out] at HOF hno
 have HNO := Lib.hid hno
 clear hN h hb hno hdl
 unfold RPutN
 rw [HI.out]
 go_enter Tryz.func36, Tryz.ntmps36
 go_upto_region 3 with fail
 rw [HW1.out]
 go_wp2_with (first | (go_at_call 94; (with_reducible refine HOF.out.mono ?_); refine halt_ ?_) | (at_builtin; refine halt_ ?_))
 rintro e2 w2 ⟨rfl, hb2⟩
 have S2 := Lib.hid (S1.out.on hb2)
 clear hb2 HOF S1
 have HRB2 := Lib.hid (HRB.out.on S2.out.2)
 go_wp2_with (at_builtin; refine halt_ ?_)
 refine wpList_append_bytes rfl _ _ rfl ⟨none, 0, 0⟩ [] rfl (rb_nil w2) d.A d.cap bs (by rw [HN.out]; rfl) HRB2.out.src (by have := HN.out; simp only [List.length_nil]; omega) ?_
 intro d2 w3 hl2 happ
 clear hl2
 have S3 : Hid (SW w.heap.size w [bufOb d2 bs, cellOb (w.heap.size + 2) 31 #[.int .u64 0, .int .i64 0], cellOb (w.heap.size + 1) 54 #[.slice none 0 0, .slice none 0 0], cellOb w.heap.size 54 #[.slice r.A r.E.length r.c, .slice r.B r.E.length r.k], rsOb d.A bs, r3Ob r] w3) := S2.out.newBuf.appB 0 rfl happ
 unfold vB
 have S4 := Lib.hid (S3.out.newCell 65 #[.int .u64 i.1, .int .i64 i.2, .slice d2.A d2.len d2.cap])
 have HAT := Lib.hid (At_any (S4.out.get 6 (o := r3Ob r) rfl) i)
 obtain ⟨K, HK⟩ : ∃ K, Hid (atI r.E i = K) := ⟨_, rfl⟩
 have hK := atI_le r.E i
 rw [HK.out] at HAT hK
 rw [HNO.out] at HAT
 have d0 : (w3.alloc (.cells #[.int .u64 i.1, .int .i64 i.2, .slice d2.A d2.len d2.cap] 65)).cell? ⟨w3.heap.size, 0, none⟩ = some (.int .u64 i.1) := (S4.out.cell 0 rfl).cell 0
 have d1 : (w3.alloc (.cells #[.int .u64 i.1, .int .i64 i.2, .slice d2.A d2.len d2.cap] 65)).cell? ⟨w3.heap.size, 1, none⟩ = some (.int .i64 i.2) := (S4.out.cell 0 rfl).cell 1
 have c0 : (w3.alloc (.cells #[.int .u64 i.1, .int .i64 i.2, .slice d2.A d2.len d2.cap] 65)).cell? ⟨w.heap.size, 0, none⟩ = some (.slice r.A r.E.length r.c) := (S4.out.cell 4 rfl).cell 0
 have c1 : (w3.alloc (.cells #[.int .u64 i.1, .int .i64 i.2, .slice d2.A d2.len d2.cap] 65)).cell? ⟨w.heap.size, 1, none⟩ = some (.slice r.B r.E.length r.k) := (S4.out.cell 4 rfl).cell 1
 clear happ S2 S3
 go_wp2_with (go_at_call 95; (with_reducible refine HAT.out.mono ?_); refine halt_ ?_)
 rintro e4 w4 ⟨rfl, hb4⟩
 have S5 := Lib.hid (S4.out.on hb4)
 clear hb4 HAT S4 d0 d1 c0 c1
 obtain ⟨n, Hn⟩ : ∃ n, Hid (r.E.length = n) := ⟨_, rfl⟩
 have c0 := (S5.out.cell 4 rfl).cell 0
 have c1 := (S5.out.cell 4 rfl).cell 1
 have hd3 : decide ((r.E.length : Int) ≥ 4096) = false := decide_eq_false (by omega)
 go_upto_region 11 with fail
 obtain ⟨bl, HBL⟩ : ∃ bl, Hid ([cellOb w3.heap.size 65 #[.int .u64 i.1, .int .i64 i.2, .slice d2.A d2.len d2.cap], bufOb d2 bs, cellOb (w.heap.size + 2) 31 #[.int .u64 0, .int .i64 0], cellOb (w.heap.size + 1) 54 #[.slice none 0 0, .slice none 0 0], cellOb w.heap.size 54 #[.slice r.A r.E.length r.c, .slice r.B r.E.length r.k], rsOb d.A bs, r3Ob r] = bl) := ⟨_, rfl⟩
 have HC : Hid (∀ w', SW w.heap.size w bl w' → RS3 r w.heap.size w3.heap.size i d2 w') := fun w' h => by
  rw [← HBL.out] at h
  exact ⟨(h.cell 4 rfl).cell 0, (h.cell 4 rfl).cell 1, (h.cell 0 rfl).cell 0, (h.cell 0 rfl).cell 1, (h.cell 0 rfl).cell 2, h.get 6 (o := r3Ob r) rfl⟩
 rw [HBL.out] at S5
 have hok := (HC.out _ S5.out).2.2.2.2.2
 have hs57 := fun W => slice_to (w := W) 51 65 3 r.A r.E.length r.c K Tryz.underlying51 sz65 hK hok.c
 have hs70 := fun W => slice_to (w := W) 52 4 1 r.B r.E.length r.k K Tryz.underlying52 sz4 hK hok.k
 obtain ⟨A3, hs65, hA3⟩ := slice_from 51 65 3 r.A r.E.length r.c K Tryz.underlying51 sz65 hK hok.c
 obtain ⟨B3, hs77, hB3⟩ := slice_from 52 4 1 r.B r.E.length r.k K Tryz.underlying52 sz4 hK hok.k
 have X0 : PXi w bl i d2 (.slice none 0 0) 0 [] (.slice none 0 0) 0 [] none none w4.drew := (S5.out.drew.newRow 4 1).newRow 65 3
 clear c0 c1 hd3
 refine wp_region_tree 30 (.take 0 (.take 1 (.take 2 (.take 3 (.take 5 (.take 8 (.take 9 (.take 10 (.take 11 (.take 13 (.take 14 (.take 15 (.take 16 (.take 20 (.take 21 (.take 22 (.take 23 (.take 26 (.take 27 (.three 4 (.two 6 (.two 7 (.two 12 (.two 17 (.one 18 (.one 19 (.one 24 (.take 25 (.one 28 (.one 29 .nil)))))) 18 (.one 17 (.one 19 (.one 24 (.take 25 (.one 28 (.one 29 .nil))))))) 18 (.one 12 (.one 17 (.one 19 (.one 24 (.take 25 (.one 28 (.one 29 .nil)))))))) 18 (.one 7 (.one 12 (.one 17 (.one 19 (.one 24 (.take 25 (.one 28 (.one 29 .nil))))))))) 18 (.one 6 (.one 7 (.one 12 (.one 17 (.one 19 (.one 24 (.take 25 (.one 28 (.one 29 .nil)))))))))) 6 (.two 4 (.two 7 (.two 12 (.two 17 (.one 18 (.one 19 (.one 24 (.take 25 (.one 28 (.one 29 .nil)))))) 18 (.one 17 (.one 19 (.one 24 (.take 25 (.one 28 (.one 29 .nil))))))) 18 (.one 12 (.one 17 (.one 19 (.one 24 (.take 25 (.one 28 (.one 29 .nil)))))))) 18 (.one 7 (.one 12 (.one 17 (.one 19 (.one 24 (.take 25 (.one 28 (.one 29 .nil))))))))) 18 (.one 4 (.one 7 (.one 12 (.one 17 (.one 19 (.one 24 (.take 25 (.one 28 (.one 29 .nil)))))))))) 18 (.two 4 (.one 6 (.one 7 (.one 12 (.one 17 (.one 19 (.one 24 (.take 25 (.one 28 (.one 29 .nil))))))))) 6 (.one 4 (.one 7 (.one 12 (.one 17 (.one 19 (.one 24 (.take 25 (.one 28 (.one 29 .nil)))))))))))))))))))))))))))))) (RS3 r w.heap.size w3.heap.size i d2) (by kernel_rfl) (fun _ _ d _ _ h => by cases d <;> exact h) (by kernel_rfl) (HC.out _ S5.out.drew) ?_
 generalize w4.drew = wd at X0 ⊢
 obtain ⟨iA, giA, gA0, gA1, gA2⟩ := info_parts info65
 obtain ⟨iB, giB, gB0, gB1, gB2⟩ := info_parts info4
 have lA1 : ((r.E.flatMap encK).take (K * 3)).length = K * 3 := by rw [List.length_take, flat_len encK_len]; omega
 have lA3 : ((r.E.flatMap encK).drop (K * 3)).length = (r.E.length - K) * 3 := by rw [List.length_drop, flat_len encK_len]; omega
 have lB1 : ((r.E.flatMap encP).take (K * 1)).length = K * 1 := by rw [List.length_take, flat_len encP_len]; omega
 have lB3 : ((r.E.flatMap encP).drop (K * 1)).length = (r.E.length - K) * 1 := by rw [List.length_drop, flat_len encP_len]; omega
 have oA1 : ∀ u ∈ (r.E.flatMap encK).take (K * 3), u.oneCell' = true := fun u hu => encK_one r.E u (List.take_subset _ _ hu)
 have oA3 : ∀ u ∈ (r.E.flatMap encK).drop (K * 3), u.oneCell' = true := fun u hu => encK_one r.E u (List.drop_subset _ _ hu)
 have oB1 : ∀ u ∈ (r.E.flatMap encP).take (K * 1), u.oneCell' = true := fun u hu => encP_one r.E u (List.take_subset _ _ hu)
 have oB3 : ∀ u ∈ (r.E.flatMap encP).drop (K * 1), u.oneCell' = true := fun u hu => encP_one r.E u (List.drop_subset _ _ hu)
 iterate 19
  refine wpTr_takeL rfl ?_ (Or.inl ⟨by rfl, ?_⟩) ?_
  rotate_left
  · (intro w' hSw; obtain ⟨h1, h2, h3, h4, h5, _⟩ := hSw; go_simp; try with_reducible rfl)
  try simp only [Act.put, List.setIfInBounds_toArray, List.set]
 refine wpTr_three ?_ ?_ ?_
 · refine wpTr_runL rfl (fun K' hK' => ?_)
   refine step_rowM (t := 51) (e := 65) (size := 3) (bytes := 40) (i := iA) X0 0 rfl (by rfl) _ _ (by rfl) Tryz.underlying51 giA gA0 gA1 gA2 rfl (by omega) (by rfl) r.A K r.c ((r.E.flatMap encK).take (K * 3)) (by rfl) lA1 (fun hp => (HC.out _ X0.bas).2.2.2.2.2.a.src_take hK hp) oA1 (by unfold maxLen; omega) (by omega) ?_
   intro a1 q1 s1
   have X1 : PXi w bl i d2 a1 (0 + K) (x1 r K) (.slice none 0 0) 0 [] none none q1 := s1
   refine hK'.out _ _ (HC.out _ X1.bas) ?_
   clear hK' K' s1 X0
   try simp only [Act.put, List.setIfInBounds_toArray, List.set]
   refine wpTr_two ?_ ?_
   · refine wpTr_runL rfl (fun K' hK' => ?_)
     have X2 := X1.six
     go_simp
     refine hK'.out _ _ (HC.out _ X2.bas) ?_
     clear hK' K' X1
     obtain ⟨G6, q2, e2, f2, Z2⟩ : ∃ G6 q2, Hid (_ = G6) ∧ Hid (_ = q2) ∧ PXi w bl i d2 a1 (0 + K) (x1 r K) (.slice none 0 0) 0 [] (some G6) none q2 := ⟨_, _, rfl, rfl, X2⟩
     rw [e2.out, f2.out]
     clear e2 f2 X2
     try simp only [Act.put, List.setIfInBounds_toArray, List.set]
     refine wpTr_two ?_ ?_
     · refine wpTr_runL rfl (fun K' hK' => ?_)
       refine step_rowM (t := 51) (e := 65) (size := 3) (bytes := 40) (i := iA) Z2 0 rfl (by rfl) _ _ (by rfl) Tryz.underlying51 giA gA0 gA1 gA2 rfl (by omega) (by rfl) (some ⟨G6, 0, none⟩) 1 1 [.int .u64 i.1, .int .i64 i.2, .slice d2.A d2.len d2.cap] (by rfl) rfl (fun _ => ⟨_, rfl, fun j u hu => by rw [lit_add, Nat.zero_add, Z2.cell6 j]; simpa using hu⟩) (by intro u hu; simp at hu; rcases hu with rfl | rfl | rfl <;> rfl) (by unfold maxLen; omega) (by omega) ?_
       intro a3 q3 s3
       have X3 : PXi w bl i d2 a3 (0 + K + 1) (x2 r K i d2) (.slice none 0 0) 0 [] (some G6) none q3 := s3
       refine hK'.out _ _ (HC.out _ X3.bas) ?_
       clear hK' K' s3 Z2
       try simp only [Act.put, List.setIfInBounds_toArray, List.set]
       refine wpTr_two ?_ ?_
       · refine wpTr_runL rfl (fun K' hK' => ?_)
         refine step_rowM (t := 51) (e := 65) (size := 3) (bytes := 40) (i := iA) X3 0 rfl (by rfl) _ _ (by rfl) Tryz.underlying51 giA gA0 gA1 gA2 rfl (by omega) (by rfl) A3 (r.E.length - K) (r.c - K) ((r.E.flatMap encK).drop (K * 3)) (by rfl) lA3 (fun hp => (HC.out _ X3.bas).2.2.2.2.2.a.src_drop hA3 hp) oA3 (by unfold maxLen; omega) (by omega) ?_
         intro a4 q4 s4
         have X4 : PXi w bl i d2 a4 (0 + K + 1 + (r.E.length - K)) (x3 r K i d2) (.slice none 0 0) 0 [] (some G6) none q4 := s4
         refine hK'.out _ _ (HC.out _ X4.bas) ?_
         clear hK' K' s4 X3
         try simp only [Act.put, List.setIfInBounds_toArray, List.set]
         refine wpTr_two ?_ ?_
         · refine wpTr_runL rfl (fun K' hK' => ?_)
           refine step_rowM (t := 52) (e := 4) (size := 1) (bytes := 1) (i := iB) X4 1 rfl (by rfl) _ _ (by rfl) Tryz.underlying52 giB gB0 gB1 gB2 rfl (by omega) (by rfl) r.B K r.k ((r.E.flatMap encP).take (K * 1)) (by rfl) lB1 (fun hp => (HC.out _ X4.bas).2.2.2.2.2.b.src_take hK hp) oB1 (by unfold maxLen; omega) (by omega) ?_
           intro b5 q5 s5
           have X5 : PXi w bl i d2 a4 (0 + K + 1 + (r.E.length - K)) (x3 r K i d2) b5 (0 + K) (y1 r K) (some G6) none q5 := s5
           refine hK'.out _ _ (HC.out _ X5.bas) ?_
           clear hK' K' s5 X4
           try simp only [Act.put, List.setIfInBounds_toArray, List.set]
           refine wpTr_one ?_
           refine wpTr_runL rfl (fun K' hK' => ?_)
           have X6 := X5.eight
           go_simp
           refine hK'.out _ _ (HC.out _ X6.bas) ?_
           clear hK' K' X5
           obtain ⟨G18, q6, e6, f6, Z6⟩ : ∃ G18 q6, Hid (_ = G18) ∧ Hid (_ = q6) ∧ PXi w bl i d2 a4 (0 + K + 1 + (r.E.length - K)) (x3 r K i d2) b5 (0 + K) (y1 r K) (some G6) (some G18) q6 := ⟨_, _, rfl, rfl, X6⟩
           rw [e6.out, f6.out]
           clear e6 f6 X6
           try simp only [Act.put, List.setIfInBounds_toArray, List.set]
           refine wpTr_one ?_
           refine wpTr_runL rfl (fun K' hK' => ?_)
           refine step_rowM (t := 52) (e := 4) (size := 1) (bytes := 1) (i := iB) Z6 1 rfl (by rfl) _ _ (by rfl) Tryz.underlying52 giB gB0 gB1 gB2 rfl (by omega) (by rfl) (some ⟨G18, 0, none⟩) 1 1 [.bool true] (by rfl) rfl (fun _ => ⟨_, rfl, one_src Z6.cell18⟩) (by intro u hu; simp at hu; rw [hu]; rfl) (by unfold maxLen; omega) (by omega) ?_
           intro b7 q7 s7
           have X7 : PXi w bl i d2 a4 (0 + K + 1 + (r.E.length - K)) (x3 r K i d2) b7 (0 + K + 1) (y2 r K) (some G6) (some G18) q7 := s7
           refine hK'.out _ _ (HC.out _ X7.bas) ?_
           clear hK' K' s7 Z6
           try simp only [Act.put, List.setIfInBounds_toArray, List.set]
           refine wpTr_one ?_
           refine wpTr_runL rfl (fun K' hK' => ?_)
           refine step_rowM (t := 52) (e := 4) (size := 1) (bytes := 1) (i := iB) X7 1 rfl (by rfl) _ _ (by rfl) Tryz.underlying52 giB gB0 gB1 gB2 rfl (by omega) (by rfl) B3 (r.E.length - K) (r.k - K) ((r.E.flatMap encP).drop (K * 1)) (by rfl) lB3 (fun hp => (HC.out _ X7.bas).2.2.2.2.2.b.src_drop hB3 hp) oB3 (by unfold maxLen; omega) (by omega) ?_
           intro b8 q8 s8
           have X8 : PXi w bl i d2 a4 (0 + K + 1 + (r.E.length - K)) (x3 r K i d2) b8 (0 + K + 1 + (r.E.length - K)) (y3 r K) (some G6) (some G18) q8 := s8
           refine hK'.out _ _ (HC.out _ X8.bas) ?_
           clear hK' K' s8 X7
           try simp only [Act.put, List.setIfInBounds_toArray, List.set]
           obtain ⟨gA, cA, rfl⟩ := own_some X8.rows.1 (by omega)
           obtain ⟨gB, cB, rfl⟩ := own_some X8.rows.2 (by omega)
           obtain ⟨M, hM⟩ : ∃ M, 0 + K + 1 + (r.E.length - K) = M := ⟨_, rfl⟩
           rw [hM] at X8
           simp only [hM]
           have HM := Lib.hid hM
           clear hM
           refine wpTr_takeL rfl ?_ (Or.inl ⟨by rfl, ?_⟩) ?_
           rotate_left
           · (intro w' hSw; obtain ⟨h1, h2, h3, h4, h5, _⟩ := hSw; go_simp; try with_reducible rfl)
           try simp only [Act.put, List.setIfInBounds_toArray, List.set]
           rw [← HBL.out] at X8
           have XS : SW w.heap.size w (xl w w3 r d d2 bs i K M gA cA gB cB G6 G18) _ := X8
           have z0 := (XS.cell 7 rfl).cell 0
           have z1 := (XS.cell 7 rfl).cell 1
           have f0 := (XS.cell 7 rfl).frozen 0
           have f1 := (XS.cell 7 rfl).frozen 1
           have XT := (XS.setAt 7 rfl 0 (.slice (some ⟨gA, 0, none⟩) M cA)).setAt 7 rfl 1 (.slice (some ⟨gB, 0, none⟩) M cB)
           refine wpTr_one ?_
           refine wpTr_runL rfl (fun K' hK' => ?_)
           go_simp
           refine hK'.out _ _ ⟨(XT.cell 8 rfl).cell 0, (XT.cell 8 rfl).cell 1, (XT.cell 4 rfl).cell 0, (XT.cell 4 rfl).cell 1, (XT.cell 4 rfl).cell 2, XT.get 10 (o := r3Ob r) rfl⟩ ?_
           clear hK' K' z0 z1 f0 f1 X8 XS
           try simp only [Act.put, List.setIfInBounds_toArray, List.set]
           have z0 := (XT.cell 6 rfl).cell 0
           have z1 := (XT.cell 6 rfl).cell 1
           have f0 := (XT.cell 6 rfl).frozen 0
           have f1 := (XT.cell 6 rfl).frozen 1
           have XU := (XT.setAt 6 rfl 0 (.int .u64 i.1)).setAt 6 rfl 1 (.int .i64 i.2)
           refine wpTr_one ?_
           refine wpTr_runL rfl (fun K' hK' => ?_)
           go_simp
           refine hK'.out _ _ ⟨(XU.cell 8 rfl).cell 0, (XU.cell 8 rfl).cell 1, (XU.cell 4 rfl).cell 0, (XU.cell 4 rfl).cell 1, (XU.cell 4 rfl).cell 2, XU.get 10 (o := r3Ob r) rfl⟩ ?_
           clear hK' K' z0 z1 f0 f1 XT
           try simp only [Act.put, List.setIfInBounds_toArray, List.set]
           refine wpTr_nil ?_
           simp only [List.drop_succ_cons, List.drop_zero]
           have e0 := (XU.cell 7 rfl).cell 0
           have e1 := (XU.cell 7 rfl).cell 1
           have e2 := (XU.cell 6 rfl).cell 0
           have e3 := (XU.cell 6 rfl).cell 1
           go_wp2_with fail
           obtain ⟨hl, hok'⟩ := rput_ok HK.out HM.out (XU.get 0 rfl) (XU.get 1 rfl) (XU.get 5 (o := bufOb d2 bs) rfl) (XU.get 10 (o := r3Ob r) rfl) hlen
           refine bodyPost_ret (v := .tuple #[.agg #[.slice (some ⟨gA, 0, none⟩) M cA, .slice (some ⟨gB, 0, none⟩) M cB], .agg #[.int .u64 i.1, .int .i64 i.2], .int .i64 0]) ?_ rfl ?_
           · simp [results, Tryz.results36, go_sem, e0, e1, e2, e3]
           · refine ⟨⟨some ⟨gA, 0, none⟩, cA, some ⟨gB, 0, none⟩, cB, putE r.E ⟨i, d2, bs, true⟩⟩, d2, ?_, hok', rfl, XU.2, fun j hj => ?_⟩
             · show _ = Ending.returned (.tuple #[.agg #[.slice (some ⟨gA, 0, none⟩) (putE r.E ⟨i, d2, bs, true⟩).length cA, .slice (some ⟨gB, 0, none⟩) (putE r.E ⟨i, d2, bs, true⟩).length cB], .agg #[.int .u64 i.1, .int .i64 i.2], .int .i64 0])
               rw [hl]
             · rcases hj with ⟨_, e | e⟩ | ⟨f, hf, e⟩
               · injection e with e
                 injection e with e
                 subst e
                 exact .inl (XU.1.own_ge (k := 0) rfl rfl).1
               · injection e with e
                 injection e with e
                 subst e
                 exact .inl (XU.1.own_ge (k := 1) rfl rfl).1
               · rcases putE_mem.1 hf with rfl | hf
                 · exact .inl (XU.1.own_ge (k := 5) (o := bufOb d2 bs) rfl e).1
                 · exact .inr (.inr ⟨f, hf, e⟩)
         · refine wpTr_runL rfl (fun K' hK' => ?_)
           have X9 := X4.eight
           go_simp
           refine hK'.out _ _ (HC.out _ X9.bas) ?_
           clear hK' K' X4
           obtain ⟨G18, q9, e9, f9, Z9⟩ : ∃ G18 q9, Hid (_ = G18) ∧ Hid (_ = q9) ∧ PXi w bl i d2 a4 (0 + K + 1 + (r.E.length - K)) (x3 r K i d2) (.slice none 0 0) 0 [] (some G6) (some G18) q9 := ⟨_, _, rfl, rfl, X9⟩
           rw [e9.out, f9.out]
           clear e9 f9 X9
           try simp only [Act.put, List.setIfInBounds_toArray, List.set]
           refine wpTr_one ?_
           refine wpTr_runL rfl (fun K' hK' => ?_)
           refine step_rowM (t := 52) (e := 4) (size := 1) (bytes := 1) (i := iB) Z9 1 rfl (by rfl) _ _ (by rfl) Tryz.underlying52 giB gB0 gB1 gB2 rfl (by omega) (by rfl) r.B K r.k ((r.E.flatMap encP).take (K * 1)) (by rfl) lB1 (fun hp => (HC.out _ Z9.bas).2.2.2.2.2.b.src_take hK hp) oB1 (by unfold maxLen; omega) (by omega) ?_
           intro b10 q10 s10
           have X10 : PXi w bl i d2 a4 (0 + K + 1 + (r.E.length - K)) (x3 r K i d2) b10 (0 + K) (y1 r K) (some G6) (some G18) q10 := s10
           refine hK'.out _ _ (HC.out _ X10.bas) ?_
           clear hK' K' s10 Z9
           try simp only [Act.put, List.setIfInBounds_toArray, List.set]
           refine wpTr_one ?_
           refine wpTr_runL rfl (fun K' hK' => ?_)
           refine step_rowM (t := 52) (e := 4) (size := 1) (bytes := 1) (i := iB) X10 1 rfl (by rfl) _ _ (by rfl) Tryz.underlying52 giB gB0 gB1 gB2 rfl (by omega) (by rfl) (some ⟨G18, 0, none⟩) 1 1 [.bool true] (by rfl) rfl (fun _ => ⟨_, rfl, one_src X10.cell18⟩) (by intro u hu; simp at hu; rw [hu]; rfl) (by unfold maxLen; omega) (by omega) ?_
           intro b11 q11 s11
           have X11 : PXi w bl i d2 a4 (0 + K + 1 + (r.E.length - K)) (x3 r K i d2) b11 (0 + K + 1) (y2 r K) (some G6) (some G18) q11 := s11
           refine hK'.out _ _ (HC.out _ X11.bas) ?_
           clear hK' K' s11 X10
           try simp only [Act.put, List.setIfInBounds_toArray, List.set]
           refine wpTr_one ?_
           refine wpTr_runL rfl (fun K' hK' => ?_)
           refine step_rowM (t := 52) (e := 4) (size := 1) (bytes := 1) (i := iB) X11 1 rfl (by rfl) _ _ (by rfl) Tryz.underlying52 giB gB0 gB1 gB2 rfl (by omega) (by rfl) B3 (r.E.length - K) (r.k - K) ((r.E.flatMap encP).drop (K * 1)) (by rfl) lB3 (fun hp => (HC.out _ X11.bas).2.2.2.2.2.b.src_drop hB3 hp) oB3 (by unfold maxLen; omega) (by omega) ?_
           intro b12 q12 s12
           have X12 : PXi w bl i d2 a4 (0 + K + 1 + (r.E.length - K)) (x3 r K i d2) b12 (0 + K + 1 + (r.E.length - K)) (y3 r K) (some G6) (some G18) q12 := s12
           refine hK'.out _ _ (HC.out _ X12.bas) ?_
           clear hK' K' s12 X11
           try simp only [Act.put, List.setIfInBounds_toArray, List.set]
           obtain ⟨gA, cA, rfl⟩ := own_some X12.rows.1 (by omega)
           obtain ⟨gB, cB, rfl⟩ := own_some X12.rows.2 (by omega)
           obtain ⟨M, hM⟩ : ∃ M, 0 + K + 1 + (r.E.length - K) = M := ⟨_, rfl⟩
           rw [hM] at X12
           simp only [hM]
           have HM := Lib.hid hM
           clear hM
           refine wpTr_takeL rfl ?_ (Or.inl ⟨by rfl, ?_⟩) ?_
           rotate_left
           · (intro w' hSw; obtain ⟨h1, h2, h3, h4, h5, _⟩ := hSw; go_simp; try with_reducible rfl)
           try simp only [Act.put, List.setIfInBounds_toArray, List.set]
           rw [← HBL.out] at X12
           have XS : SW w.heap.size w (xl w w3 r d d2 bs i K M gA cA gB cB G6 G18) _ := X12
           have z0 := (XS.cell 7 rfl).cell 0
           have z1 := (XS.cell 7 rfl).cell 1
           have f0 := (XS.cell 7 rfl).frozen 0
           have f1 := (XS.cell 7 rfl).frozen 1
           have XT := (XS.setAt 7 rfl 0 (.slice (some ⟨gA, 0, none⟩) M cA)).setAt 7 rfl 1 (.slice (some ⟨gB, 0, none⟩) M cB)
           refine wpTr_one ?_
           refine wpTr_runL rfl (fun K' hK' => ?_)
           go_simp
           refine hK'.out _ _ ⟨(XT.cell 8 rfl).cell 0, (XT.cell 8 rfl).cell 1, (XT.cell 4 rfl).cell 0, (XT.cell 4 rfl).cell 1, (XT.cell 4 rfl).cell 2, XT.get 10 (o := r3Ob r) rfl⟩ ?_
           clear hK' K' z0 z1 f0 f1 X12 XS
           try simp only [Act.put, List.setIfInBounds_toArray, List.set]
           have z0 := (XT.cell 6 rfl).cell 0
           have z1 := (XT.cell 6 rfl).cell 1
           have f0 := (XT.cell 6 rfl).frozen 0
           have f1 := (XT.cell 6 rfl).frozen 1
           have XU := (XT.setAt 6 rfl 0 (.int .u64 i.1)).setAt 6 rfl 1 (.int .i64 i.2)
           refine wpTr_one ?_
           refine wpTr_runL rfl (fun K' hK' => ?_)
           go_simp
           refine hK'.out _ _ ⟨(XU.cell 8 rfl).cell 0, (XU.cell 8 rfl).cell 1, (XU.cell 4 rfl).cell 0, (XU.cell 4 rfl).cell 1, (XU.cell 4 rfl).cell 2, XU.get 10 (o := r3Ob r) rfl⟩ ?_
           clear hK' K' z0 z1 f0 f1 XT
           try simp only [Act.put, List.setIfInBounds_toArray, List.set]
           refine wpTr_nil ?_
           simp only [List.drop_succ_cons, List.drop_zero]
           have e0 := (XU.cell 7 rfl).cell 0
           have e1 := (XU.cell 7 rfl).cell 1
           have e2 := (XU.cell 6 rfl).cell 0
           have e3 := (XU.cell 6 rfl).cell 1
           go_wp2_with fail
           obtain ⟨hl, hok'⟩ := rput_ok HK.out HM.out (XU.get 0 rfl) (XU.get 1 rfl) (XU.get 5 (o := bufOb d2 bs) rfl) (XU.get 10 (o := r3Ob r) rfl) hlen
           refine bodyPost_ret (v := .tuple #[.agg #[.slice (some ⟨gA, 0, none⟩) M cA, .slice (some ⟨gB, 0, none⟩) M cB], .agg #[.int .u64 i.1, .int .i64 i.2], .int .i64 0]) ?_ rfl ?_
           · simp [results, Tryz.results36, go_sem, e0, e1, e2, e3]
           · refine ⟨⟨some ⟨gA, 0, none⟩, cA, some ⟨gB, 0, none⟩, cB, putE r.E ⟨i, d2, bs, true⟩⟩, d2, ?_, hok', rfl, XU.2, fun j hj => ?_⟩
             · show _ = Ending.returned (.tuple #[.agg #[.slice (some ⟨gA, 0, none⟩) (putE r.E ⟨i, d2, bs, true⟩).length cA, .slice (some ⟨gB, 0, none⟩) (putE r.E ⟨i, d2, bs, true⟩).length cB], .agg #[.int .u64 i.1, .int .i64 i.2], .int .i64 0])
               rw [hl]
             · rcases hj with ⟨_, e | e⟩ | ⟨f, hf, e⟩
               · injection e with e
                 injection e with e
                 subst e
                 exact .inl (XU.1.own_ge (k := 0) rfl rfl).1
               · injection e with e
                 injection e with e
                 subst e
                 exact .inl (XU.1.own_ge (k := 1) rfl rfl).1
               · rcases putE_mem.1 hf with rfl | hf
                 · exact .inl (XU.1.own_ge (k := 5) (o := bufOb d2 bs) rfl e).1
                 · exact .inr (.inr ⟨f, hf, e⟩)
       · refine wpTr_runL rfl (fun K' hK' => ?_)
         have X13 := X3.eight
         go_simp
         refine hK'.out _ _ (HC.out _ X13.bas) ?_
         clear hK' K' X3
         obtain ⟨G18, q13, e13, f13, Z13⟩ : ∃ G18 q13, Hid (_ = G18) ∧ Hid (_ = q13) ∧ PXi w bl i d2 a3 (0 + K + 1) (x2 r K i d2) (.slice none 0 0) 0 [] (some G6) (some G18) q13 := ⟨_, _, rfl, rfl, X13⟩
         rw [e13.out, f13.out]
         clear e13 f13 X13
         try simp only [Act.put, List.setIfInBounds_toArray, List.set]
         refine wpTr_one ?_
         refine wpTr_runL rfl (fun K' hK' => ?_)
         refine step_rowM (t := 51) (e := 65) (size := 3) (bytes := 40) (i := iA) Z13 0 rfl (by rfl) _ _ (by rfl) Tryz.underlying51 giA gA0 gA1 gA2 rfl (by omega) (by rfl) A3 (r.E.length - K) (r.c - K) ((r.E.flatMap encK).drop (K * 3)) (by rfl) lA3 (fun hp => (HC.out _ Z13.bas).2.2.2.2.2.a.src_drop hA3 hp) oA3 (by unfold maxLen; omega) (by omega) ?_
         intro a14 q14 s14
         have X14 : PXi w bl i d2 a14 (0 + K + 1 + (r.E.length - K)) (x3 r K i d2) (.slice none 0 0) 0 [] (some G6) (some G18) q14 := s14
         refine hK'.out _ _ (HC.out _ X14.bas) ?_
         clear hK' K' s14 Z13
         try simp only [Act.put, List.setIfInBounds_toArray, List.set]
         refine wpTr_one ?_
         refine wpTr_runL rfl (fun K' hK' => ?_)
         refine step_rowM (t := 52) (e := 4) (size := 1) (bytes := 1) (i := iB) X14 1 rfl (by rfl) _ _ (by rfl) Tryz.underlying52 giB gB0 gB1 gB2 rfl (by omega) (by rfl) r.B K r.k ((r.E.flatMap encP).take (K * 1)) (by rfl) lB1 (fun hp => (HC.out _ X14.bas).2.2.2.2.2.b.src_take hK hp) oB1 (by unfold maxLen; omega) (by omega) ?_
         intro b15 q15 s15
         have X15 : PXi w bl i d2 a14 (0 + K + 1 + (r.E.length - K)) (x3 r K i d2) b15 (0 + K) (y1 r K) (some G6) (some G18) q15 := s15
         refine hK'.out _ _ (HC.out _ X15.bas) ?_
         clear hK' K' s15 X14
         try simp only [Act.put, List.setIfInBounds_toArray, List.set]
         refine wpTr_one ?_
         refine wpTr_runL rfl (fun K' hK' => ?_)
         refine step_rowM (t := 52) (e := 4) (size := 1) (bytes := 1) (i := iB) X15 1 rfl (by rfl) _ _ (by rfl) Tryz.underlying52 giB gB0 gB1 gB2 rfl (by omega) (by rfl) (some ⟨G18, 0, none⟩) 1 1 [.bool true] (by rfl) rfl (fun _ => ⟨_, rfl, one_src X15.cell18⟩) (by intro u hu; simp at hu; rw [hu]; rfl) (by unfold maxLen; omega) (by omega) ?_
         intro b16 q16 s16
         have X16 : PXi w bl i d2 a14 (0 + K + 1 + (r.E.length - K)) (x3 r K i d2) b16 (0 + K + 1) (y2 r K) (some G6) (some G18) q16 := s16
         refine hK'.out _ _ (HC.out _ X16.bas) ?_
         clear hK' K' s16 X15
         try simp only [Act.put, List.setIfInBounds_toArray, List.set]
         refine wpTr_one ?_
         refine wpTr_runL rfl (fun K' hK' => ?_)
         refine step_rowM (t := 52) (e := 4) (size := 1) (bytes := 1) (i := iB) X16 1 rfl (by rfl) _ _ (by rfl) Tryz.underlying52 giB gB0 gB1 gB2 rfl (by omega) (by rfl) B3 (r.E.length - K) (r.k - K) ((r.E.flatMap encP).drop (K * 1)) (by rfl) lB3 (fun hp => (HC.out _ X16.bas).2.2.2.2.2.b.src_drop hB3 hp) oB3 (by unfold maxLen; omega) (by omega) ?_
         intro b17 q17 s17
         have X17 : PXi w bl i d2 a14 (0 + K + 1 + (r.E.length - K)) (x3 r K i d2) b17 (0 + K + 1 + (r.E.length - K)) (y3 r K) (some G6) (some G18) q17 := s17
         refine hK'.out _ _ (HC.out _ X17.bas) ?_
         clear hK' K' s17 X16
         try simp only [Act.put, List.setIfInBounds_toArray, List.set]
         obtain ⟨gA, cA, rfl⟩ := own_some X17.rows.1 (by omega)
         obtain ⟨gB, cB, rfl⟩ := own_some X17.rows.2 (by omega)
         obtain ⟨M, hM⟩ : ∃ M, 0 + K + 1 + (r.E.length - K) = M := ⟨_, rfl⟩
         rw [hM] at X17
         simp only [hM]
         have HM := Lib.hid hM
         clear hM
         refine wpTr_takeL rfl ?_ (Or.inl ⟨by rfl, ?_⟩) ?_
         rotate_left
         · (intro w' hSw; obtain ⟨h1, h2, h3, h4, h5, _⟩ := hSw; go_simp; try with_reducible rfl)
         try simp only [Act.put, List.setIfInBounds_toArray, List.set]
         rw [← HBL.out] at X17
         have XS : SW w.heap.size w (xl w w3 r d d2 bs i K M gA cA gB cB G6 G18) _ := X17
         have z0 := (XS.cell 7 rfl).cell 0
         have z1 := (XS.cell 7 rfl).cell 1
         have f0 := (XS.cell 7 rfl).frozen 0
         have f1 := (XS.cell 7 rfl).frozen 1
         have XT := (XS.setAt 7 rfl 0 (.slice (some ⟨gA, 0, none⟩) M cA)).setAt 7 rfl 1 (.slice (some ⟨gB, 0, none⟩) M cB)
         refine wpTr_one ?_
         refine wpTr_runL rfl (fun K' hK' => ?_)
         go_simp
         refine hK'.out _ _ ⟨(XT.cell 8 rfl).cell 0, (XT.cell 8 rfl).cell 1, (XT.cell 4 rfl).cell 0, (XT.cell 4 rfl).cell 1, (XT.cell 4 rfl).cell 2, XT.get 10 (o := r3Ob r) rfl⟩ ?_
         clear hK' K' z0 z1 f0 f1 X17 XS
         try simp only [Act.put, List.setIfInBounds_toArray, List.set]
         have z0 := (XT.cell 6 rfl).cell 0
         have z1 := (XT.cell 6 rfl).cell 1
         have f0 := (XT.cell 6 rfl).frozen 0
         have f1 := (XT.cell 6 rfl).frozen 1
         have XU := (XT.setAt 6 rfl 0 (.int .u64 i.1)).setAt 6 rfl 1 (.int .i64 i.2)
         refine wpTr_one ?_
         refine wpTr_runL rfl (fun K' hK' => ?_)
         go_simp
         refine hK'.out _ _ ⟨(XU.cell 8 rfl).cell 0, (XU.cell 8 rfl).cell 1, (XU.cell 4 rfl).cell 0, (XU.cell 4 rfl).cell 1, (XU.cell 4 rfl).cell 2, XU.get 10 (o := r3Ob r) rfl⟩ ?_
         clear hK' K' z0 z1 f0 f1 XT
         try simp only [Act.put, List.setIfInBounds_toArray, List.set]
         refine wpTr_nil ?_
         simp only [List.drop_succ_cons, List.drop_zero]
         have e0 := (XU.cell 7 rfl).cell 0
         have e1 := (XU.cell 7 rfl).cell 1
         have e2 := (XU.cell 6 rfl).cell 0
         have e3 := (XU.cell 6 rfl).cell 1
         go_wp2_with fail
         obtain ⟨hl, hok'⟩ := rput_ok HK.out HM.out (XU.get 0 rfl) (XU.get 1 rfl) (XU.get 5 (o := bufOb d2 bs) rfl) (XU.get 10 (o := r3Ob r) rfl) hlen
         refine bodyPost_ret (v := .tuple #[.agg #[.slice (some ⟨gA, 0, none⟩) M cA, .slice (some ⟨gB, 0, none⟩) M cB], .agg #[.int .u64 i.1, .int .i64 i.2], .int .i64 0]) ?_ rfl ?_
         · simp [results, Tryz.results36, go_sem, e0, e1, e2, e3]
         · refine ⟨⟨some ⟨gA, 0, none⟩, cA, some ⟨gB, 0, none⟩, cB, putE r.E ⟨i, d2, bs, true⟩⟩, d2, ?_, hok', rfl, XU.2, fun j hj => ?_⟩
           · show _ = Ending.returned (.tuple #[.agg #[.slice (some ⟨gA, 0, none⟩) (putE r.E ⟨i, d2, bs, true⟩).length cA, .slice (some ⟨gB, 0, none⟩) (putE r.E ⟨i, d2, bs, true⟩).length cB], .agg #[.int .u64 i.1, .int .i64 i.2], .int .i64 0])
             rw [hl]
           · rcases hj with ⟨_, e | e⟩ | ⟨f, hf, e⟩
             · injection e with e
               injection e with e
               subst e
               exact .inl (XU.1.own_ge (k := 0) rfl rfl).1
             · injection e with e
               injection e with e
               subst e
               exact .inl (XU.1.own_ge (k := 1) rfl rfl).1
             · rcases putE_mem.1 hf with rfl | hf
               · exact .inl (XU.1.own_ge (k := 5) (o := bufOb d2 bs) rfl e).1
               · exact .inr (.inr ⟨f, hf, e⟩)
     · refine wpTr_runL rfl (fun K' hK' => ?_)
       have X18 := Z2.eight
       go_simp
       refine hK'.out _ _ (HC.out _ X18.bas) ?_
       clear hK' K' Z2
       obtain ⟨G18, q18, e18, f18, Z18⟩ : ∃ G18 q18, Hid (_ = G18) ∧ Hid (_ = q18) ∧ PXi w bl i d2 a1 (0 + K) (x1 r K) (.slice none 0 0) 0 [] (some G6) (some G18) q18 := ⟨_, _, rfl, rfl, X18⟩
       rw [e18.out, f18.out]
       clear e18 f18 X18
       try simp only [Act.put, List.setIfInBounds_toArray, List.set]
       refine wpTr_one ?_
       refine wpTr_runL rfl (fun K' hK' => ?_)
       refine step_rowM (t := 51) (e := 65) (size := 3) (bytes := 40) (i := iA) Z18 0 rfl (by rfl) _ _ (by rfl) Tryz.underlying51 giA gA0 gA1 gA2 rfl (by omega) (by rfl) (some ⟨G6, 0, none⟩) 1 1 [.int .u64 i.1, .int .i64 i.2, .slice d2.A d2.len d2.cap] (by rfl) rfl (fun _ => ⟨_, rfl, fun j u hu => by rw [lit_add, Nat.zero_add, Z18.cell6 j]; simpa using hu⟩) (by intro u hu; simp at hu; rcases hu with rfl | rfl | rfl <;> rfl) (by unfold maxLen; omega) (by omega) ?_
       intro a19 q19 s19
       have X19 : PXi w bl i d2 a19 (0 + K + 1) (x2 r K i d2) (.slice none 0 0) 0 [] (some G6) (some G18) q19 := s19
       refine hK'.out _ _ (HC.out _ X19.bas) ?_
       clear hK' K' s19 Z18
       try simp only [Act.put, List.setIfInBounds_toArray, List.set]
       refine wpTr_one ?_
       refine wpTr_runL rfl (fun K' hK' => ?_)
       refine step_rowM (t := 51) (e := 65) (size := 3) (bytes := 40) (i := iA) X19 0 rfl (by rfl) _ _ (by rfl) Tryz.underlying51 giA gA0 gA1 gA2 rfl (by omega) (by rfl) A3 (r.E.length - K) (r.c - K) ((r.E.flatMap encK).drop (K * 3)) (by rfl) lA3 (fun hp => (HC.out _ X19.bas).2.2.2.2.2.a.src_drop hA3 hp) oA3 (by unfold maxLen; omega) (by omega) ?_
       intro a20 q20 s20
       have X20 : PXi w bl i d2 a20 (0 + K + 1 + (r.E.length - K)) (x3 r K i d2) (.slice none 0 0) 0 [] (some G6) (some G18) q20 := s20
       refine hK'.out _ _ (HC.out _ X20.bas) ?_
       clear hK' K' s20 X19
       try simp only [Act.put, List.setIfInBounds_toArray, List.set]
       refine wpTr_one ?_
       refine wpTr_runL rfl (fun K' hK' => ?_)
       refine step_rowM (t := 52) (e := 4) (size := 1) (bytes := 1) (i := iB) X20 1 rfl (by rfl) _ _ (by rfl) Tryz.underlying52 giB gB0 gB1 gB2 rfl (by omega) (by rfl) r.B K r.k ((r.E.flatMap encP).take (K * 1)) (by rfl) lB1 (fun hp => (HC.out _ X20.bas).2.2.2.2.2.b.src_take hK hp) oB1 (by unfold maxLen; omega) (by omega) ?_
       intro b21 q21 s21
       have X21 : PXi w bl i d2 a20 (0 + K + 1 + (r.E.length - K)) (x3 r K i d2) b21 (0 + K) (y1 r K) (some G6) (some G18) q21 := s21
       refine hK'.out _ _ (HC.out _ X21.bas) ?_
       clear hK' K' s21 X20
       try simp only [Act.put, List.setIfInBounds_toArray, List.set]
       refine wpTr_one ?_
       refine wpTr_runL rfl (fun K' hK' => ?_)
       refine step_rowM (t := 52) (e := 4) (size := 1) (bytes := 1) (i := iB) X21 1 rfl (by rfl) _ _ (by rfl) Tryz.underlying52 giB gB0 gB1 gB2 rfl (by omega) (by rfl) (some ⟨G18, 0, none⟩) 1 1 [.bool true] (by rfl) rfl (fun _ => ⟨_, rfl, one_src X21.cell18⟩) (by intro u hu; simp at hu; rw [hu]; rfl) (by unfold maxLen; omega) (by omega) ?_
       intro b22 q22 s22
       have X22 : PXi w bl i d2 a20 (0 + K + 1 + (r.E.length - K)) (x3 r K i d2) b22 (0 + K + 1) (y2 r K) (some G6) (some G18) q22 := s22
       refine hK'.out _ _ (HC.out _ X22.bas) ?_
       clear hK' K' s22 X21
       try simp only [Act.put, List.setIfInBounds_toArray, List.set]
       refine wpTr_one ?_
       refine wpTr_runL rfl (fun K' hK' => ?_)
       refine step_rowM (t := 52) (e := 4) (size := 1) (bytes := 1) (i := iB) X22 1 rfl (by rfl) _ _ (by rfl) Tryz.underlying52 giB gB0 gB1 gB2 rfl (by omega) (by rfl) B3 (r.E.length - K) (r.k - K) ((r.E.flatMap encP).drop (K * 1)) (by rfl) lB3 (fun hp => (HC.out _ X22.bas).2.2.2.2.2.b.src_drop hB3 hp) oB3 (by unfold maxLen; omega) (by omega) ?_
       intro b23 q23 s23
       have X23 : PXi w bl i d2 a20 (0 + K + 1 + (r.E.length - K)) (x3 r K i d2) b23 (0 + K + 1 + (r.E.length - K)) (y3 r K) (some G6) (some G18) q23 := s23
       refine hK'.out _ _ (HC.out _ X23.bas) ?_
       clear hK' K' s23 X22
       try simp only [Act.put, List.setIfInBounds_toArray, List.set]
       obtain ⟨gA, cA, rfl⟩ := own_some X23.rows.1 (by omega)
       obtain ⟨gB, cB, rfl⟩ := own_some X23.rows.2 (by omega)
       obtain ⟨M, hM⟩ : ∃ M, 0 + K + 1 + (r.E.length - K) = M := ⟨_, rfl⟩
       rw [hM] at X23
       simp only [hM]
       have HM := Lib.hid hM
       clear hM
       refine wpTr_takeL rfl ?_ (Or.inl ⟨by rfl, ?_⟩) ?_
       rotate_left
       · (intro w' hSw; obtain ⟨h1, h2, h3, h4, h5, _⟩ := hSw; go_simp; try with_reducible rfl)
       try simp only [Act.put, List.setIfInBounds_toArray, List.set]
       rw [← HBL.out] at X23
       have XS : SW w.heap.size w (xl w w3 r d d2 bs i K M gA cA gB cB G6 G18) _ := X23
       have z0 := (XS.cell 7 rfl).cell 0
       have z1 := (XS.cell 7 rfl).cell 1
       have f0 := (XS.cell 7 rfl).frozen 0
       have f1 := (XS.cell 7 rfl).frozen 1
       have XT := (XS.setAt 7 rfl 0 (.slice (some ⟨gA, 0, none⟩) M cA)).setAt 7 rfl 1 (.slice (some ⟨gB, 0, none⟩) M cB)
       refine wpTr_one ?_
       refine wpTr_runL rfl (fun K' hK' => ?_)
       go_simp
       refine hK'.out _ _ ⟨(XT.cell 8 rfl).cell 0, (XT.cell 8 rfl).cell 1, (XT.cell 4 rfl).cell 0, (XT.cell 4 rfl).cell 1, (XT.cell 4 rfl).cell 2, XT.get 10 (o := r3Ob r) rfl⟩ ?_
       clear hK' K' z0 z1 f0 f1 X23 XS
       try simp only [Act.put, List.setIfInBounds_toArray, List.set]
       have z0 := (XT.cell 6 rfl).cell 0
       have z1 := (XT.cell 6 rfl).cell 1
       have f0 := (XT.cell 6 rfl).frozen 0
       have f1 := (XT.cell 6 rfl).frozen 1
       have XU := (XT.setAt 6 rfl 0 (.int .u64 i.1)).setAt 6 rfl 1 (.int .i64 i.2)
       refine wpTr_one ?_
       refine wpTr_runL rfl (fun K' hK' => ?_)
       go_simp
       refine hK'.out _ _ ⟨(XU.cell 8 rfl).cell 0, (XU.cell 8 rfl).cell 1, (XU.cell 4 rfl).cell 0, (XU.cell 4 rfl).cell 1, (XU.cell 4 rfl).cell 2, XU.get 10 (o := r3Ob r) rfl⟩ ?_
       clear hK' K' z0 z1 f0 f1 XT
       try simp only [Act.put, List.setIfInBounds_toArray, List.set]
       refine wpTr_nil ?_
       simp only [List.drop_succ_cons, List.drop_zero]
       have e0 := (XU.cell 7 rfl).cell 0
       have e1 := (XU.cell 7 rfl).cell 1
       have e2 := (XU.cell 6 rfl).cell 0
       have e3 := (XU.cell 6 rfl).cell 1
       go_wp2_with fail
       obtain ⟨hl, hok'⟩ := rput_ok HK.out HM.out (XU.get 0 rfl) (XU.get 1 rfl) (XU.get 5 (o := bufOb d2 bs) rfl) (XU.get 10 (o := r3Ob r) rfl) hlen
       refine bodyPost_ret (v := .tuple #[.agg #[.slice (some ⟨gA, 0, none⟩) M cA, .slice (some ⟨gB, 0, none⟩) M cB], .agg #[.int .u64 i.1, .int .i64 i.2], .int .i64 0]) ?_ rfl ?_
       · simp [results, Tryz.results36, go_sem, e0, e1, e2, e3]
       · refine ⟨⟨some ⟨gA, 0, none⟩, cA, some ⟨gB, 0, none⟩, cB, putE r.E ⟨i, d2, bs, true⟩⟩, d2, ?_, hok', rfl, XU.2, fun j hj => ?_⟩
         · show _ = Ending.returned (.tuple #[.agg #[.slice (some ⟨gA, 0, none⟩) (putE r.E ⟨i, d2, bs, true⟩).length cA, .slice (some ⟨gB, 0, none⟩) (putE r.E ⟨i, d2, bs, true⟩).length cB], .agg #[.int .u64 i.1, .int .i64 i.2], .int .i64 0])
           rw [hl]
         · rcases hj with ⟨_, e | e⟩ | ⟨f, hf, e⟩
           · injection e with e
             injection e with e
             subst e
             exact .inl (XU.1.own_ge (k := 0) rfl rfl).1
           · injection e with e
             injection e with e
             subst e
             exact .inl (XU.1.own_ge (k := 1) rfl rfl).1
           · rcases putE_mem.1 hf with rfl | hf
             · exact .inl (XU.1.own_ge (k := 5) (o := bufOb d2 bs) rfl e).1
             · exact .inr (.inr ⟨f, hf, e⟩)
   · refine wpTr_runL rfl (fun K' hK' => ?_)
     have X24 := X1.eight
     go_simp
     refine hK'.out _ _ (HC.out _ X24.bas) ?_
     clear hK' K' X1
     obtain ⟨G18, q24, e24, f24, Z24⟩ : ∃ G18 q24, Hid (_ = G18) ∧ Hid (_ = q24) ∧ PXi w bl i d2 a1 (0 + K) (x1 r K) (.slice none 0 0) 0 [] none (some G18) q24 := ⟨_, _, rfl, rfl, X24⟩
     rw [e24.out, f24.out]
     clear e24 f24 X24
     try simp only [Act.put, List.setIfInBounds_toArray, List.set]
     refine wpTr_one ?_
     refine wpTr_runL rfl (fun K' hK' => ?_)
     have X25 := Z24.six
     go_simp
     refine hK'.out _ _ (HC.out _ X25.bas) ?_
     clear hK' K' Z24
     obtain ⟨G6, q25, e25, f25, Z25⟩ : ∃ G6 q25, Hid (_ = G6) ∧ Hid (_ = q25) ∧ PXi w bl i d2 a1 (0 + K) (x1 r K) (.slice none 0 0) 0 [] (some G6) (some G18) q25 := ⟨_, _, rfl, rfl, X25⟩
     rw [e25.out, f25.out]
     clear e25 f25 X25
     try simp only [Act.put, List.setIfInBounds_toArray, List.set]
     refine wpTr_one ?_
     refine wpTr_runL rfl (fun K' hK' => ?_)
     refine step_rowM (t := 51) (e := 65) (size := 3) (bytes := 40) (i := iA) Z25 0 rfl (by rfl) _ _ (by rfl) Tryz.underlying51 giA gA0 gA1 gA2 rfl (by omega) (by rfl) (some ⟨G6, 0, none⟩) 1 1 [.int .u64 i.1, .int .i64 i.2, .slice d2.A d2.len d2.cap] (by rfl) rfl (fun _ => ⟨_, rfl, fun j u hu => by rw [lit_add, Nat.zero_add, Z25.cell6 j]; simpa using hu⟩) (by intro u hu; simp at hu; rcases hu with rfl | rfl | rfl <;> rfl) (by unfold maxLen; omega) (by omega) ?_
     intro a26 q26 s26
     have X26 : PXi w bl i d2 a26 (0 + K + 1) (x2 r K i d2) (.slice none 0 0) 0 [] (some G6) (some G18) q26 := s26
     refine hK'.out _ _ (HC.out _ X26.bas) ?_
     clear hK' K' s26 Z25
     try simp only [Act.put, List.setIfInBounds_toArray, List.set]
     refine wpTr_one ?_
     refine wpTr_runL rfl (fun K' hK' => ?_)
     refine step_rowM (t := 51) (e := 65) (size := 3) (bytes := 40) (i := iA) X26 0 rfl (by rfl) _ _ (by rfl) Tryz.underlying51 giA gA0 gA1 gA2 rfl (by omega) (by rfl) A3 (r.E.length - K) (r.c - K) ((r.E.flatMap encK).drop (K * 3)) (by rfl) lA3 (fun hp => (HC.out _ X26.bas).2.2.2.2.2.a.src_drop hA3 hp) oA3 (by unfold maxLen; omega) (by omega) ?_
     intro a27 q27 s27
     have X27 : PXi w bl i d2 a27 (0 + K + 1 + (r.E.length - K)) (x3 r K i d2) (.slice none 0 0) 0 [] (some G6) (some G18) q27 := s27
     refine hK'.out _ _ (HC.out _ X27.bas) ?_
     clear hK' K' s27 X26
     try simp only [Act.put, List.setIfInBounds_toArray, List.set]
     refine wpTr_one ?_
     refine wpTr_runL rfl (fun K' hK' => ?_)
     refine step_rowM (t := 52) (e := 4) (size := 1) (bytes := 1) (i := iB) X27 1 rfl (by rfl) _ _ (by rfl) Tryz.underlying52 giB gB0 gB1 gB2 rfl (by omega) (by rfl) r.B K r.k ((r.E.flatMap encP).take (K * 1)) (by rfl) lB1 (fun hp => (HC.out _ X27.bas).2.2.2.2.2.b.src_take hK hp) oB1 (by unfold maxLen; omega) (by omega) ?_
     intro b28 q28 s28
     have X28 : PXi w bl i d2 a27 (0 + K + 1 + (r.E.length - K)) (x3 r K i d2) b28 (0 + K) (y1 r K) (some G6) (some G18) q28 := s28
     refine hK'.out _ _ (HC.out _ X28.bas) ?_
     clear hK' K' s28 X27
     try simp only [Act.put, List.setIfInBounds_toArray, List.set]
     refine wpTr_one ?_
     refine wpTr_runL rfl (fun K' hK' => ?_)
     refine step_rowM (t := 52) (e := 4) (size := 1) (bytes := 1) (i := iB) X28 1 rfl (by rfl) _ _ (by rfl) Tryz.underlying52 giB gB0 gB1 gB2 rfl (by omega) (by rfl) (some ⟨G18, 0, none⟩) 1 1 [.bool true] (by rfl) rfl (fun _ => ⟨_, rfl, one_src X28.cell18⟩) (by intro u hu; simp at hu; rw [hu]; rfl) (by unfold maxLen; omega) (by omega) ?_
     intro b29 q29 s29
     have X29 : PXi w bl i d2 a27 (0 + K + 1 + (r.E.length - K)) (x3 r K i d2) b29 (0 + K + 1) (y2 r K) (some G6) (some G18) q29 := s29
     refine hK'.out _ _ (HC.out _ X29.bas) ?_
     clear hK' K' s29 X28
     try simp only [Act.put, List.setIfInBounds_toArray, List.set]
     refine wpTr_one ?_
     refine wpTr_runL rfl (fun K' hK' => ?_)
     refine step_rowM (t := 52) (e := 4) (size := 1) (bytes := 1) (i := iB) X29 1 rfl (by rfl) _ _ (by rfl) Tryz.underlying52 giB gB0 gB1 gB2 rfl (by omega) (by rfl) B3 (r.E.length - K) (r.k - K) ((r.E.flatMap encP).drop (K * 1)) (by rfl) lB3 (fun hp => (HC.out _ X29.bas).2.2.2.2.2.b.src_drop hB3 hp) oB3 (by unfold maxLen; omega) (by omega) ?_
     intro b30 q30 s30
     have X30 : PXi w bl i d2 a27 (0 + K + 1 + (r.E.length - K)) (x3 r K i d2) b30 (0 + K + 1 + (r.E.length - K)) (y3 r K) (some G6) (some G18) q30 := s30
     refine hK'.out _ _ (HC.out _ X30.bas) ?_
     clear hK' K' s30 X29
     try simp only [Act.put, List.setIfInBounds_toArray, List.set]
     obtain ⟨gA, cA, rfl⟩ := own_some X30.rows.1 (by omega)
     obtain ⟨gB, cB, rfl⟩ := own_some X30.rows.2 (by omega)
     obtain ⟨M, hM⟩ : ∃ M, 0 + K + 1 + (r.E.length - K) = M := ⟨_, rfl⟩
     rw [hM] at X30
     simp only [hM]
     have HM := Lib.hid hM
     clear hM
     refine wpTr_takeL rfl ?_ (Or.inl ⟨by rfl, ?_⟩) ?_
     rotate_left
     · (intro w' hSw; obtain ⟨h1, h2, h3, h4, h5, _⟩ := hSw; go_simp; try with_reducible rfl)
     try simp only [Act.put, List.setIfInBounds_toArray, List.set]
     rw [← HBL.out] at X30
     have XS : SW w.heap.size w (xl w w3 r d d2 bs i K M gA cA gB cB G6 G18) _ := X30
     have z0 := (XS.cell 7 rfl).cell 0
     have z1 := (XS.cell 7 rfl).cell 1
     have f0 := (XS.cell 7 rfl).frozen 0
     have f1 := (XS.cell 7 rfl).frozen 1
     have XT := (XS.setAt 7 rfl 0 (.slice (some ⟨gA, 0, none⟩) M cA)).setAt 7 rfl 1 (.slice (some ⟨gB, 0, none⟩) M cB)
     refine wpTr_one ?_
     refine wpTr_runL rfl (fun K' hK' => ?_)
     go_simp
     refine hK'.out _ _ ⟨(XT.cell 8 rfl).cell 0, (XT.cell 8 rfl).cell 1, (XT.cell 4 rfl).cell 0, (XT.cell 4 rfl).cell 1, (XT.cell 4 rfl).cell 2, XT.get 10 (o := r3Ob r) rfl⟩ ?_
     clear hK' K' z0 z1 f0 f1 X30 XS
     try simp only [Act.put, List.setIfInBounds_toArray, List.set]
     have z0 := (XT.cell 6 rfl).cell 0
     have z1 := (XT.cell 6 rfl).cell 1
     have f0 := (XT.cell 6 rfl).frozen 0
     have f1 := (XT.cell 6 rfl).frozen 1
     have XU := (XT.setAt 6 rfl 0 (.int .u64 i.1)).setAt 6 rfl 1 (.int .i64 i.2)
     refine wpTr_one ?_
     refine wpTr_runL rfl (fun K' hK' => ?_)
     go_simp
     refine hK'.out _ _ ⟨(XU.cell 8 rfl).cell 0, (XU.cell 8 rfl).cell 1, (XU.cell 4 rfl).cell 0, (XU.cell 4 rfl).cell 1, (XU.cell 4 rfl).cell 2, XU.get 10 (o := r3Ob r) rfl⟩ ?_
     clear hK' K' z0 z1 f0 f1 XT
     try simp only [Act.put, List.setIfInBounds_toArray, List.set]
     refine wpTr_nil ?_
     simp only [List.drop_succ_cons, List.drop_zero]
     have e0 := (XU.cell 7 rfl).cell 0
     have e1 := (XU.cell 7 rfl).cell 1
     have e2 := (XU.cell 6 rfl).cell 0
     have e3 := (XU.cell 6 rfl).cell 1
     go_wp2_with fail
     obtain ⟨hl, hok'⟩ := rput_ok HK.out HM.out (XU.get 0 rfl) (XU.get 1 rfl) (XU.get 5 (o := bufOb d2 bs) rfl) (XU.get 10 (o := r3Ob r) rfl) hlen
     refine bodyPost_ret (v := .tuple #[.agg #[.slice (some ⟨gA, 0, none⟩) M cA, .slice (some ⟨gB, 0, none⟩) M cB], .agg #[.int .u64 i.1, .int .i64 i.2], .int .i64 0]) ?_ rfl ?_
     · simp [results, Tryz.results36, go_sem, e0, e1, e2, e3]
     · refine ⟨⟨some ⟨gA, 0, none⟩, cA, some ⟨gB, 0, none⟩, cB, putE r.E ⟨i, d2, bs, true⟩⟩, d2, ?_, hok', rfl, XU.2, fun j hj => ?_⟩
       · show _ = Ending.returned (.tuple #[.agg #[.slice (some ⟨gA, 0, none⟩) (putE r.E ⟨i, d2, bs, true⟩).length cA, .slice (some ⟨gB, 0, none⟩) (putE r.E ⟨i, d2, bs, true⟩).length cB], .agg #[.int .u64 i.1, .int .i64 i.2], .int .i64 0])
         rw [hl]
       · rcases hj with ⟨_, e | e⟩ | ⟨f, hf, e⟩
         · injection e with e
           injection e with e
           subst e
           exact .inl (XU.1.own_ge (k := 0) rfl rfl).1
         · injection e with e
           injection e with e
           subst e
           exact .inl (XU.1.own_ge (k := 1) rfl rfl).1
         · rcases putE_mem.1 hf with rfl | hf
           · exact .inl (XU.1.own_ge (k := 5) (o := bufOb d2 bs) rfl e).1
           · exact .inr (.inr ⟨f, hf, e⟩)
 · refine wpTr_runL rfl (fun K' hK' => ?_)
   have X31 := X0.six
   go_simp
   refine hK'.out _ _ (HC.out _ X31.bas) ?_
   clear hK' K' X0
   obtain ⟨G6, q31, e31, f31, Z31⟩ : ∃ G6 q31, Hid (_ = G6) ∧ Hid (_ = q31) ∧ PXi w bl i d2 (.slice none 0 0) 0 [] (.slice none 0 0) 0 [] (some G6) none q31 := ⟨_, _, rfl, rfl, X31⟩
   rw [e31.out, f31.out]
   clear e31 f31 X31
   try simp only [Act.put, List.setIfInBounds_toArray, List.set]
   refine wpTr_two ?_ ?_
   · refine wpTr_runL rfl (fun K' hK' => ?_)
     refine step_rowM (t := 51) (e := 65) (size := 3) (bytes := 40) (i := iA) Z31 0 rfl (by rfl) _ _ (by rfl) Tryz.underlying51 giA gA0 gA1 gA2 rfl (by omega) (by rfl) r.A K r.c ((r.E.flatMap encK).take (K * 3)) (by rfl) lA1 (fun hp => (HC.out _ Z31.bas).2.2.2.2.2.a.src_take hK hp) oA1 (by unfold maxLen; omega) (by omega) ?_
     intro a32 q32 s32
     have X32 : PXi w bl i d2 a32 (0 + K) (x1 r K) (.slice none 0 0) 0 [] (some G6) none q32 := s32
     refine hK'.out _ _ (HC.out _ X32.bas) ?_
     clear hK' K' s32 Z31
     try simp only [Act.put, List.setIfInBounds_toArray, List.set]
     refine wpTr_two ?_ ?_
     · refine wpTr_runL rfl (fun K' hK' => ?_)
       refine step_rowM (t := 51) (e := 65) (size := 3) (bytes := 40) (i := iA) X32 0 rfl (by rfl) _ _ (by rfl) Tryz.underlying51 giA gA0 gA1 gA2 rfl (by omega) (by rfl) (some ⟨G6, 0, none⟩) 1 1 [.int .u64 i.1, .int .i64 i.2, .slice d2.A d2.len d2.cap] (by rfl) rfl (fun _ => ⟨_, rfl, fun j u hu => by rw [lit_add, Nat.zero_add, X32.cell6 j]; simpa using hu⟩) (by intro u hu; simp at hu; rcases hu with rfl | rfl | rfl <;> rfl) (by unfold maxLen; omega) (by omega) ?_
       intro a33 q33 s33
       have X33 : PXi w bl i d2 a33 (0 + K + 1) (x2 r K i d2) (.slice none 0 0) 0 [] (some G6) none q33 := s33
       refine hK'.out _ _ (HC.out _ X33.bas) ?_
       clear hK' K' s33 X32
       try simp only [Act.put, List.setIfInBounds_toArray, List.set]
       refine wpTr_two ?_ ?_
       · refine wpTr_runL rfl (fun K' hK' => ?_)
         refine step_rowM (t := 51) (e := 65) (size := 3) (bytes := 40) (i := iA) X33 0 rfl (by rfl) _ _ (by rfl) Tryz.underlying51 giA gA0 gA1 gA2 rfl (by omega) (by rfl) A3 (r.E.length - K) (r.c - K) ((r.E.flatMap encK).drop (K * 3)) (by rfl) lA3 (fun hp => (HC.out _ X33.bas).2.2.2.2.2.a.src_drop hA3 hp) oA3 (by unfold maxLen; omega) (by omega) ?_
         intro a34 q34 s34
         have X34 : PXi w bl i d2 a34 (0 + K + 1 + (r.E.length - K)) (x3 r K i d2) (.slice none 0 0) 0 [] (some G6) none q34 := s34
         refine hK'.out _ _ (HC.out _ X34.bas) ?_
         clear hK' K' s34 X33
         try simp only [Act.put, List.setIfInBounds_toArray, List.set]
         refine wpTr_two ?_ ?_
         · refine wpTr_runL rfl (fun K' hK' => ?_)
           refine step_rowM (t := 52) (e := 4) (size := 1) (bytes := 1) (i := iB) X34 1 rfl (by rfl) _ _ (by rfl) Tryz.underlying52 giB gB0 gB1 gB2 rfl (by omega) (by rfl) r.B K r.k ((r.E.flatMap encP).take (K * 1)) (by rfl) lB1 (fun hp => (HC.out _ X34.bas).2.2.2.2.2.b.src_take hK hp) oB1 (by unfold maxLen; omega) (by omega) ?_
           intro b35 q35 s35
           have X35 : PXi w bl i d2 a34 (0 + K + 1 + (r.E.length - K)) (x3 r K i d2) b35 (0 + K) (y1 r K) (some G6) none q35 := s35
           refine hK'.out _ _ (HC.out _ X35.bas) ?_
           clear hK' K' s35 X34
           try simp only [Act.put, List.setIfInBounds_toArray, List.set]
           refine wpTr_one ?_
           refine wpTr_runL rfl (fun K' hK' => ?_)
           have X36 := X35.eight
           go_simp
           refine hK'.out _ _ (HC.out _ X36.bas) ?_
           clear hK' K' X35
           obtain ⟨G18, q36, e36, f36, Z36⟩ : ∃ G18 q36, Hid (_ = G18) ∧ Hid (_ = q36) ∧ PXi w bl i d2 a34 (0 + K + 1 + (r.E.length - K)) (x3 r K i d2) b35 (0 + K) (y1 r K) (some G6) (some G18) q36 := ⟨_, _, rfl, rfl, X36⟩
           rw [e36.out, f36.out]
           clear e36 f36 X36
           try simp only [Act.put, List.setIfInBounds_toArray, List.set]
           refine wpTr_one ?_
           refine wpTr_runL rfl (fun K' hK' => ?_)
           refine step_rowM (t := 52) (e := 4) (size := 1) (bytes := 1) (i := iB) Z36 1 rfl (by rfl) _ _ (by rfl) Tryz.underlying52 giB gB0 gB1 gB2 rfl (by omega) (by rfl) (some ⟨G18, 0, none⟩) 1 1 [.bool true] (by rfl) rfl (fun _ => ⟨_, rfl, one_src Z36.cell18⟩) (by intro u hu; simp at hu; rw [hu]; rfl) (by unfold maxLen; omega) (by omega) ?_
           intro b37 q37 s37
           have X37 : PXi w bl i d2 a34 (0 + K + 1 + (r.E.length - K)) (x3 r K i d2) b37 (0 + K + 1) (y2 r K) (some G6) (some G18) q37 := s37
           refine hK'.out _ _ (HC.out _ X37.bas) ?_
           clear hK' K' s37 Z36
           try simp only [Act.put, List.setIfInBounds_toArray, List.set]
           refine wpTr_one ?_
           refine wpTr_runL rfl (fun K' hK' => ?_)
           refine step_rowM (t := 52) (e := 4) (size := 1) (bytes := 1) (i := iB) X37 1 rfl (by rfl) _ _ (by rfl) Tryz.underlying52 giB gB0 gB1 gB2 rfl (by omega) (by rfl) B3 (r.E.length - K) (r.k - K) ((r.E.flatMap encP).drop (K * 1)) (by rfl) lB3 (fun hp => (HC.out _ X37.bas).2.2.2.2.2.b.src_drop hB3 hp) oB3 (by unfold maxLen; omega) (by omega) ?_
           intro b38 q38 s38
           have X38 : PXi w bl i d2 a34 (0 + K + 1 + (r.E.length - K)) (x3 r K i d2) b38 (0 + K + 1 + (r.E.length - K)) (y3 r K) (some G6) (some G18) q38 := s38
           refine hK'.out _ _ (HC.out _ X38.bas) ?_
           clear hK' K' s38 X37
           try simp only [Act.put, List.setIfInBounds_toArray, List.set]
           obtain ⟨gA, cA, rfl⟩ := own_some X38.rows.1 (by omega)
           obtain ⟨gB, cB, rfl⟩ := own_some X38.rows.2 (by omega)
           obtain ⟨M, hM⟩ : ∃ M, 0 + K + 1 + (r.E.length - K) = M := ⟨_, rfl⟩
           rw [hM] at X38
           simp only [hM]
           have HM := Lib.hid hM
           clear hM
           refine wpTr_takeL rfl ?_ (Or.inl ⟨by rfl, ?_⟩) ?_
           rotate_left
           · (intro w' hSw; obtain ⟨h1, h2, h3, h4, h5, _⟩ := hSw; go_simp; try with_reducible rfl)
           try simp only [Act.put, List.setIfInBounds_toArray, List.set]
           rw [← HBL.out] at X38
           have XS : SW w.heap.size w (xl w w3 r d d2 bs i K M gA cA gB cB G6 G18) _ := X38
           have z0 := (XS.cell 7 rfl).cell 0
           have z1 := (XS.cell 7 rfl).cell 1
           have f0 := (XS.cell 7 rfl).frozen 0
           have f1 := (XS.cell 7 rfl).frozen 1
           have XT := (XS.setAt 7 rfl 0 (.slice (some ⟨gA, 0, none⟩) M cA)).setAt 7 rfl 1 (.slice (some ⟨gB, 0, none⟩) M cB)
           refine wpTr_one ?_
           refine wpTr_runL rfl (fun K' hK' => ?_)
           go_simp
           refine hK'.out _ _ ⟨(XT.cell 8 rfl).cell 0, (XT.cell 8 rfl).cell 1, (XT.cell 4 rfl).cell 0, (XT.cell 4 rfl).cell 1, (XT.cell 4 rfl).cell 2, XT.get 10 (o := r3Ob r) rfl⟩ ?_
           clear hK' K' z0 z1 f0 f1 X38 XS
           try simp only [Act.put, List.setIfInBounds_toArray, List.set]
           have z0 := (XT.cell 6 rfl).cell 0
           have z1 := (XT.cell 6 rfl).cell 1
           have f0 := (XT.cell 6 rfl).frozen 0
           have f1 := (XT.cell 6 rfl).frozen 1
           have XU := (XT.setAt 6 rfl 0 (.int .u64 i.1)).setAt 6 rfl 1 (.int .i64 i.2)
           refine wpTr_one ?_
           refine wpTr_runL rfl (fun K' hK' => ?_)
           go_simp
           refine hK'.out _ _ ⟨(XU.cell 8 rfl).cell 0, (XU.cell 8 rfl).cell 1, (XU.cell 4 rfl).cell 0, (XU.cell 4 rfl).cell 1, (XU.cell 4 rfl).cell 2, XU.get 10 (o := r3Ob r) rfl⟩ ?_
           clear hK' K' z0 z1 f0 f1 XT
           try simp only [Act.put, List.setIfInBounds_toArray, List.set]
           refine wpTr_nil ?_
           simp only [List.drop_succ_cons, List.drop_zero]
           have e0 := (XU.cell 7 rfl).cell 0
           have e1 := (XU.cell 7 rfl).cell 1
           have e2 := (XU.cell 6 rfl).cell 0
           have e3 := (XU.cell 6 rfl).cell 1
           go_wp2_with fail
           obtain ⟨hl, hok'⟩ := rput_ok HK.out HM.out (XU.get 0 rfl) (XU.get 1 rfl) (XU.get 5 (o := bufOb d2 bs) rfl) (XU.get 10 (o := r3Ob r) rfl) hlen
           refine bodyPost_ret (v := .tuple #[.agg #[.slice (some ⟨gA, 0, none⟩) M cA, .slice (some ⟨gB, 0, none⟩) M cB], .agg #[.int .u64 i.1, .int .i64 i.2], .int .i64 0]) ?_ rfl ?_
           · simp [results, Tryz.results36, go_sem, e0, e1, e2, e3]
           · refine ⟨⟨some ⟨gA, 0, none⟩, cA, some ⟨gB, 0, none⟩, cB, putE r.E ⟨i, d2, bs, true⟩⟩, d2, ?_, hok', rfl, XU.2, fun j hj => ?_⟩
             · show _ = Ending.returned (.tuple #[.agg #[.slice (some ⟨gA, 0, none⟩) (putE r.E ⟨i, d2, bs, true⟩).length cA, .slice (some ⟨gB, 0, none⟩) (putE r.E ⟨i, d2, bs, true⟩).length cB], .agg #[.int .u64 i.1, .int .i64 i.2], .int .i64 0])
               rw [hl]
             · rcases hj with ⟨_, e | e⟩ | ⟨f, hf, e⟩
               · injection e with e
                 injection e with e
                 subst e
                 exact .inl (XU.1.own_ge (k := 0) rfl rfl).1
               · injection e with e
                 injection e with e
                 subst e
                 exact .inl (XU.1.own_ge (k := 1) rfl rfl).1
               · rcases putE_mem.1 hf with rfl | hf
                 · exact .inl (XU.1.own_ge (k := 5) (o := bufOb d2 bs) rfl e).1
                 · exact .inr (.inr ⟨f, hf, e⟩)
         · refine wpTr_runL rfl (fun K' hK' => ?_)
           have X39 := X34.eight
           go_simp
           refine hK'.out _ _ (HC.out _ X39.bas) ?_
           clear hK' K' X34
           obtain ⟨G18, q39, e39, f39, Z39⟩ : ∃ G18 q39, Hid (_ = G18) ∧ Hid (_ = q39) ∧ PXi w bl i d2 a34 (0 + K + 1 + (r.E.length - K)) (x3 r K i d2) (.slice none 0 0) 0 [] (some G6) (some G18) q39 := ⟨_, _, rfl, rfl, X39⟩
           rw [e39.out, f39.out]
           clear e39 f39 X39
           try simp only [Act.put, List.setIfInBounds_toArray, List.set]
           refine wpTr_one ?_
           refine wpTr_runL rfl (fun K' hK' => ?_)
           refine step_rowM (t := 52) (e := 4) (size := 1) (bytes := 1) (i := iB) Z39 1 rfl (by rfl) _ _ (by rfl) Tryz.underlying52 giB gB0 gB1 gB2 rfl (by omega) (by rfl) r.B K r.k ((r.E.flatMap encP).take (K * 1)) (by rfl) lB1 (fun hp => (HC.out _ Z39.bas).2.2.2.2.2.b.src_take hK hp) oB1 (by unfold maxLen; omega) (by omega) ?_
           intro b40 q40 s40
           have X40 : PXi w bl i d2 a34 (0 + K + 1 + (r.E.length - K)) (x3 r K i d2) b40 (0 + K) (y1 r K) (some G6) (some G18) q40 := s40
           refine hK'.out _ _ (HC.out _ X40.bas) ?_
           clear hK' K' s40 Z39
           try simp only [Act.put, List.setIfInBounds_toArray, List.set]
           refine wpTr_one ?_
           refine wpTr_runL rfl (fun K' hK' => ?_)
           refine step_rowM (t := 52) (e := 4) (size := 1) (bytes := 1) (i := iB) X40 1 rfl (by rfl) _ _ (by rfl) Tryz.underlying52 giB gB0 gB1 gB2 rfl (by omega) (by rfl) (some ⟨G18, 0, none⟩) 1 1 [.bool true] (by rfl) rfl (fun _ => ⟨_, rfl, one_src X40.cell18⟩) (by intro u hu; simp at hu; rw [hu]; rfl) (by unfold maxLen; omega) (by omega) ?_
           intro b41 q41 s41
           have X41 : PXi w bl i d2 a34 (0 + K + 1 + (r.E.length - K)) (x3 r K i d2) b41 (0 + K + 1) (y2 r K) (some G6) (some G18) q41 := s41
           refine hK'.out _ _ (HC.out _ X41.bas) ?_
           clear hK' K' s41 X40
           try simp only [Act.put, List.setIfInBounds_toArray, List.set]
           refine wpTr_one ?_
           refine wpTr_runL rfl (fun K' hK' => ?_)
           refine step_rowM (t := 52) (e := 4) (size := 1) (bytes := 1) (i := iB) X41 1 rfl (by rfl) _ _ (by rfl) Tryz.underlying52 giB gB0 gB1 gB2 rfl (by omega) (by rfl) B3 (r.E.length - K) (r.k - K) ((r.E.flatMap encP).drop (K * 1)) (by rfl) lB3 (fun hp => (HC.out _ X41.bas).2.2.2.2.2.b.src_drop hB3 hp) oB3 (by unfold maxLen; omega) (by omega) ?_
           intro b42 q42 s42
           have X42 : PXi w bl i d2 a34 (0 + K + 1 + (r.E.length - K)) (x3 r K i d2) b42 (0 + K + 1 + (r.E.length - K)) (y3 r K) (some G6) (some G18) q42 := s42
           refine hK'.out _ _ (HC.out _ X42.bas) ?_
           clear hK' K' s42 X41
           try simp only [Act.put, List.setIfInBounds_toArray, List.set]
           obtain ⟨gA, cA, rfl⟩ := own_some X42.rows.1 (by omega)
           obtain ⟨gB, cB, rfl⟩ := own_some X42.rows.2 (by omega)
           obtain ⟨M, hM⟩ : ∃ M, 0 + K + 1 + (r.E.length - K) = M := ⟨_, rfl⟩
           rw [hM] at X42
           simp only [hM]
           have HM := Lib.hid hM
           clear hM
           refine wpTr_takeL rfl ?_ (Or.inl ⟨by rfl, ?_⟩) ?_
           rotate_left
           · (intro w' hSw; obtain ⟨h1, h2, h3, h4, h5, _⟩ := hSw; go_simp; try with_reducible rfl)
           try simp only [Act.put, List.setIfInBounds_toArray, List.set]
           rw [← HBL.out] at X42
           have XS : SW w.heap.size w (xl w w3 r d d2 bs i K M gA cA gB cB G6 G18) _ := X42
           have z0 := (XS.cell 7 rfl).cell 0
           have z1 := (XS.cell 7 rfl).cell 1
           have f0 := (XS.cell 7 rfl).frozen 0
           have f1 := (XS.cell 7 rfl).frozen 1
           have XT := (XS.setAt 7 rfl 0 (.slice (some ⟨gA, 0, none⟩) M cA)).setAt 7 rfl 1 (.slice (some ⟨gB, 0, none⟩) M cB)
           refine wpTr_one ?_
           refine wpTr_runL rfl (fun K' hK' => ?_)
           go_simp
           refine hK'.out _ _ ⟨(XT.cell 8 rfl).cell 0, (XT.cell 8 rfl).cell 1, (XT.cell 4 rfl).cell 0, (XT.cell 4 rfl).cell 1, (XT.cell 4 rfl).cell 2, XT.get 10 (o := r3Ob r) rfl⟩ ?_
           clear hK' K' z0 z1 f0 f1 X42 XS
           try simp only [Act.put, List.setIfInBounds_toArray, List.set]
           have z0 := (XT.cell 6 rfl).cell 0
           have z1 := (XT.cell 6 rfl).cell 1
           have f0 := (XT.cell 6 rfl).frozen 0
           have f1 := (XT.cell 6 rfl).frozen 1
           have XU := (XT.setAt 6 rfl 0 (.int .u64 i.1)).setAt 6 rfl 1 (.int .i64 i.2)
           refine wpTr_one ?_
           refine wpTr_runL rfl (fun K' hK' => ?_)
           go_simp
           refine hK'.out _ _ ⟨(XU.cell 8 rfl).cell 0, (XU.cell 8 rfl).cell 1, (XU.cell 4 rfl).cell 0, (XU.cell 4 rfl).cell 1, (XU.cell 4 rfl).cell 2, XU.get 10 (o := r3Ob r) rfl⟩ ?_
           clear hK' K' z0 z1 f0 f1 XT
           try simp only [Act.put, List.setIfInBounds_toArray, List.set]
           refine wpTr_nil ?_
           simp only [List.drop_succ_cons, List.drop_zero]
           have e0 := (XU.cell 7 rfl).cell 0
           have e1 := (XU.cell 7 rfl).cell 1
           have e2 := (XU.cell 6 rfl).cell 0
           have e3 := (XU.cell 6 rfl).cell 1
           go_wp2_with fail
           obtain ⟨hl, hok'⟩ := rput_ok HK.out HM.out (XU.get 0 rfl) (XU.get 1 rfl) (XU.get 5 (o := bufOb d2 bs) rfl) (XU.get 10 (o := r3Ob r) rfl) hlen
           refine bodyPost_ret (v := .tuple #[.agg #[.slice (some ⟨gA, 0, none⟩) M cA, .slice (some ⟨gB, 0, none⟩) M cB], .agg #[.int .u64 i.1, .int .i64 i.2], .int .i64 0]) ?_ rfl ?_
           · simp [results, Tryz.results36, go_sem, e0, e1, e2, e3]
           · refine ⟨⟨some ⟨gA, 0, none⟩, cA, some ⟨gB, 0, none⟩, cB, putE r.E ⟨i, d2, bs, true⟩⟩, d2, ?_, hok', rfl, XU.2, fun j hj => ?_⟩
             · show _ = Ending.returned (.tuple #[.agg #[.slice (some ⟨gA, 0, none⟩) (putE r.E ⟨i, d2, bs, true⟩).length cA, .slice (some ⟨gB, 0, none⟩) (putE r.E ⟨i, d2, bs, true⟩).length cB], .agg #[.int .u64 i.1, .int .i64 i.2], .int .i64 0])
               rw [hl]
             · rcases hj with ⟨_, e | e⟩ | ⟨f, hf, e⟩
               · injection e with e
                 injection e with e
                 subst e
                 exact .inl (XU.1.own_ge (k := 0) rfl rfl).1
               · injection e with e
                 injection e with e
                 subst e
                 exact .inl (XU.1.own_ge (k := 1) rfl rfl).1
               · rcases putE_mem.1 hf with rfl | hf
                 · exact .inl (XU.1.own_ge (k := 5) (o := bufOb d2 bs) rfl e).1
                 · exact .inr (.inr ⟨f, hf, e⟩)
       · refine wpTr_runL rfl (fun K' hK' => ?_)
         have X43 := X33.eight
         go_simp
         refine hK'.out _ _ (HC.out _ X43.bas) ?_
         clear hK' K' X33
         obtain ⟨G18, q43, e43, f43, Z43⟩ : ∃ G18 q43, Hid (_ = G18) ∧ Hid (_ = q43) ∧ PXi w bl i d2 a33 (0 + K + 1) (x2 r K i d2) (.slice none 0 0) 0 [] (some G6) (some G18) q43 := ⟨_, _, rfl, rfl, X43⟩
         rw [e43.out, f43.out]
         clear e43 f43 X43
         try simp only [Act.put, List.setIfInBounds_toArray, List.set]
         refine wpTr_one ?_
         refine wpTr_runL rfl (fun K' hK' => ?_)
         refine step_rowM (t := 51) (e := 65) (size := 3) (bytes := 40) (i := iA) Z43 0 rfl (by rfl) _ _ (by rfl) Tryz.underlying51 giA gA0 gA1 gA2 rfl (by omega) (by rfl) A3 (r.E.length - K) (r.c - K) ((r.E.flatMap encK).drop (K * 3)) (by rfl) lA3 (fun hp => (HC.out _ Z43.bas).2.2.2.2.2.a.src_drop hA3 hp) oA3 (by unfold maxLen; omega) (by omega) ?_
         intro a44 q44 s44
         have X44 : PXi w bl i d2 a44 (0 + K + 1 + (r.E.length - K)) (x3 r K i d2) (.slice none 0 0) 0 [] (some G6) (some G18) q44 := s44
         refine hK'.out _ _ (HC.out _ X44.bas) ?_
         clear hK' K' s44 Z43
         try simp only [Act.put, List.setIfInBounds_toArray, List.set]
         refine wpTr_one ?_
         refine wpTr_runL rfl (fun K' hK' => ?_)
         refine step_rowM (t := 52) (e := 4) (size := 1) (bytes := 1) (i := iB) X44 1 rfl (by rfl) _ _ (by rfl) Tryz.underlying52 giB gB0 gB1 gB2 rfl (by omega) (by rfl) r.B K r.k ((r.E.flatMap encP).take (K * 1)) (by rfl) lB1 (fun hp => (HC.out _ X44.bas).2.2.2.2.2.b.src_take hK hp) oB1 (by unfold maxLen; omega) (by omega) ?_
         intro b45 q45 s45
         have X45 : PXi w bl i d2 a44 (0 + K + 1 + (r.E.length - K)) (x3 r K i d2) b45 (0 + K) (y1 r K) (some G6) (some G18) q45 := s45
         refine hK'.out _ _ (HC.out _ X45.bas) ?_
         clear hK' K' s45 X44
         try simp only [Act.put, List.setIfInBounds_toArray, List.set]
         refine wpTr_one ?_
         refine wpTr_runL rfl (fun K' hK' => ?_)
         refine step_rowM (t := 52) (e := 4) (size := 1) (bytes := 1) (i := iB) X45 1 rfl (by rfl) _ _ (by rfl) Tryz.underlying52 giB gB0 gB1 gB2 rfl (by omega) (by rfl) (some ⟨G18, 0, none⟩) 1 1 [.bool true] (by rfl) rfl (fun _ => ⟨_, rfl, one_src X45.cell18⟩) (by intro u hu; simp at hu; rw [hu]; rfl) (by unfold maxLen; omega) (by omega) ?_
         intro b46 q46 s46
         have X46 : PXi w bl i d2 a44 (0 + K + 1 + (r.E.length - K)) (x3 r K i d2) b46 (0 + K + 1) (y2 r K) (some G6) (some G18) q46 := s46
         refine hK'.out _ _ (HC.out _ X46.bas) ?_
         clear hK' K' s46 X45
         try simp only [Act.put, List.setIfInBounds_toArray, List.set]
         refine wpTr_one ?_
         refine wpTr_runL rfl (fun K' hK' => ?_)
         refine step_rowM (t := 52) (e := 4) (size := 1) (bytes := 1) (i := iB) X46 1 rfl (by rfl) _ _ (by rfl) Tryz.underlying52 giB gB0 gB1 gB2 rfl (by omega) (by rfl) B3 (r.E.length - K) (r.k - K) ((r.E.flatMap encP).drop (K * 1)) (by rfl) lB3 (fun hp => (HC.out _ X46.bas).2.2.2.2.2.b.src_drop hB3 hp) oB3 (by unfold maxLen; omega) (by omega) ?_
         intro b47 q47 s47
         have X47 : PXi w bl i d2 a44 (0 + K + 1 + (r.E.length - K)) (x3 r K i d2) b47 (0 + K + 1 + (r.E.length - K)) (y3 r K) (some G6) (some G18) q47 := s47
         refine hK'.out _ _ (HC.out _ X47.bas) ?_
         clear hK' K' s47 X46
         try simp only [Act.put, List.setIfInBounds_toArray, List.set]
         obtain ⟨gA, cA, rfl⟩ := own_some X47.rows.1 (by omega)
         obtain ⟨gB, cB, rfl⟩ := own_some X47.rows.2 (by omega)
         obtain ⟨M, hM⟩ : ∃ M, 0 + K + 1 + (r.E.length - K) = M := ⟨_, rfl⟩
         rw [hM] at X47
         simp only [hM]
         have HM := Lib.hid hM
         clear hM
         refine wpTr_takeL rfl ?_ (Or.inl ⟨by rfl, ?_⟩) ?_
         rotate_left
         · (intro w' hSw; obtain ⟨h1, h2, h3, h4, h5, _⟩ := hSw; go_simp; try with_reducible rfl)
         try simp only [Act.put, List.setIfInBounds_toArray, List.set]
         rw [← HBL.out] at X47
         have XS : SW w.heap.size w (xl w w3 r d d2 bs i K M gA cA gB cB G6 G18) _ := X47
         have z0 := (XS.cell 7 rfl).cell 0
         have z1 := (XS.cell 7 rfl).cell 1
         have f0 := (XS.cell 7 rfl).frozen 0
         have f1 := (XS.cell 7 rfl).frozen 1
         have XT := (XS.setAt 7 rfl 0 (.slice (some ⟨gA, 0, none⟩) M cA)).setAt 7 rfl 1 (.slice (some ⟨gB, 0, none⟩) M cB)
         refine wpTr_one ?_
         refine wpTr_runL rfl (fun K' hK' => ?_)
         go_simp
         refine hK'.out _ _ ⟨(XT.cell 8 rfl).cell 0, (XT.cell 8 rfl).cell 1, (XT.cell 4 rfl).cell 0, (XT.cell 4 rfl).cell 1, (XT.cell 4 rfl).cell 2, XT.get 10 (o := r3Ob r) rfl⟩ ?_
         clear hK' K' z0 z1 f0 f1 X47 XS
         try simp only [Act.put, List.setIfInBounds_toArray, List.set]
         have z0 := (XT.cell 6 rfl).cell 0
         have z1 := (XT.cell 6 rfl).cell 1
         have f0 := (XT.cell 6 rfl).frozen 0
         have f1 := (XT.cell 6 rfl).frozen 1
         have XU := (XT.setAt 6 rfl 0 (.int .u64 i.1)).setAt 6 rfl 1 (.int .i64 i.2)
         refine wpTr_one ?_
         refine wpTr_runL rfl (fun K' hK' => ?_)
         go_simp
         refine hK'.out _ _ ⟨(XU.cell 8 rfl).cell 0, (XU.cell 8 rfl).cell 1, (XU.cell 4 rfl).cell 0, (XU.cell 4 rfl).cell 1, (XU.cell 4 rfl).cell 2, XU.get 10 (o := r3Ob r) rfl⟩ ?_
         clear hK' K' z0 z1 f0 f1 XT
         try simp only [Act.put, List.setIfInBounds_toArray, List.set]
         refine wpTr_nil ?_
         simp only [List.drop_succ_cons, List.drop_zero]
         have e0 := (XU.cell 7 rfl).cell 0
         have e1 := (XU.cell 7 rfl).cell 1
         have e2 := (XU.cell 6 rfl).cell 0
         have e3 := (XU.cell 6 rfl).cell 1
         go_wp2_with fail
         obtain ⟨hl, hok'⟩ := rput_ok HK.out HM.out (XU.get 0 rfl) (XU.get 1 rfl) (XU.get 5 (o := bufOb d2 bs) rfl) (XU.get 10 (o := r3Ob r) rfl) hlen
         refine bodyPost_ret (v := .tuple #[.agg #[.slice (some ⟨gA, 0, none⟩) M cA, .slice (some ⟨gB, 0, none⟩) M cB], .agg #[.int .u64 i.1, .int .i64 i.2], .int .i64 0]) ?_ rfl ?_
         · simp [results, Tryz.results36, go_sem, e0, e1, e2, e3]
         · refine ⟨⟨some ⟨gA, 0, none⟩, cA, some ⟨gB, 0, none⟩, cB, putE r.E ⟨i, d2, bs, true⟩⟩, d2, ?_, hok', rfl, XU.2, fun j hj => ?_⟩
           · show _ = Ending.returned (.tuple #[.agg #[.slice (some ⟨gA, 0, none⟩) (putE r.E ⟨i, d2, bs, true⟩).length cA, .slice (some ⟨gB, 0, none⟩) (putE r.E ⟨i, d2, bs, true⟩).length cB], .agg #[.int .u64 i.1, .int .i64 i.2], .int .i64 0])
             rw [hl]
           · rcases hj with ⟨_, e | e⟩ | ⟨f, hf, e⟩
             · injection e with e
               injection e with e
               subst e
               exact .inl (XU.1.own_ge (k := 0) rfl rfl).1
             · injection e with e
               injection e with e
               subst e
               exact .inl (XU.1.own_ge (k := 1) rfl rfl).1
             · rcases putE_mem.1 hf with rfl | hf
               · exact .inl (XU.1.own_ge (k := 5) (o := bufOb d2 bs) rfl e).1
               · exact .inr (.inr ⟨f, hf, e⟩)
     · refine wpTr_runL rfl (fun K' hK' => ?_)
       have X48 := X32.eight
       go_simp
       refine hK'.out _ _ (HC.out _ X48.bas) ?_
       clear hK' K' X32
       obtain ⟨G18, q48, e48, f48, Z48⟩ : ∃ G18 q48, Hid (_ = G18) ∧ Hid (_ = q48) ∧ PXi w bl i d2 a32 (0 + K) (x1 r K) (.slice none 0 0) 0 [] (some G6) (some G18) q48 := ⟨_, _, rfl, rfl, X48⟩
       rw [e48.out, f48.out]
       clear e48 f48 X48
       try simp only [Act.put, List.setIfInBounds_toArray, List.set]
       refine wpTr_one ?_
       refine wpTr_runL rfl (fun K' hK' => ?_)
       refine step_rowM (t := 51) (e := 65) (size := 3) (bytes := 40) (i := iA) Z48 0 rfl (by rfl) _ _ (by rfl) Tryz.underlying51 giA gA0 gA1 gA2 rfl (by omega) (by rfl) (some ⟨G6, 0, none⟩) 1 1 [.int .u64 i.1, .int .i64 i.2, .slice d2.A d2.len d2.cap] (by rfl) rfl (fun _ => ⟨_, rfl, fun j u hu => by rw [lit_add, Nat.zero_add, Z48.cell6 j]; simpa using hu⟩) (by intro u hu; simp at hu; rcases hu with rfl | rfl | rfl <;> rfl) (by unfold maxLen; omega) (by omega) ?_
       intro a49 q49 s49
       have X49 : PXi w bl i d2 a49 (0 + K + 1) (x2 r K i d2) (.slice none 0 0) 0 [] (some G6) (some G18) q49 := s49
       refine hK'.out _ _ (HC.out _ X49.bas) ?_
       clear hK' K' s49 Z48
       try simp only [Act.put, List.setIfInBounds_toArray, List.set]
       refine wpTr_one ?_
       refine wpTr_runL rfl (fun K' hK' => ?_)
       refine step_rowM (t := 51) (e := 65) (size := 3) (bytes := 40) (i := iA) X49 0 rfl (by rfl) _ _ (by rfl) Tryz.underlying51 giA gA0 gA1 gA2 rfl (by omega) (by rfl) A3 (r.E.length - K) (r.c - K) ((r.E.flatMap encK).drop (K * 3)) (by rfl) lA3 (fun hp => (HC.out _ X49.bas).2.2.2.2.2.a.src_drop hA3 hp) oA3 (by unfold maxLen; omega) (by omega) ?_
       intro a50 q50 s50
       have X50 : PXi w bl i d2 a50 (0 + K + 1 + (r.E.length - K)) (x3 r K i d2) (.slice none 0 0) 0 [] (some G6) (some G18) q50 := s50
       refine hK'.out _ _ (HC.out _ X50.bas) ?_
       clear hK' K' s50 X49
       try simp only [Act.put, List.setIfInBounds_toArray, List.set]
       refine wpTr_one ?_
       refine wpTr_runL rfl (fun K' hK' => ?_)
       refine step_rowM (t := 52) (e := 4) (size := 1) (bytes := 1) (i := iB) X50 1 rfl (by rfl) _ _ (by rfl) Tryz.underlying52 giB gB0 gB1 gB2 rfl (by omega) (by rfl) r.B K r.k ((r.E.flatMap encP).take (K * 1)) (by rfl) lB1 (fun hp => (HC.out _ X50.bas).2.2.2.2.2.b.src_take hK hp) oB1 (by unfold maxLen; omega) (by omega) ?_
       intro b51 q51 s51
       have X51 : PXi w bl i d2 a50 (0 + K + 1 + (r.E.length - K)) (x3 r K i d2) b51 (0 + K) (y1 r K) (some G6) (some G18) q51 := s51
       refine hK'.out _ _ (HC.out _ X51.bas) ?_
       clear hK' K' s51 X50
       try simp only [Act.put, List.setIfInBounds_toArray, List.set]
       refine wpTr_one ?_
       refine wpTr_runL rfl (fun K' hK' => ?_)
       refine step_rowM (t := 52) (e := 4) (size := 1) (bytes := 1) (i := iB) X51 1 rfl (by rfl) _ _ (by rfl) Tryz.underlying52 giB gB0 gB1 gB2 rfl (by omega) (by rfl) (some ⟨G18, 0, none⟩) 1 1 [.bool true] (by rfl) rfl (fun _ => ⟨_, rfl, one_src X51.cell18⟩) (by intro u hu; simp at hu; rw [hu]; rfl) (by unfold maxLen; omega) (by omega) ?_
       intro b52 q52 s52
       have X52 : PXi w bl i d2 a50 (0 + K + 1 + (r.E.length - K)) (x3 r K i d2) b52 (0 + K + 1) (y2 r K) (some G6) (some G18) q52 := s52
       refine hK'.out _ _ (HC.out _ X52.bas) ?_
       clear hK' K' s52 X51
       try simp only [Act.put, List.setIfInBounds_toArray, List.set]
       refine wpTr_one ?_
       refine wpTr_runL rfl (fun K' hK' => ?_)
       refine step_rowM (t := 52) (e := 4) (size := 1) (bytes := 1) (i := iB) X52 1 rfl (by rfl) _ _ (by rfl) Tryz.underlying52 giB gB0 gB1 gB2 rfl (by omega) (by rfl) B3 (r.E.length - K) (r.k - K) ((r.E.flatMap encP).drop (K * 1)) (by rfl) lB3 (fun hp => (HC.out _ X52.bas).2.2.2.2.2.b.src_drop hB3 hp) oB3 (by unfold maxLen; omega) (by omega) ?_
       intro b53 q53 s53
       have X53 : PXi w bl i d2 a50 (0 + K + 1 + (r.E.length - K)) (x3 r K i d2) b53 (0 + K + 1 + (r.E.length - K)) (y3 r K) (some G6) (some G18) q53 := s53
       refine hK'.out _ _ (HC.out _ X53.bas) ?_
       clear hK' K' s53 X52
       try simp only [Act.put, List.setIfInBounds_toArray, List.set]
       obtain ⟨gA, cA, rfl⟩ := own_some X53.rows.1 (by omega)
       obtain ⟨gB, cB, rfl⟩ := own_some X53.rows.2 (by omega)
       obtain ⟨M, hM⟩ : ∃ M, 0 + K + 1 + (r.E.length - K) = M := ⟨_, rfl⟩
       rw [hM] at X53
       simp only [hM]
       have HM := Lib.hid hM
       clear hM
       refine wpTr_takeL rfl ?_ (Or.inl ⟨by rfl, ?_⟩) ?_
       rotate_left
       · (intro w' hSw; obtain ⟨h1, h2, h3, h4, h5, _⟩ := hSw; go_simp; try with_reducible rfl)
       try simp only [Act.put, List.setIfInBounds_toArray, List.set]
       rw [← HBL.out] at X53
       have XS : SW w.heap.size w (xl w w3 r d d2 bs i K M gA cA gB cB G6 G18) _ := X53
       have z0 := (XS.cell 7 rfl).cell 0
       have z1 := (XS.cell 7 rfl).cell 1
       have f0 := (XS.cell 7 rfl).frozen 0
       have f1 := (XS.cell 7 rfl).frozen 1
       have XT := (XS.setAt 7 rfl 0 (.slice (some ⟨gA, 0, none⟩) M cA)).setAt 7 rfl 1 (.slice (some ⟨gB, 0, none⟩) M cB)
       refine wpTr_one ?_
       refine wpTr_runL rfl (fun K' hK' => ?_)
       go_simp
       refine hK'.out _ _ ⟨(XT.cell 8 rfl).cell 0, (XT.cell 8 rfl).cell 1, (XT.cell 4 rfl).cell 0, (XT.cell 4 rfl).cell 1, (XT.cell 4 rfl).cell 2, XT.get 10 (o := r3Ob r) rfl⟩ ?_
       clear hK' K' z0 z1 f0 f1 X53 XS
       try simp only [Act.put, List.setIfInBounds_toArray, List.set]
       have z0 := (XT.cell 6 rfl).cell 0
       have z1 := (XT.cell 6 rfl).cell 1
       have f0 := (XT.cell 6 rfl).frozen 0
       have f1 := (XT.cell 6 rfl).frozen 1
       have XU := (XT.setAt 6 rfl 0 (.int .u64 i.1)).setAt 6 rfl 1 (.int .i64 i.2)
       refine wpTr_one ?_
       refine wpTr_runL rfl (fun K' hK' => ?_)
       go_simp
       refine hK'.out _ _ ⟨(XU.cell 8 rfl).cell 0, (XU.cell 8 rfl).cell 1, (XU.cell 4 rfl).cell 0, (XU.cell 4 rfl).cell 1, (XU.cell 4 rfl).cell 2, XU.get 10 (o := r3Ob r) rfl⟩ ?_
       clear hK' K' z0 z1 f0 f1 XT
       try simp only [Act.put, List.setIfInBounds_toArray, List.set]
       refine wpTr_nil ?_
       simp only [List.drop_succ_cons, List.drop_zero]
       have e0 := (XU.cell 7 rfl).cell 0
       have e1 := (XU.cell 7 rfl).cell 1
       have e2 := (XU.cell 6 rfl).cell 0
       have e3 := (XU.cell 6 rfl).cell 1
       go_wp2_with fail
       obtain ⟨hl, hok'⟩ := rput_ok HK.out HM.out (XU.get 0 rfl) (XU.get 1 rfl) (XU.get 5 (o := bufOb d2 bs) rfl) (XU.get 10 (o := r3Ob r) rfl) hlen
       refine bodyPost_ret (v := .tuple #[.agg #[.slice (some ⟨gA, 0, none⟩) M cA, .slice (some ⟨gB, 0, none⟩) M cB], .agg #[.int .u64 i.1, .int .i64 i.2], .int .i64 0]) ?_ rfl ?_
       · simp [results, Tryz.results36, go_sem, e0, e1, e2, e3]
       · refine ⟨⟨some ⟨gA, 0, none⟩, cA, some ⟨gB, 0, none⟩, cB, putE r.E ⟨i, d2, bs, true⟩⟩, d2, ?_, hok', rfl, XU.2, fun j hj => ?_⟩
         · show _ = Ending.returned (.tuple #[.agg #[.slice (some ⟨gA, 0, none⟩) (putE r.E ⟨i, d2, bs, true⟩).length cA, .slice (some ⟨gB, 0, none⟩) (putE r.E ⟨i, d2, bs, true⟩).length cB], .agg #[.int .u64 i.1, .int .i64 i.2], .int .i64 0])
           rw [hl]
         · rcases hj with ⟨_, e | e⟩ | ⟨f, hf, e⟩
           · injection e with e
             injection e with e
             subst e
             exact .inl (XU.1.own_ge (k := 0) rfl rfl).1
           · injection e with e
             injection e with e
             subst e
             exact .inl (XU.1.own_ge (k := 1) rfl rfl).1
           · rcases putE_mem.1 hf with rfl | hf
             · exact .inl (XU.1.own_ge (k := 5) (o := bufOb d2 bs) rfl e).1
             · exact .inr (.inr ⟨f, hf, e⟩)
   · refine wpTr_runL rfl (fun K' hK' => ?_)
     have X54 := Z31.eight
     go_simp
     refine hK'.out _ _ (HC.out _ X54.bas) ?_
     clear hK' K' Z31
     obtain ⟨G18, q54, e54, f54, Z54⟩ : ∃ G18 q54, Hid (_ = G18) ∧ Hid (_ = q54) ∧ PXi w bl i d2 (.slice none 0 0) 0 [] (.slice none 0 0) 0 [] (some G6) (some G18) q54 := ⟨_, _, rfl, rfl, X54⟩
     rw [e54.out, f54.out]
     clear e54 f54 X54
     try simp only [Act.put, List.setIfInBounds_toArray, List.set]
     refine wpTr_one ?_
     refine wpTr_runL rfl (fun K' hK' => ?_)
     refine step_rowM (t := 51) (e := 65) (size := 3) (bytes := 40) (i := iA) Z54 0 rfl (by rfl) _ _ (by rfl) Tryz.underlying51 giA gA0 gA1 gA2 rfl (by omega) (by rfl) r.A K r.c ((r.E.flatMap encK).take (K * 3)) (by rfl) lA1 (fun hp => (HC.out _ Z54.bas).2.2.2.2.2.a.src_take hK hp) oA1 (by unfold maxLen; omega) (by omega) ?_
     intro a55 q55 s55
     have X55 : PXi w bl i d2 a55 (0 + K) (x1 r K) (.slice none 0 0) 0 [] (some G6) (some G18) q55 := s55
     refine hK'.out _ _ (HC.out _ X55.bas) ?_
     clear hK' K' s55 Z54
     try simp only [Act.put, List.setIfInBounds_toArray, List.set]
     refine wpTr_one ?_
     refine wpTr_runL rfl (fun K' hK' => ?_)
     refine step_rowM (t := 51) (e := 65) (size := 3) (bytes := 40) (i := iA) X55 0 rfl (by rfl) _ _ (by rfl) Tryz.underlying51 giA gA0 gA1 gA2 rfl (by omega) (by rfl) (some ⟨G6, 0, none⟩) 1 1 [.int .u64 i.1, .int .i64 i.2, .slice d2.A d2.len d2.cap] (by rfl) rfl (fun _ => ⟨_, rfl, fun j u hu => by rw [lit_add, Nat.zero_add, X55.cell6 j]; simpa using hu⟩) (by intro u hu; simp at hu; rcases hu with rfl | rfl | rfl <;> rfl) (by unfold maxLen; omega) (by omega) ?_
     intro a56 q56 s56
     have X56 : PXi w bl i d2 a56 (0 + K + 1) (x2 r K i d2) (.slice none 0 0) 0 [] (some G6) (some G18) q56 := s56
     refine hK'.out _ _ (HC.out _ X56.bas) ?_
     clear hK' K' s56 X55
     try simp only [Act.put, List.setIfInBounds_toArray, List.set]
     refine wpTr_one ?_
     refine wpTr_runL rfl (fun K' hK' => ?_)
     refine step_rowM (t := 51) (e := 65) (size := 3) (bytes := 40) (i := iA) X56 0 rfl (by rfl) _ _ (by rfl) Tryz.underlying51 giA gA0 gA1 gA2 rfl (by omega) (by rfl) A3 (r.E.length - K) (r.c - K) ((r.E.flatMap encK).drop (K * 3)) (by rfl) lA3 (fun hp => (HC.out _ X56.bas).2.2.2.2.2.a.src_drop hA3 hp) oA3 (by unfold maxLen; omega) (by omega) ?_
     intro a57 q57 s57
     have X57 : PXi w bl i d2 a57 (0 + K + 1 + (r.E.length - K)) (x3 r K i d2) (.slice none 0 0) 0 [] (some G6) (some G18) q57 := s57
     refine hK'.out _ _ (HC.out _ X57.bas) ?_
     clear hK' K' s57 X56
     try simp only [Act.put, List.setIfInBounds_toArray, List.set]
     refine wpTr_one ?_
     refine wpTr_runL rfl (fun K' hK' => ?_)
     refine step_rowM (t := 52) (e := 4) (size := 1) (bytes := 1) (i := iB) X57 1 rfl (by rfl) _ _ (by rfl) Tryz.underlying52 giB gB0 gB1 gB2 rfl (by omega) (by rfl) r.B K r.k ((r.E.flatMap encP).take (K * 1)) (by rfl) lB1 (fun hp => (HC.out _ X57.bas).2.2.2.2.2.b.src_take hK hp) oB1 (by unfold maxLen; omega) (by omega) ?_
     intro b58 q58 s58
     have X58 : PXi w bl i d2 a57 (0 + K + 1 + (r.E.length - K)) (x3 r K i d2) b58 (0 + K) (y1 r K) (some G6) (some G18) q58 := s58
     refine hK'.out _ _ (HC.out _ X58.bas) ?_
     clear hK' K' s58 X57
     try simp only [Act.put, List.setIfInBounds_toArray, List.set]
     refine wpTr_one ?_
     refine wpTr_runL rfl (fun K' hK' => ?_)
     refine step_rowM (t := 52) (e := 4) (size := 1) (bytes := 1) (i := iB) X58 1 rfl (by rfl) _ _ (by rfl) Tryz.underlying52 giB gB0 gB1 gB2 rfl (by omega) (by rfl) (some ⟨G18, 0, none⟩) 1 1 [.bool true] (by rfl) rfl (fun _ => ⟨_, rfl, one_src X58.cell18⟩) (by intro u hu; simp at hu; rw [hu]; rfl) (by unfold maxLen; omega) (by omega) ?_
     intro b59 q59 s59
     have X59 : PXi w bl i d2 a57 (0 + K + 1 + (r.E.length - K)) (x3 r K i d2) b59 (0 + K + 1) (y2 r K) (some G6) (some G18) q59 := s59
     refine hK'.out _ _ (HC.out _ X59.bas) ?_
     clear hK' K' s59 X58
     try simp only [Act.put, List.setIfInBounds_toArray, List.set]
     refine wpTr_one ?_
     refine wpTr_runL rfl (fun K' hK' => ?_)
     refine step_rowM (t := 52) (e := 4) (size := 1) (bytes := 1) (i := iB) X59 1 rfl (by rfl) _ _ (by rfl) Tryz.underlying52 giB gB0 gB1 gB2 rfl (by omega) (by rfl) B3 (r.E.length - K) (r.k - K) ((r.E.flatMap encP).drop (K * 1)) (by rfl) lB3 (fun hp => (HC.out _ X59.bas).2.2.2.2.2.b.src_drop hB3 hp) oB3 (by unfold maxLen; omega) (by omega) ?_
     intro b60 q60 s60
     have X60 : PXi w bl i d2 a57 (0 + K + 1 + (r.E.length - K)) (x3 r K i d2) b60 (0 + K + 1 + (r.E.length - K)) (y3 r K) (some G6) (some G18) q60 := s60
     refine hK'.out _ _ (HC.out _ X60.bas) ?_
     clear hK' K' s60 X59
     try simp only [Act.put, List.setIfInBounds_toArray, List.set]
     obtain ⟨gA, cA, rfl⟩ := own_some X60.rows.1 (by omega)
     obtain ⟨gB, cB, rfl⟩ := own_some X60.rows.2 (by omega)
     obtain ⟨M, hM⟩ : ∃ M, 0 + K + 1 + (r.E.length - K) = M := ⟨_, rfl⟩
     rw [hM] at X60
     simp only [hM]
     have HM := Lib.hid hM
     clear hM
     refine wpTr_takeL rfl ?_ (Or.inl ⟨by rfl, ?_⟩) ?_
     rotate_left
     · (intro w' hSw; obtain ⟨h1, h2, h3, h4, h5, _⟩ := hSw; go_simp; try with_reducible rfl)
     try simp only [Act.put, List.setIfInBounds_toArray, List.set]
     rw [← HBL.out] at X60
     have XS : SW w.heap.size w (xl w w3 r d d2 bs i K M gA cA gB cB G6 G18) _ := X60
     have z0 := (XS.cell 7 rfl).cell 0
     have z1 := (XS.cell 7 rfl).cell 1
     have f0 := (XS.cell 7 rfl).frozen 0
     have f1 := (XS.cell 7 rfl).frozen 1
     have XT := (XS.setAt 7 rfl 0 (.slice (some ⟨gA, 0, none⟩) M cA)).setAt 7 rfl 1 (.slice (some ⟨gB, 0, none⟩) M cB)
     refine wpTr_one ?_
     refine wpTr_runL rfl (fun K' hK' => ?_)
     go_simp
     refine hK'.out _ _ ⟨(XT.cell 8 rfl).cell 0, (XT.cell 8 rfl).cell 1, (XT.cell 4 rfl).cell 0, (XT.cell 4 rfl).cell 1, (XT.cell 4 rfl).cell 2, XT.get 10 (o := r3Ob r) rfl⟩ ?_
     clear hK' K' z0 z1 f0 f1 X60 XS
     try simp only [Act.put, List.setIfInBounds_toArray, List.set]
     have z0 := (XT.cell 6 rfl).cell 0
     have z1 := (XT.cell 6 rfl).cell 1
     have f0 := (XT.cell 6 rfl).frozen 0
     have f1 := (XT.cell 6 rfl).frozen 1
     have XU := (XT.setAt 6 rfl 0 (.int .u64 i.1)).setAt 6 rfl 1 (.int .i64 i.2)
     refine wpTr_one ?_
     refine wpTr_runL rfl (fun K' hK' => ?_)
     go_simp
     refine hK'.out _ _ ⟨(XU.cell 8 rfl).cell 0, (XU.cell 8 rfl).cell 1, (XU.cell 4 rfl).cell 0, (XU.cell 4 rfl).cell 1, (XU.cell 4 rfl).cell 2, XU.get 10 (o := r3Ob r) rfl⟩ ?_
     clear hK' K' z0 z1 f0 f1 XT
     try simp only [Act.put, List.setIfInBounds_toArray, List.set]
     refine wpTr_nil ?_
     simp only [List.drop_succ_cons, List.drop_zero]
     have e0 := (XU.cell 7 rfl).cell 0
     have e1 := (XU.cell 7 rfl).cell 1
     have e2 := (XU.cell 6 rfl).cell 0
     have e3 := (XU.cell 6 rfl).cell 1
     go_wp2_with fail
     obtain ⟨hl, hok'⟩ := rput_ok HK.out HM.out (XU.get 0 rfl) (XU.get 1 rfl) (XU.get 5 (o := bufOb d2 bs) rfl) (XU.get 10 (o := r3Ob r) rfl) hlen
     refine bodyPost_ret (v := .tuple #[.agg #[.slice (some ⟨gA, 0, none⟩) M cA, .slice (some ⟨gB, 0, none⟩) M cB], .agg #[.int .u64 i.1, .int .i64 i.2], .int .i64 0]) ?_ rfl ?_
     · simp [results, Tryz.results36, go_sem, e0, e1, e2, e3]
     · refine ⟨⟨some ⟨gA, 0, none⟩, cA, some ⟨gB, 0, none⟩, cB, putE r.E ⟨i, d2, bs, true⟩⟩, d2, ?_, hok', rfl, XU.2, fun j hj => ?_⟩
       · show _ = Ending.returned (.tuple #[.agg #[.slice (some ⟨gA, 0, none⟩) (putE r.E ⟨i, d2, bs, true⟩).length cA, .slice (some ⟨gB, 0, none⟩) (putE r.E ⟨i, d2, bs, true⟩).length cB], .agg #[.int .u64 i.1, .int .i64 i.2], .int .i64 0])
         rw [hl]
       · rcases hj with ⟨_, e | e⟩ | ⟨f, hf, e⟩
         · injection e with e
           injection e with e
           subst e
           exact .inl (XU.1.own_ge (k := 0) rfl rfl).1
         · injection e with e
           injection e with e
           subst e
           exact .inl (XU.1.own_ge (k := 1) rfl rfl).1
         · rcases putE_mem.1 hf with rfl | hf
           · exact .inl (XU.1.own_ge (k := 5) (o := bufOb d2 bs) rfl e).1
           · exact .inr (.inr ⟨f, hf, e⟩)
 · refine wpTr_runL rfl (fun K' hK' => ?_)
   have X61 := X0.eight
   go_simp
   refine hK'.out _ _ (HC.out _ X61.bas) ?_
   clear hK' K' X0
   obtain ⟨G18, q61, e61, f61, Z61⟩ : ∃ G18 q61, Hid (_ = G18) ∧ Hid (_ = q61) ∧ PXi w bl i d2 (.slice none 0 0) 0 [] (.slice none 0 0) 0 [] none (some G18) q61 := ⟨_, _, rfl, rfl, X61⟩
   rw [e61.out, f61.out]
   clear e61 f61 X61
   try simp only [Act.put, List.setIfInBounds_toArray, List.set]
   refine wpTr_two ?_ ?_
   · refine wpTr_runL rfl (fun K' hK' => ?_)
     refine step_rowM (t := 51) (e := 65) (size := 3) (bytes := 40) (i := iA) Z61 0 rfl (by rfl) _ _ (by rfl) Tryz.underlying51 giA gA0 gA1 gA2 rfl (by omega) (by rfl) r.A K r.c ((r.E.flatMap encK).take (K * 3)) (by rfl) lA1 (fun hp => (HC.out _ Z61.bas).2.2.2.2.2.a.src_take hK hp) oA1 (by unfold maxLen; omega) (by omega) ?_
     intro a62 q62 s62
     have X62 : PXi w bl i d2 a62 (0 + K) (x1 r K) (.slice none 0 0) 0 [] none (some G18) q62 := s62
     refine hK'.out _ _ (HC.out _ X62.bas) ?_
     clear hK' K' s62 Z61
     try simp only [Act.put, List.setIfInBounds_toArray, List.set]
     refine wpTr_one ?_
     refine wpTr_runL rfl (fun K' hK' => ?_)
     have X63 := X62.six
     go_simp
     refine hK'.out _ _ (HC.out _ X63.bas) ?_
     clear hK' K' X62
     obtain ⟨G6, q63, e63, f63, Z63⟩ : ∃ G6 q63, Hid (_ = G6) ∧ Hid (_ = q63) ∧ PXi w bl i d2 a62 (0 + K) (x1 r K) (.slice none 0 0) 0 [] (some G6) (some G18) q63 := ⟨_, _, rfl, rfl, X63⟩
     rw [e63.out, f63.out]
     clear e63 f63 X63
     try simp only [Act.put, List.setIfInBounds_toArray, List.set]
     refine wpTr_one ?_
     refine wpTr_runL rfl (fun K' hK' => ?_)
     refine step_rowM (t := 51) (e := 65) (size := 3) (bytes := 40) (i := iA) Z63 0 rfl (by rfl) _ _ (by rfl) Tryz.underlying51 giA gA0 gA1 gA2 rfl (by omega) (by rfl) (some ⟨G6, 0, none⟩) 1 1 [.int .u64 i.1, .int .i64 i.2, .slice d2.A d2.len d2.cap] (by rfl) rfl (fun _ => ⟨_, rfl, fun j u hu => by rw [lit_add, Nat.zero_add, Z63.cell6 j]; simpa using hu⟩) (by intro u hu; simp at hu; rcases hu with rfl | rfl | rfl <;> rfl) (by unfold maxLen; omega) (by omega) ?_
     intro a64 q64 s64
     have X64 : PXi w bl i d2 a64 (0 + K + 1) (x2 r K i d2) (.slice none 0 0) 0 [] (some G6) (some G18) q64 := s64
     refine hK'.out _ _ (HC.out _ X64.bas) ?_
     clear hK' K' s64 Z63
     try simp only [Act.put, List.setIfInBounds_toArray, List.set]
     refine wpTr_one ?_
     refine wpTr_runL rfl (fun K' hK' => ?_)
     refine step_rowM (t := 51) (e := 65) (size := 3) (bytes := 40) (i := iA) X64 0 rfl (by rfl) _ _ (by rfl) Tryz.underlying51 giA gA0 gA1 gA2 rfl (by omega) (by rfl) A3 (r.E.length - K) (r.c - K) ((r.E.flatMap encK).drop (K * 3)) (by rfl) lA3 (fun hp => (HC.out _ X64.bas).2.2.2.2.2.a.src_drop hA3 hp) oA3 (by unfold maxLen; omega) (by omega) ?_
     intro a65 q65 s65
     have X65 : PXi w bl i d2 a65 (0 + K + 1 + (r.E.length - K)) (x3 r K i d2) (.slice none 0 0) 0 [] (some G6) (some G18) q65 := s65
     refine hK'.out _ _ (HC.out _ X65.bas) ?_
     clear hK' K' s65 X64
     try simp only [Act.put, List.setIfInBounds_toArray, List.set]
     refine wpTr_one ?_
     refine wpTr_runL rfl (fun K' hK' => ?_)
     refine step_rowM (t := 52) (e := 4) (size := 1) (bytes := 1) (i := iB) X65 1 rfl (by rfl) _ _ (by rfl) Tryz.underlying52 giB gB0 gB1 gB2 rfl (by omega) (by rfl) r.B K r.k ((r.E.flatMap encP).take (K * 1)) (by rfl) lB1 (fun hp => (HC.out _ X65.bas).2.2.2.2.2.b.src_take hK hp) oB1 (by unfold maxLen; omega) (by omega) ?_
     intro b66 q66 s66
     have X66 : PXi w bl i d2 a65 (0 + K + 1 + (r.E.length - K)) (x3 r K i d2) b66 (0 + K) (y1 r K) (some G6) (some G18) q66 := s66
     refine hK'.out _ _ (HC.out _ X66.bas) ?_
     clear hK' K' s66 X65
     try simp only [Act.put, List.setIfInBounds_toArray, List.set]
     refine wpTr_one ?_
     refine wpTr_runL rfl (fun K' hK' => ?_)
     refine step_rowM (t := 52) (e := 4) (size := 1) (bytes := 1) (i := iB) X66 1 rfl (by rfl) _ _ (by rfl) Tryz.underlying52 giB gB0 gB1 gB2 rfl (by omega) (by rfl) (some ⟨G18, 0, none⟩) 1 1 [.bool true] (by rfl) rfl (fun _ => ⟨_, rfl, one_src X66.cell18⟩) (by intro u hu; simp at hu; rw [hu]; rfl) (by unfold maxLen; omega) (by omega) ?_
     intro b67 q67 s67
     have X67 : PXi w bl i d2 a65 (0 + K + 1 + (r.E.length - K)) (x3 r K i d2) b67 (0 + K + 1) (y2 r K) (some G6) (some G18) q67 := s67
     refine hK'.out _ _ (HC.out _ X67.bas) ?_
     clear hK' K' s67 X66
     try simp only [Act.put, List.setIfInBounds_toArray, List.set]
     refine wpTr_one ?_
     refine wpTr_runL rfl (fun K' hK' => ?_)
     refine step_rowM (t := 52) (e := 4) (size := 1) (bytes := 1) (i := iB) X67 1 rfl (by rfl) _ _ (by rfl) Tryz.underlying52 giB gB0 gB1 gB2 rfl (by omega) (by rfl) B3 (r.E.length - K) (r.k - K) ((r.E.flatMap encP).drop (K * 1)) (by rfl) lB3 (fun hp => (HC.out _ X67.bas).2.2.2.2.2.b.src_drop hB3 hp) oB3 (by unfold maxLen; omega) (by omega) ?_
     intro b68 q68 s68
     have X68 : PXi w bl i d2 a65 (0 + K + 1 + (r.E.length - K)) (x3 r K i d2) b68 (0 + K + 1 + (r.E.length - K)) (y3 r K) (some G6) (some G18) q68 := s68
     refine hK'.out _ _ (HC.out _ X68.bas) ?_
     clear hK' K' s68 X67
     try simp only [Act.put, List.setIfInBounds_toArray, List.set]
     obtain ⟨gA, cA, rfl⟩ := own_some X68.rows.1 (by omega)
     obtain ⟨gB, cB, rfl⟩ := own_some X68.rows.2 (by omega)
     obtain ⟨M, hM⟩ : ∃ M, 0 + K + 1 + (r.E.length - K) = M := ⟨_, rfl⟩
     rw [hM] at X68
     simp only [hM]
     have HM := Lib.hid hM
     clear hM
     refine wpTr_takeL rfl ?_ (Or.inl ⟨by rfl, ?_⟩) ?_
     rotate_left
     · (intro w' hSw; obtain ⟨h1, h2, h3, h4, h5, _⟩ := hSw; go_simp; try with_reducible rfl)
     try simp only [Act.put, List.setIfInBounds_toArray, List.set]
     rw [← HBL.out] at X68
     have XS : SW w.heap.size w (xl w w3 r d d2 bs i K M gA cA gB cB G6 G18) _ := X68
     have z0 := (XS.cell 7 rfl).cell 0
     have z1 := (XS.cell 7 rfl).cell 1
     have f0 := (XS.cell 7 rfl).frozen 0
     have f1 := (XS.cell 7 rfl).frozen 1
     have XT := (XS.setAt 7 rfl 0 (.slice (some ⟨gA, 0, none⟩) M cA)).setAt 7 rfl 1 (.slice (some ⟨gB, 0, none⟩) M cB)
     refine wpTr_one ?_
     refine wpTr_runL rfl (fun K' hK' => ?_)
     go_simp
     refine hK'.out _ _ ⟨(XT.cell 8 rfl).cell 0, (XT.cell 8 rfl).cell 1, (XT.cell 4 rfl).cell 0, (XT.cell 4 rfl).cell 1, (XT.cell 4 rfl).cell 2, XT.get 10 (o := r3Ob r) rfl⟩ ?_
     clear hK' K' z0 z1 f0 f1 X68 XS
     try simp only [Act.put, List.setIfInBounds_toArray, List.set]
     have z0 := (XT.cell 6 rfl).cell 0
     have z1 := (XT.cell 6 rfl).cell 1
     have f0 := (XT.cell 6 rfl).frozen 0
     have f1 := (XT.cell 6 rfl).frozen 1
     have XU := (XT.setAt 6 rfl 0 (.int .u64 i.1)).setAt 6 rfl 1 (.int .i64 i.2)
     refine wpTr_one ?_
     refine wpTr_runL rfl (fun K' hK' => ?_)
     go_simp
     refine hK'.out _ _ ⟨(XU.cell 8 rfl).cell 0, (XU.cell 8 rfl).cell 1, (XU.cell 4 rfl).cell 0, (XU.cell 4 rfl).cell 1, (XU.cell 4 rfl).cell 2, XU.get 10 (o := r3Ob r) rfl⟩ ?_
     clear hK' K' z0 z1 f0 f1 XT
     try simp only [Act.put, List.setIfInBounds_toArray, List.set]
     refine wpTr_nil ?_
     simp only [List.drop_succ_cons, List.drop_zero]
     have e0 := (XU.cell 7 rfl).cell 0
     have e1 := (XU.cell 7 rfl).cell 1
     have e2 := (XU.cell 6 rfl).cell 0
     have e3 := (XU.cell 6 rfl).cell 1
     go_wp2_with fail
     obtain ⟨hl, hok'⟩ := rput_ok HK.out HM.out (XU.get 0 rfl) (XU.get 1 rfl) (XU.get 5 (o := bufOb d2 bs) rfl) (XU.get 10 (o := r3Ob r) rfl) hlen
     refine bodyPost_ret (v := .tuple #[.agg #[.slice (some ⟨gA, 0, none⟩) M cA, .slice (some ⟨gB, 0, none⟩) M cB], .agg #[.int .u64 i.1, .int .i64 i.2], .int .i64 0]) ?_ rfl ?_
     · simp [results, Tryz.results36, go_sem, e0, e1, e2, e3]
     · refine ⟨⟨some ⟨gA, 0, none⟩, cA, some ⟨gB, 0, none⟩, cB, putE r.E ⟨i, d2, bs, true⟩⟩, d2, ?_, hok', rfl, XU.2, fun j hj => ?_⟩
       · show _ = Ending.returned (.tuple #[.agg #[.slice (some ⟨gA, 0, none⟩) (putE r.E ⟨i, d2, bs, true⟩).length cA, .slice (some ⟨gB, 0, none⟩) (putE r.E ⟨i, d2, bs, true⟩).length cB], .agg #[.int .u64 i.1, .int .i64 i.2], .int .i64 0])
         rw [hl]
       · rcases hj with ⟨_, e | e⟩ | ⟨f, hf, e⟩
         · injection e with e
           injection e with e
           subst e
           exact .inl (XU.1.own_ge (k := 0) rfl rfl).1
         · injection e with e
           injection e with e
           subst e
           exact .inl (XU.1.own_ge (k := 1) rfl rfl).1
         · rcases putE_mem.1 hf with rfl | hf
           · exact .inl (XU.1.own_ge (k := 5) (o := bufOb d2 bs) rfl e).1
           · exact .inr (.inr ⟨f, hf, e⟩)
   · refine wpTr_runL rfl (fun K' hK' => ?_)
     have X69 := Z61.six
     go_simp
     refine hK'.out _ _ (HC.out _ X69.bas) ?_
     clear hK' K' Z61
     obtain ⟨G6, q69, e69, f69, Z69⟩ : ∃ G6 q69, Hid (_ = G6) ∧ Hid (_ = q69) ∧ PXi w bl i d2 (.slice none 0 0) 0 [] (.slice none 0 0) 0 [] (some G6) (some G18) q69 := ⟨_, _, rfl, rfl, X69⟩
     rw [e69.out, f69.out]
     clear e69 f69 X69
     try simp only [Act.put, List.setIfInBounds_toArray, List.set]
     refine wpTr_one ?_
     refine wpTr_runL rfl (fun K' hK' => ?_)
     refine step_rowM (t := 51) (e := 65) (size := 3) (bytes := 40) (i := iA) Z69 0 rfl (by rfl) _ _ (by rfl) Tryz.underlying51 giA gA0 gA1 gA2 rfl (by omega) (by rfl) r.A K r.c ((r.E.flatMap encK).take (K * 3)) (by rfl) lA1 (fun hp => (HC.out _ Z69.bas).2.2.2.2.2.a.src_take hK hp) oA1 (by unfold maxLen; omega) (by omega) ?_
     intro a70 q70 s70
     have X70 : PXi w bl i d2 a70 (0 + K) (x1 r K) (.slice none 0 0) 0 [] (some G6) (some G18) q70 := s70
     refine hK'.out _ _ (HC.out _ X70.bas) ?_
     clear hK' K' s70 Z69
     try simp only [Act.put, List.setIfInBounds_toArray, List.set]
     refine wpTr_one ?_
     refine wpTr_runL rfl (fun K' hK' => ?_)
     refine step_rowM (t := 51) (e := 65) (size := 3) (bytes := 40) (i := iA) X70 0 rfl (by rfl) _ _ (by rfl) Tryz.underlying51 giA gA0 gA1 gA2 rfl (by omega) (by rfl) (some ⟨G6, 0, none⟩) 1 1 [.int .u64 i.1, .int .i64 i.2, .slice d2.A d2.len d2.cap] (by rfl) rfl (fun _ => ⟨_, rfl, fun j u hu => by rw [lit_add, Nat.zero_add, X70.cell6 j]; simpa using hu⟩) (by intro u hu; simp at hu; rcases hu with rfl | rfl | rfl <;> rfl) (by unfold maxLen; omega) (by omega) ?_
     intro a71 q71 s71
     have X71 : PXi w bl i d2 a71 (0 + K + 1) (x2 r K i d2) (.slice none 0 0) 0 [] (some G6) (some G18) q71 := s71
     refine hK'.out _ _ (HC.out _ X71.bas) ?_
     clear hK' K' s71 X70
     try simp only [Act.put, List.setIfInBounds_toArray, List.set]
     refine wpTr_one ?_
     refine wpTr_runL rfl (fun K' hK' => ?_)
     refine step_rowM (t := 51) (e := 65) (size := 3) (bytes := 40) (i := iA) X71 0 rfl (by rfl) _ _ (by rfl) Tryz.underlying51 giA gA0 gA1 gA2 rfl (by omega) (by rfl) A3 (r.E.length - K) (r.c - K) ((r.E.flatMap encK).drop (K * 3)) (by rfl) lA3 (fun hp => (HC.out _ X71.bas).2.2.2.2.2.a.src_drop hA3 hp) oA3 (by unfold maxLen; omega) (by omega) ?_
     intro a72 q72 s72
     have X72 : PXi w bl i d2 a72 (0 + K + 1 + (r.E.length - K)) (x3 r K i d2) (.slice none 0 0) 0 [] (some G6) (some G18) q72 := s72
     refine hK'.out _ _ (HC.out _ X72.bas) ?_
     clear hK' K' s72 X71
     try simp only [Act.put, List.setIfInBounds_toArray, List.set]
     refine wpTr_one ?_
     refine wpTr_runL rfl (fun K' hK' => ?_)
     refine step_rowM (t := 52) (e := 4) (size := 1) (bytes := 1) (i := iB) X72 1 rfl (by rfl) _ _ (by rfl) Tryz.underlying52 giB gB0 gB1 gB2 rfl (by omega) (by rfl) r.B K r.k ((r.E.flatMap encP).take (K * 1)) (by rfl) lB1 (fun hp => (HC.out _ X72.bas).2.2.2.2.2.b.src_take hK hp) oB1 (by unfold maxLen; omega) (by omega) ?_
     intro b73 q73 s73
     have X73 : PXi w bl i d2 a72 (0 + K + 1 + (r.E.length - K)) (x3 r K i d2) b73 (0 + K) (y1 r K) (some G6) (some G18) q73 := s73
     refine hK'.out _ _ (HC.out _ X73.bas) ?_
     clear hK' K' s73 X72
     try simp only [Act.put, List.setIfInBounds_toArray, List.set]
     refine wpTr_one ?_
     refine wpTr_runL rfl (fun K' hK' => ?_)
     refine step_rowM (t := 52) (e := 4) (size := 1) (bytes := 1) (i := iB) X73 1 rfl (by rfl) _ _ (by rfl) Tryz.underlying52 giB gB0 gB1 gB2 rfl (by omega) (by rfl) (some ⟨G18, 0, none⟩) 1 1 [.bool true] (by rfl) rfl (fun _ => ⟨_, rfl, one_src X73.cell18⟩) (by intro u hu; simp at hu; rw [hu]; rfl) (by unfold maxLen; omega) (by omega) ?_
     intro b74 q74 s74
     have X74 : PXi w bl i d2 a72 (0 + K + 1 + (r.E.length - K)) (x3 r K i d2) b74 (0 + K + 1) (y2 r K) (some G6) (some G18) q74 := s74
     refine hK'.out _ _ (HC.out _ X74.bas) ?_
     clear hK' K' s74 X73
     try simp only [Act.put, List.setIfInBounds_toArray, List.set]
     refine wpTr_one ?_
     refine wpTr_runL rfl (fun K' hK' => ?_)
     refine step_rowM (t := 52) (e := 4) (size := 1) (bytes := 1) (i := iB) X74 1 rfl (by rfl) _ _ (by rfl) Tryz.underlying52 giB gB0 gB1 gB2 rfl (by omega) (by rfl) B3 (r.E.length - K) (r.k - K) ((r.E.flatMap encP).drop (K * 1)) (by rfl) lB3 (fun hp => (HC.out _ X74.bas).2.2.2.2.2.b.src_drop hB3 hp) oB3 (by unfold maxLen; omega) (by omega) ?_
     intro b75 q75 s75
     have X75 : PXi w bl i d2 a72 (0 + K + 1 + (r.E.length - K)) (x3 r K i d2) b75 (0 + K + 1 + (r.E.length - K)) (y3 r K) (some G6) (some G18) q75 := s75
     refine hK'.out _ _ (HC.out _ X75.bas) ?_
     clear hK' K' s75 X74
     try simp only [Act.put, List.setIfInBounds_toArray, List.set]
     obtain ⟨gA, cA, rfl⟩ := own_some X75.rows.1 (by omega)
     obtain ⟨gB, cB, rfl⟩ := own_some X75.rows.2 (by omega)
     obtain ⟨M, hM⟩ : ∃ M, 0 + K + 1 + (r.E.length - K) = M := ⟨_, rfl⟩
     rw [hM] at X75
     simp only [hM]
     have HM := Lib.hid hM
     clear hM
     refine wpTr_takeL rfl ?_ (Or.inl ⟨by rfl, ?_⟩) ?_
     rotate_left
     · (intro w' hSw; obtain ⟨h1, h2, h3, h4, h5, _⟩ := hSw; go_simp; try with_reducible rfl)
     try simp only [Act.put, List.setIfInBounds_toArray, List.set]
     rw [← HBL.out] at X75
     have XS : SW w.heap.size w (xl w w3 r d d2 bs i K M gA cA gB cB G6 G18) _ := X75
     have z0 := (XS.cell 7 rfl).cell 0
     have z1 := (XS.cell 7 rfl).cell 1
     have f0 := (XS.cell 7 rfl).frozen 0
     have f1 := (XS.cell 7 rfl).frozen 1
     have XT := (XS.setAt 7 rfl 0 (.slice (some ⟨gA, 0, none⟩) M cA)).setAt 7 rfl 1 (.slice (some ⟨gB, 0, none⟩) M cB)
     refine wpTr_one ?_
     refine wpTr_runL rfl (fun K' hK' => ?_)
     go_simp
     refine hK'.out _ _ ⟨(XT.cell 8 rfl).cell 0, (XT.cell 8 rfl).cell 1, (XT.cell 4 rfl).cell 0, (XT.cell 4 rfl).cell 1, (XT.cell 4 rfl).cell 2, XT.get 10 (o := r3Ob r) rfl⟩ ?_
     clear hK' K' z0 z1 f0 f1 X75 XS
     try simp only [Act.put, List.setIfInBounds_toArray, List.set]
     have z0 := (XT.cell 6 rfl).cell 0
     have z1 := (XT.cell 6 rfl).cell 1
     have f0 := (XT.cell 6 rfl).frozen 0
     have f1 := (XT.cell 6 rfl).frozen 1
     have XU := (XT.setAt 6 rfl 0 (.int .u64 i.1)).setAt 6 rfl 1 (.int .i64 i.2)
     refine wpTr_one ?_
     refine wpTr_runL rfl (fun K' hK' => ?_)
     go_simp
     refine hK'.out _ _ ⟨(XU.cell 8 rfl).cell 0, (XU.cell 8 rfl).cell 1, (XU.cell 4 rfl).cell 0, (XU.cell 4 rfl).cell 1, (XU.cell 4 rfl).cell 2, XU.get 10 (o := r3Ob r) rfl⟩ ?_
     clear hK' K' z0 z1 f0 f1 XT
     try simp only [Act.put, List.setIfInBounds_toArray, List.set]
     refine wpTr_nil ?_
     simp only [List.drop_succ_cons, List.drop_zero]
     have e0 := (XU.cell 7 rfl).cell 0
     have e1 := (XU.cell 7 rfl).cell 1
     have e2 := (XU.cell 6 rfl).cell 0
     have e3 := (XU.cell 6 rfl).cell 1
     go_wp2_with fail
     obtain ⟨hl, hok'⟩ := rput_ok HK.out HM.out (XU.get 0 rfl) (XU.get 1 rfl) (XU.get 5 (o := bufOb d2 bs) rfl) (XU.get 10 (o := r3Ob r) rfl) hlen
     refine bodyPost_ret (v := .tuple #[.agg #[.slice (some ⟨gA, 0, none⟩) M cA, .slice (some ⟨gB, 0, none⟩) M cB], .agg #[.int .u64 i.1, .int .i64 i.2], .int .i64 0]) ?_ rfl ?_
     · simp [results, Tryz.results36, go_sem, e0, e1, e2, e3]
     · refine ⟨⟨some ⟨gA, 0, none⟩, cA, some ⟨gB, 0, none⟩, cB, putE r.E ⟨i, d2, bs, true⟩⟩, d2, ?_, hok', rfl, XU.2, fun j hj => ?_⟩
       · show _ = Ending.returned (.tuple #[.agg #[.slice (some ⟨gA, 0, none⟩) (putE r.E ⟨i, d2, bs, true⟩).length cA, .slice (some ⟨gB, 0, none⟩) (putE r.E ⟨i, d2, bs, true⟩).length cB], .agg #[.int .u64 i.1, .int .i64 i.2], .int .i64 0])
         rw [hl]
       · rcases hj with ⟨_, e | e⟩ | ⟨f, hf, e⟩
         · injection e with e
           injection e with e
           subst e
           exact .inl (XU.1.own_ge (k := 0) rfl rfl).1
         · injection e with e
           injection e with e
           subst e
           exact .inl (XU.1.own_ge (k := 1) rfl rfl).1
         · rcases putE_mem.1 hf with rfl | hf
           · exact .inl (XU.1.own_ge (k := 5) (o := bufOb d2 bs) rfl e).1
           · exact .inr (.inr ⟨f, hf, e⟩)
end Go.Proofs.YteabgcollokgjaaGreatDoor
