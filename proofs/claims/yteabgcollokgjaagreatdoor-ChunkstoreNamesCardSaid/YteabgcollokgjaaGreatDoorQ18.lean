/- FE in one text. -/
import Derived.Test.YteabgcollokgjaaGreatDoorQ17
namespace Go.Proofs.YteabgcollokgjaaGreatDoor
open Go.RowKit Go.MapKept Go.ChangeMaps Go.Shelf Go.Sort

/-- The bytes of a pending chunk. -/
def pendB (C : Chs) (i : ID) : List UInt8 := match asc C i with | some (.pend _ bs) => bs | _ => []
def wstep (base : Nat) (C : Chs) (p : Chs × List UInt8) (i : ID) : Chs × List UInt8 := (setL p.1 i (.at (base + p.2.length)), p.2 ++ headB i 1 (base + p.2.length) ++ pendB C i)
def wfold (base : Nat) (C : Chs) (M : Chs) (ids : List ID) : Chs × List UInt8 := ids.foldl (wstep base C) (M, [])
theorem wfold_snoc (base : Nat) (C : Chs) (M : Chs) (ids : List ID) (i : ID) : wfold base C M (ids ++ [i]) = wstep base C (wfold base C M ids) i := by
  unfold wfold
  rw [List.foldl_append]
  rfl
theorem wfold_len (base : Nat) (C : Chs) (M : Chs) (ids : List ID) (h : ∀ i ∈ ids, (pendB C i).length = i.2.toNat) : (wfold base C M ids).2.length = frSum ids := by
  have : ∀ (ids : List ID) (p : Chs × List UInt8), (∀ i ∈ ids, (pendB C i).length = i.2.toNat) → (ids.foldl (wstep base C) p).2.length = p.2.length + frSum ids := by
    intro ids
    induction ids with
    | nil => intro p _; simp [frSum]
    | cons i ids ih =>
      intro p hp
      rw [List.foldl_cons, ih _ (fun j hj => hp j (by simp [hj]))]
      unfold wstep
      simp only [List.length_append, headB_len, hp i (by simp)]
      simp [frSum]
      omega
  have h2 := this ids (M, []) h
  simpa [wfold] using h2
theorem len_le_frSum (ids : List ID) : ids.length ≤ frSum ids := by
  induction ids with
  | nil => simp
  | cons i ids ih =>
    have : frSum (i :: ids) = 28 + i.2.toNat + frSum ids := by simp [frSum]
    rw [this, List.length_cons]
    omega
def wfOp (F : Option FR) (nm : ByteArray) (bs : List UInt8) : POp := match F with
  | none => ⟨.create, fileN nm, ByteArray.empty, bs, true⟩
  | some _ => ⟨.add, fileN nm, ByteArray.empty, bs, true⟩
/-- What writeFile works on. -/
structure WFS where
  pc : Nat
  SA : Option Addr
  sn : Nat
  sc : Nat
  av : Value
  len : Int
  ids : List ID
  lv : Value
  mv : Nat
  M : Chs
  ys : List Ent
abbrev WFS.cs (q : WFS) : Array Value := #[.int .i64 1, .bool false, .slice q.SA q.sn q.sc, q.av, .int .i64 q.len]
abbrev WFS.rest (q : WFS) (x : SR) (l : List Ob) : List Ob := rowOb 31 2 q.av q.ids.length (q.ids.flatMap encID) :: rowOb 214 1 q.lv 1 [vPtr q.pc] :: ebOb (.slice q.SA q.sn q.sc) q.ys :: x.obs l
abbrev WFS.obs (q : WFS) (x : SR) (l : List Ob) : List Ob := cellOb q.pc 216 q.cs :: chOb q.mv q.M :: q.rest x l
def WFPost (b : Nat) (w0 : World) (q : WFS) (x : SR) (l : List Ob) (e : Ending) (w' : World) : Prop :=
  ∃ n r', Cnt x.s.now n ∧ e = .returned (.int .i64 (reqE x.s n (wfOp x.F x.nm (wfold (flen x.F) x.C q.M q.ids).2))) ∧
    SW b w0 (({ q with M := (wfold (flen x.F) x.C q.M q.ids).1 } : WFS).obs { x with r := r', s := reqS x.s n (wfOp x.F x.nm (wfold (flen x.F) x.C q.M q.ids).2) } l) w'
/-- The frame's state. -/
abbrev WFS.fr (q : WFS) (bc bb b4 bm base : Nat) (M : Chs) (d : BD) (bs : List UInt8) : FrS := ⟨bc, bb, b4, bm, q.pc, q.cs, base, q.mv, M, d, bs⟩
theorem SW.newBuf {b : Nat} {w0 w : World} {l : List Ob} (h : SW b w0 l w) : SW b w0 (bufOb ⟨none, 0, 0⟩ [] :: l) w := by
  refine ⟨⟨h.1.base, fun y hy => ?_, fun y hy i hi => ?_, fun y hy i hi => ?_, List.pairwise_cons.2 ⟨fun y hy => ⟨fun i hi => ?_, fun i hi hi' => ?_⟩, h.1.apart⟩⟩, h.2⟩
  · rcases List.mem_cons.1 hy with rfl | hy
    · exact rb_nil w
    · exact h.1.holds y hy
  · rcases List.mem_cons.1 hy with rfl | hy
    · cases hi
    · exact h.1.own y hy i hi
  · rcases List.mem_cons.1 hy with rfl | hy
    · cases hi
    · exact h.1.rd y hy i hi
  · cases hi
  · cases hi'
/-- The bytes of a pending chunk, seen by themselves. -/
theorem SW.viewCh {b : Nat} {w0 w : World} {cm : Nat} {C : Chs} {t : List Ob} (h : SW b w0 (chOb cm C :: t) w) {i : ID} {d : BD} {bs : List UInt8} (hm : (i, Pl.pend d bs) ∈ C) : SW b w0 (rsOb d.A bs :: chOb cm C :: t) w := by
  have hh := h.get 0 (o := chOb cm C) rfl
  refine ⟨h.1.view (o' := rsOb d.A bs) (hh.2 i d bs hm).1.rs (fun _ h => h) (fun j hj => ?_) (fun j hj hr => ?_), h.2⟩
  · obtain ⟨_, o, e⟩ := hj
    refine ⟨i, d, bs, hm, ?_⟩
    unfold blk
    rw [e]
    rfl
  · have e : j = cm := hj
    subst e
    obtain ⟨id, d', bs', hm', hb⟩ := hr
    exact RB.ne_mapM hh.1 (hh.2 id d' bs' hm').1 hb
def flV : Option FR → Value | none => .pointer none | some f => vPtr f.fb
theorem look_flV {w : World} {fm : Nat} {F : Option FR} (h : MapIs okN vN vPtr w fm (fL F)) : (Instr.lookup 129 (.map (some fm)) (.int .i64 1) false).run Tryz.prog w = .ok (flV F) w := by
  cases F with
  | none => exact look_f0 h rfl
  | some f => exact look_f1 h rfl
theorem flV_neq (F : Option FR) (W : World) : (binOp .neq 146 (flV F) (.pointer none)).run Tryz.prog W = .ok (.bool F.isSome) W := by
  cases F with
  | none => kernel_rfl
  | some f => kernel_rfl
theorem flV_grd (F : Option FR) (a c : Operand) (W : World) : (eqGuard BinOp.neq 146 a c (flV F) (.pointer none)).run Tryz.prog W = .ok () W := by
  cases F with
  | none => kernel_rfl
  | some f => kernel_rfl
theorem field138 (A : Option Addr) (n c : Nat) (x y : Int) (W : World) : (Instr.field 138 (.agg #[.slice A n c, .int .i64 x, .int .i64 y]) 0).run Tryz.prog W = .ok (.slice A n c) W := by kernel_rfl
theorem look_pend {w : World} {cm : Nat} {C : Chs} (h : MapIs okID vID vPl w cm C) {i : ID} (hi : okID i) {d : BD} {bs : List UInt8} (ha : asc C i = some (.pend d bs)) : (Instr.lookup 128 (.map (some cm)) (.agg #[.int .u64 i.1, .int .i64 i.2]) false).run Tryz.prog w = .ok (.agg #[.slice d.A d.len d.cap, .int .i64 0, .int .i64 0]) w := by
  have := MapIs.look mkI Tryz.underlying128 (zero138 w) h hi false
  rw [ha] at this
  exact this
set_option maxRecDepth 100000 in
set_option maxHeartbeats 8000000 in
theorem writeFile_any {b : Nat} {w0 w : World} {q : WFS} {x : SR} {l : List Ob} (h : SW b w0 (q.obs x l) w) (hcl : ∀ f, x.F = some f → f.clean = true) (hnm : x.nm.size ≤ 1000)
    (hids : ∀ i ∈ q.ids, ∃ d bs, asc x.C i = some (.pend d bs) ∧ i.2 = (bs.length : Int) ∧ bs.length ≤ 8192 ∧ okID i ∧ 0 ≤ i.1 ∧ i.1 < 18446744073709551616) (hn : 0 < q.ids.length) (hsum : flen x.F + frSum q.ids ≤ 1048576) (hL : x.s.ops.length ≤ 1000000) :
    Calls Tryz.prog 181 #[vPtr x.ps, vPtr q.pc, .map (some q.mv)] w (WFPost b w0 q x l) := by
  obtain ⟨pc, SA, sn, sc, av, len, ids, lv, mv, M, ys⟩ := q
  simp only at hids hn hsum
  obtain ⟨ag, ac, rfl⟩ := own_some (h.get 2 (o := rowOb 31 2 av ids.length (ids.flatMap encID)) rfl) (by omega)
  have hidl : ids.length ≤ 1048576 := Nat.le_trans (len_le_frSum ids) (by omega)
  have HBL : Hid ((wfold (flen x.F) x.C M ids).2.length ≤ 1048576) := by
    rw [Hid, wfold_len _ _ _ _ (fun j hj => by
      obtain ⟨d', bs', h1, h2, _⟩ := hids j hj
      unfold pendB
      rw [h1, h2]
      simp)]
    omega
  have HCL := Lib.hid hcl
  have HIDS := Lib.hid hids
  obtain ⟨fv, HFV⟩ : ∃ fv, Hid (flV x.F = fv) := ⟨_, rfl⟩
  have qn : ∀ W, (binOp .neq 146 fv (.pointer none)).run Tryz.prog W = .ok (.bool x.F.isSome) W := fun W => by rw [← HFV.out]; exact flV_neq x.F W
  have qg : ∀ W, (eqGuard BinOp.neq 146 (.tmp 67) (.const (.pointer none)) fv (.pointer none)).run Tryz.prog W = .ok () W := fun W => by rw [← HFV.out]; exact flV_grd x.F _ _ W
  have qg2 : ∀ W, (eqGuard BinOp.neq 146 (.tmp 124) (.const (.pointer none)) fv (.pointer none)).run Tryz.prog W = .ok () W := fun W => by rw [← HFV.out]; exact flV_grd x.F _ _ W
  have S1 : Hid (SW b w0 (cellOb (w.heap.size + 1 + 1 + 1) 3 #[.int .i64 0] :: cellOb (w.heap.size + 1 + 1) 34 #[.slice none 0 0] :: cellOb (w.heap.size + 1) 128 #[.map (some mv)] :: cellOb w.heap.size 214 #[vPtr pc] :: cellOb pc 216 #[.int .i64 1, .bool false, .slice SA sn sc, .slice (some ⟨ag, 0, none⟩) ids.length ac, .int .i64 len] :: chOb mv M :: (rowOb 31 2 (.slice (some ⟨ag, 0, none⟩) ids.length ac) ids.length (ids.flatMap encID) :: rowOb 214 1 lv 1 [vPtr pc] :: ebOb (.slice SA sn sc) ys :: x.obs l)) ((((w.alloc (.cells #[vPtr pc] 214)).alloc (.cells #[.map (some mv)] 128)).alloc (.cells #[.slice none 0 0] 34)).alloc (.cells #[.int .i64 0] 3))) :=
    (((h.newCell 214 #[vPtr pc]).newCellAt 128 #[.map (some mv)] (by simp)).newCellAt 34 #[.slice none 0 0] (by simp)).newCellAt 3 #[.int .i64 0] (by simp)
  clear h hcl hids
  go_enter Tryz.func181, Tryz.ntmps181
  go_upto_region 4 with fail
  generalize (((w.alloc (.cells #[vPtr pc] 214)).alloc (.cells #[.map (some mv)] 128)).alloc (.cells #[.slice none 0 0] 34)).alloc (.cells #[.int .i64 0] 3) = W at S1 ⊢
  generalize w.heap.size + 1 + 1 + 1 = bb at S1 ⊢
  generalize w.heap.size + 1 + 1 = b4 at S1 ⊢
  generalize w.heap.size + 1 = bm at S1 ⊢
  generalize w.heap.size = bc at S1 ⊢
  have S2 : Hid (SW b w0 ((⟨bc, bb, b4, bm, pc, #[.int .i64 1, .bool false, .slice SA sn sc, .slice (some ⟨ag, 0, none⟩) ids.length ac, .int .i64 len], 0, mv, M, ⟨none, 0, 0⟩, []⟩ : FrS).obs (rowOb 31 2 (.slice (some ⟨ag, 0, none⟩) ids.length ac) ids.length (ids.flatMap encID) :: rowOb 214 1 lv 1 [vPtr pc] :: ebOb (.slice SA sn sc) ys :: x.obs l)) W) := SW.front (pre := [_, _, _, _, _, _, _]) (t := (rowOb 31 2 (.slice (some ⟨ag, 0, none⟩) ids.length ac) ids.length (ids.flatMap encID) :: rowOb 214 1 lv 1 [vPtr pc] :: ebOb (.slice SA sn sc) ys :: x.obs l)) S1.out.newBuf [4, 1, 2, 3, 5, 6, 0] (n := 7) rfl (by decide)
  have S3 := Lib.hid S2.out.drew
  clear S1 S2
  refine wp_region_held_tail [(0, true), (1, true), (2, true), (3, true), (4, true), (5, true), (6, true), (7, true), (8, true)] (SW b w0 ((⟨bc, bb, b4, bm, pc, #[.int .i64 1, .bool false, .slice SA sn sc, .slice (some ⟨ag, 0, none⟩) ids.length ac, .int .i64 len], 0, mv, M, ⟨none, 0, 0⟩, []⟩ : FrS).obs (rowOb 31 2 (.slice (some ⟨ag, 0, none⟩) ids.length ac) ids.length (ids.flatMap encID) :: rowOb 214 1 lv 1 [vPtr pc] :: ebOb (.slice SA sn sc) ys :: x.obs l))) (by kernel_rfl) (fun _ _ d _ _ h => by cases d <;> exact h) (by kernel_rfl) S3.out ?_
  simp only [picked, List.map_cons, List.map_nil, List.getD_cons_succ, List.getD_cons_zero]
  generalize W.drew = W2 at S3 ⊢
  have HC := Lib.hid (fun (w' : World) (h : SW b w0 ((⟨bc, bb, b4, bm, pc, #[.int .i64 1, .bool false, .slice SA sn sc, .slice (some ⟨ag, 0, none⟩) ids.length ac, .int .i64 len], 0, mv, M, ⟨none, 0, 0⟩, []⟩ : FrS).obs (rowOb 31 2 (.slice (some ⟨ag, 0, none⟩) ids.length ac) ids.length (ids.flatMap encID) :: rowOb 214 1 lv 1 [vPtr pc] :: ebOb (.slice SA sn sc) ys :: x.obs l)) w') => (⟨(h.cell 11 (g := x.ps) (t := 131) (cs := x.cells) rfl).cell 3, (h.cell 0 rfl).cell 0, (h.cell 4 rfl).cell 0, by
    rw [← HFV.out]
    exact look_flV (h.get 13 (o := flOb x.fm x.F) rfl).1⟩ : w'.cell? ⟨x.ps, 3, none⟩ = some (.map (some x.fm)) ∧ w'.cell? ⟨bc, 0, none⟩ = some (vPtr pc) ∧ w'.cell? ⟨pc, 0, none⟩ = some (.int .i64 1) ∧ (Instr.lookup 129 (.map (some x.fm)) (.int .i64 1) false).run Tryz.prog w' = .ok fv w'))
  (refine wpHeld_take (v := ?_) (Or.inl ⟨by rfl, ?_⟩) ?_
   rotate_left
   · (intro w' hSw; obtain ⟨h1, h2, h3, h4⟩ := HC.out w' hSw; go_simp; try with_reducible rfl)
   try simp only [Act.put, List.setIfInBounds_toArray, List.set_cons_zero, List.set_cons_succ])
  (refine wpHeld_take (v := ?_) (Or.inl ⟨by rfl, ?_⟩) ?_
   rotate_left
   · (intro w' hSw; obtain ⟨h1, h2, h3, h4⟩ := HC.out w' hSw; go_simp; try with_reducible rfl)
   try simp only [Act.put, List.setIfInBounds_toArray, List.set_cons_zero, List.set_cons_succ])
  (refine wpHeld_take (v := ?_) (Or.inl ⟨by rfl, ?_⟩) ?_
   rotate_left
   · (intro w' hSw; obtain ⟨h1, h2, h3, h4⟩ := HC.out w' hSw; go_simp; try with_reducible rfl)
   try simp only [Act.put, List.setIfInBounds_toArray, List.set_cons_zero, List.set_cons_succ])
  (refine wpHeld_take (v := ?_) (Or.inl ⟨by rfl, ?_⟩) ?_
   rotate_left
   · (intro w' hSw; obtain ⟨h1, h2, h3, h4⟩ := HC.out w' hSw; go_simp; try with_reducible rfl)
   try simp only [Act.put, List.setIfInBounds_toArray, List.set_cons_zero, List.set_cons_succ])
  (refine wpHeld_take (v := ?_) (Or.inl ⟨by rfl, ?_⟩) ?_
   rotate_left
   · (intro w' hSw; obtain ⟨h1, h2, h3, h4⟩ := HC.out w' hSw; go_simp; try with_reducible rfl)
   try simp only [Act.put, List.setIfInBounds_toArray, List.set_cons_zero, List.set_cons_succ])
  (refine wpHeld_take (v := ?_) (Or.inl ⟨by rfl, ?_⟩) ?_
   rotate_left
   · (intro w' hSw; obtain ⟨h1, h2, h3, h4⟩ := HC.out w' hSw; go_simp; try with_reducible rfl)
   try simp only [Act.put, List.setIfInBounds_toArray, List.set_cons_zero, List.set_cons_succ])
  (refine wpHeld_take (v := ?_) (Or.inl ⟨by rfl, ?_⟩) ?_
   rotate_left
   · (intro w' hSw; obtain ⟨h1, h2, h3, h4⟩ := HC.out w' hSw; go_simp; try with_reducible rfl)
   try simp only [Act.put, List.setIfInBounds_toArray, List.set_cons_zero, List.set_cons_succ])
  (refine wpHeld_take (v := ?_) (Or.inl ⟨by rfl, ?_⟩) ?_
   rotate_left
   · (intro w' hSw; obtain ⟨h1, h2, h3, h4⟩ := HC.out w' hSw; go_simp; try with_reducible rfl)
   try simp only [Act.put, List.setIfInBounds_toArray, List.set_cons_zero, List.set_cons_succ])
  (refine wpHeld_take (v := ?_) (Or.inl ⟨by rfl, ?_⟩) ?_
   rotate_left
   · (intro w' hSw; obtain ⟨h1, h2, h3, h4⟩ := HC.out w' hSw; go_simp; try with_reducible rfl)
   try simp only [Act.put, List.setIfInBounds_toArray, List.set_cons_zero, List.set_cons_succ])
  refine wpHeld_nil ?_
  simp only [List.length_cons, List.length_nil, List.drop_succ_cons, List.drop_zero]
  clear HC
  have c1 : W2.cell? ⟨bc, 0, none⟩ = some (vPtr pc) := (S3.out.cell 0 rfl).cell 0
  have c2 : W2.cell? ⟨pc, 1, none⟩ = some (.bool false) := (S3.out.cell 4 rfl).cell 1
  go_upto_if 68 with fail
  go_cut [] from 19 (fun w' => SW b w0 ((⟨bc, bb, b4, bm, pc, #[.int .i64 1, .bool false, .slice SA sn sc, .slice (some ⟨ag, 0, none⟩) ids.length ac, .int .i64 len], (flen x.F), mv, M, ⟨none, 0, 0⟩, []⟩ : FrS).obs (rowOb 31 2 (.slice (some ⟨ag, 0, none⟩) ids.length ac) ids.length (ids.flatMap encID) :: rowOb 214 1 lv 1 [vPtr pc] :: ebOb (.slice SA sn sc) ys :: x.obs l)) w')
  case first =>
    cases hF : x.F with
    | none =>
      have e0 : flen x.F = 0 := by rw [hF]; rfl
      have HE0 := Lib.hid e0
      clear e0 hF
      simp only [Option.isSome_none]
      go_wp2_with fail
      go_meet
      rw [HE0.out]
      exact S3.out
    | some f =>
      have e0 : flen x.F = f.len := by rw [hF]; rfl
      have e1 : vPtr f.fb = fv := by rw [← HFV.out, hF]; rfl
      subst e1
      have k0 : W2.cell? ⟨f.fb, 0, none⟩ = some (.int .i64 (f.len : Int)) := ((S3.out.get 13 (o := flOb x.fm x.F) rfl).2 f hF).1.cell 0
      have kz : W2.frozen? ⟨bb, 0, none⟩ = false := (S3.out.cell 1 rfl).frozen 0
      have kb : W2.cell? ⟨bb, 0, none⟩ = some (.int .i64 0) := (S3.out.cell 1 rfl).cell 0
      have HE0 := Lib.hid e0
      clear e0 hF
      simp only [Option.isSome_some]
      go_wp2_with fail
      go_meet
      rw [HE0.out]
      exact S3.out.setAt 1 rfl 0 (.int .i64 (f.len : Int))
  case rest =>
    clear S3 c1 c2 qg qn
    have S4 := Lib.hid hcut
    clear hcut
    have c1 : wc.cell? ⟨bc, 0, none⟩ = some (vPtr pc) := (S4.out.cell 0 rfl).cell 0
    have c3 : wc.cell? ⟨pc, 3, none⟩ = some (.slice (some ⟨ag, 0, none⟩) ids.length ac) := (S4.out.cell 4 rfl).cell 3
    have HRI := Lib.hid (fun (wr : World) (base : Nat) (M' : Chs) (d' : BD) (bs' : List UInt8) (h : SW b w0 ((⟨bc, bb, b4, bm, pc, #[.int .i64 1, .bool false, .slice SA sn sc, .slice (some ⟨ag, 0, none⟩) ids.length ac, .int .i64 len], base, mv, M', d', bs'⟩ : FrS).obs (rowOb 31 2 (.slice (some ⟨ag, 0, none⟩) ids.length ac) ids.length (ids.flatMap encID) :: rowOb 214 1 lv 1 [vPtr pc] :: ebOb (.slice SA sn sc) ys :: x.obs l)) wr) => (own_rowI (h.get 7 (o := rowOb 31 2 (.slice (some ⟨ag, 0, none⟩) ids.length ac) ids.length (ids.flatMap encID)) rfl)).2.1)
    go_wp2_with fail
    go_loopw [78] (fun s78 wr => ∃ (k : Nat) (d : BD), k ≤ ids.length ∧ s78 = .int .i64 (k : Int) ∧ SW b w0 ((⟨bc, bb, b4, bm, pc, #[.int .i64 1, .bool false, .slice SA sn sc, .slice (some ⟨ag, 0, none⟩) ids.length ac, .int .i64 len], (flen x.F), mv, (wfold (flen x.F) x.C M (ids.take k)).1, d, (wfold (flen x.F) x.C M (ids.take k)).2⟩ : FrS).obs (rowOb 31 2 (.slice (some ⟨ag, 0, none⟩) ids.length ac) ids.length (ids.flatMap encID) :: rowOb 214 1 lv 1 [vPtr pc] :: ebOb (.slice SA sn sc) ys :: x.obs l)) wr) (fun s78 _ => ids.length - (intOf s78).toNat)
    case atStart => exact ⟨0, ⟨none, 0, 0⟩, Nat.zero_le _, rfl, S4.out⟩
    case round =>
      obtain ⟨k, d, hk, rfl, hs⟩ := hrel
      have S5 := Lib.hid hs
      clear hs S4 c1 c3
      by_cases hlt : k < ids.length
      · obtain ⟨i, hik⟩ : ∃ i, ids.getD k id0 = i := ⟨_, rfl⟩
        obtain ⟨a0, a1, _, _⟩ := (HRI.out _ _ _ _ _ S5.out).cells hlt hik
        have hm : i ∈ ids := by
          rw [← hik, List.getD_eq_getElem?_getD, List.getElem?_eq_getElem hlt]
          exact List.getElem_mem hlt
        have hts : ids.take (k + 1) = ids.take k ++ [i] := by
          rw [List.take_succ_eq_append_getElem hlt, ← hik, List.getD_eq_getElem?_getD, List.getElem?_eq_getElem hlt]
          rfl
        have HTS := Lib.hid hts
        obtain ⟨⟨dA, dn, dc⟩, ch, hai, hi2, hch, hok, hi0, hi1⟩ := HIDS.out i hm
        have HAI := Lib.hid hai
        have HOK := Lib.hid hok
        have HI2 := Lib.hid hi2
        have HPB : Hid (pendB x.C i = ch) := by
          rw [Hid]
          unfold pendB
          rw [hai]
        have hlen : flen x.F + (wfold (flen x.F) x.C M (ids.take k)).2.length ≤ 1048576 := by
          rw [wfold_len _ _ _ _ (fun j hj => by
            obtain ⟨d', bs', h1, h2, _⟩ := HIDS.out j (List.mem_of_mem_take hj)
            unfold pendB
            rw [h1, h2]
            simp)]
          have := frSum_take_le ids k
          omega
        have HLEN := Lib.hid hlen
        clear hik hts hm hai hok hi2 hlen
        obtain ⟨M1, HM1⟩ : ∃ M1, Hid ((wfold (flen x.F) x.C M (ids.take k)).1 = M1) := ⟨_, rfl⟩
        obtain ⟨bs1, HB1⟩ : ∃ bs1, Hid ((wfold (flen x.F) x.C M (ids.take k)).2 = bs1) := ⟨_, rfl⟩
        rw [HM1.out, HB1.out] at S5
        rw [HB1.out] at HLEN
        obtain ⟨base, HBS⟩ : ∃ base, Hid (flen x.F = base) := ⟨_, rfl⟩
        rw [HBS.out] at S5 HLEN
        have S6 := Lib.hid ((S5.out.newCell 31 #[.int .u64 i.1, .int .i64 i.2]).drew)
        go_upto_region 19 with fail
        refine wp_region_held_tail [(0, true), (1, true), (2, true), (3, true), (4, true), (5, true), (6, true), (7, true), (8, true)] (SW b w0 (cellOb wr.heap.size 31 #[.int .u64 i.1, .int .i64 i.2] :: (⟨bc, bb, b4, bm, pc, #[.int .i64 1, .bool false, .slice SA sn sc, .slice (some ⟨ag, 0, none⟩) ids.length ac, .int .i64 len], base, mv, M1, d, bs1⟩ : FrS).obs (rowOb 31 2 (.slice (some ⟨ag, 0, none⟩) ids.length ac) ids.length (ids.flatMap encID) :: rowOb 214 1 lv 1 [vPtr pc] :: ebOb (.slice SA sn sc) ys :: x.obs l))) (by kernel_rfl) (fun _ _ d _ _ h => by cases d <;> exact h) (by kernel_rfl) S6.out ?_
        simp only [picked, List.map_cons, List.map_nil, List.getD_cons_succ, List.getD_cons_zero]
        generalize (wr.alloc (.cells #[.int .u64 i.1, .int .i64 i.2] 31)).drew = W5 at S6 ⊢
        have hfd := fun W => field138 dA dn dc 0 0 W
        have HC := Lib.hid (fun (w' : World) (h : SW b w0 (cellOb wr.heap.size 31 #[.int .u64 i.1, .int .i64 i.2] :: (⟨bc, bb, b4, bm, pc, #[.int .i64 1, .bool false, .slice SA sn sc, .slice (some ⟨ag, 0, none⟩) ids.length ac, .int .i64 len], base, mv, M1, d, bs1⟩ : FrS).obs (rowOb 31 2 (.slice (some ⟨ag, 0, none⟩) ids.length ac) ids.length (ids.flatMap encID) :: rowOb 214 1 lv 1 [vPtr pc] :: ebOb (.slice SA sn sc) ys :: x.obs l)) w') => (⟨(h.cell 12 (g := x.ps) (t := 131) (cs := x.cells) rfl).cell 2, (h.cell 0 rfl).cell 0, (h.cell 0 rfl).cell 1, look_pend (h.get 13 (o := chOb x.cm x.C) rfl).1 HOK.out HAI.out⟩ : w'.cell? ⟨x.ps, 2, none⟩ = some (.map (some x.cm)) ∧ w'.cell? ⟨wr.heap.size, 0, none⟩ = some (.int .u64 i.1) ∧ w'.cell? ⟨wr.heap.size, 1, none⟩ = some (.int .i64 i.2) ∧ (Instr.lookup 128 (.map (some x.cm)) (.agg #[.int .u64 i.1, .int .i64 i.2]) false).run Tryz.prog w' = .ok (.agg #[.slice dA dn dc, .int .i64 0, .int .i64 0]) w'))
        (refine wpHeld_take (v := ?_) (Or.inl ⟨by rfl, ?_⟩) ?_
         rotate_left
         · (intro w' hSw; obtain ⟨h1, h2, h3, h4⟩ := HC.out w' hSw; go_simp; try with_reducible rfl)
         try simp only [Act.put, List.setIfInBounds_toArray, List.set_cons_zero, List.set_cons_succ])
        (refine wpHeld_take (v := ?_) (Or.inl ⟨by rfl, ?_⟩) ?_
         rotate_left
         · (intro w' hSw; obtain ⟨h1, h2, h3, h4⟩ := HC.out w' hSw; go_simp; try with_reducible rfl)
         try simp only [Act.put, List.setIfInBounds_toArray, List.set_cons_zero, List.set_cons_succ])
        (refine wpHeld_take (v := ?_) (Or.inl ⟨by rfl, ?_⟩) ?_
         rotate_left
         · (intro w' hSw; obtain ⟨h1, h2, h3, h4⟩ := HC.out w' hSw; go_simp; try with_reducible rfl)
         try simp only [Act.put, List.setIfInBounds_toArray, List.set_cons_zero, List.set_cons_succ])
        (refine wpHeld_take (v := ?_) (Or.inl ⟨by rfl, ?_⟩) ?_
         rotate_left
         · (intro w' hSw; obtain ⟨h1, h2, h3, h4⟩ := HC.out w' hSw; go_simp; try with_reducible rfl)
         try simp only [Act.put, List.setIfInBounds_toArray, List.set_cons_zero, List.set_cons_succ])
        (refine wpHeld_take (v := ?_) (Or.inl ⟨by rfl, ?_⟩) ?_
         rotate_left
         · (intro w' hSw; obtain ⟨h1, h2, h3, h4⟩ := HC.out w' hSw; go_simp; try with_reducible rfl)
         try simp only [Act.put, List.setIfInBounds_toArray, List.set_cons_zero, List.set_cons_succ])
        (refine wpHeld_take (v := ?_) (Or.inl ⟨by rfl, ?_⟩) ?_
         rotate_left
         · (intro w' hSw; obtain ⟨h1, h2, h3, h4⟩ := HC.out w' hSw; go_simp; try with_reducible rfl)
         try simp only [Act.put, List.setIfInBounds_toArray, List.set_cons_zero, List.set_cons_succ])
        (refine wpHeld_take (v := ?_) (Or.inl ⟨by rfl, ?_⟩) ?_
         rotate_left
         · (intro w' hSw; obtain ⟨h1, h2, h3, h4⟩ := HC.out w' hSw; go_simp; try with_reducible rfl)
         try simp only [Act.put, List.setIfInBounds_toArray, List.set_cons_zero, List.set_cons_succ])
        (refine wpHeld_take (v := ?_) (Or.inl ⟨by rfl, ?_⟩) ?_
         rotate_left
         · (intro w' hSw; obtain ⟨h1, h2, h3, h4⟩ := HC.out w' hSw; go_simp; try with_reducible rfl)
         try simp only [Act.put, List.setIfInBounds_toArray, List.set_cons_zero, List.set_cons_succ])
        (refine wpHeld_take (v := ?_) (Or.inl ⟨by rfl, ?_⟩) ?_
         rotate_left
         · (intro w' hSw; obtain ⟨h1, h2, h3, h4⟩ := HC.out w' hSw; go_simp; try with_reducible rfl)
         try simp only [Act.put, List.setIfInBounds_toArray, List.set_cons_zero, List.set_cons_succ])
        refine wpHeld_nil ?_
        simp only [List.length_cons, List.length_nil, List.drop_succ_cons, List.drop_zero]
        clear HC
        have hmem := mem_of_asc HAI.out
        have hrb : RB W5 ⟨dA, dn, dc⟩ ch := ((S6.out.get 13 (o := chOb x.cm x.C) rfl).2 i ⟨dA, dn, dc⟩ ch hmem).1
        have hln : ch.length = dn := hrb.1
        subst hln
        have S7 := (SW.front (pre := [_, _, _, _, _, _, _, _, _, _, _, _, _, _]) (t := flOb x.fm x.F :: l) S6.out [13, 0, 1, 2, 3, 4, 5, 6, 7, 8, 9, 10, 11, 12] (n := 14) rfl (by decide))
        have S8 : Hid (SW b w0 ((⟨bc, bb, b4, bm, pc, #[.int .i64 1, .bool false, .slice SA sn sc, .slice (some ⟨ag, 0, none⟩) ids.length ac, .int .i64 len], base, mv, M1, d, bs1⟩ : FrS).obs (rsOb dA ch :: cellOb wr.heap.size 31 #[.int .u64 i.1, .int .i64 i.2] :: chOb x.cm x.C :: rowOb 31 2 (.slice (some ⟨ag, 0, none⟩) ids.length ac) ids.length (ids.flatMap encID) :: rowOb 214 1 lv 1 [vPtr pc] :: ebOb (.slice SA sn sc) ys :: devOb x.p x.r x.s :: cellOb x.ps 131 x.cells :: flOb x.fm x.F :: l)) W5) :=
          SW.front (pre := [_, _, _, _, _, _, _, _, _, _, _, _, _, _, _]) (t := flOb x.fm x.F :: l) (SW.viewCh S7 hmem) [3, 4, 5, 6, 7, 8, 9, 0, 2, 1, 10, 11, 12, 13, 14] (n := 15) rfl (by decide)
        have HFR := Lib.hid (frame_any dA dc ch i S8.out.1 rfl HOK.out (Nat.le_trans HLEN.out (by omega)) hch hi0 hi1)
        clear S7 hrb hmem
        go_wp2_with (go_at_call 236; (with_reducible refine HFR.out.mono ?_); rintro e w9 ⟨rfl, d9, hs9, hb9⟩)
        have S9 : Hid (SW b w0 ((frOut (⟨bc, bb, b4, bm, pc, #[.int .i64 1, .bool false, .slice SA sn sc, .slice (some ⟨ag, 0, none⟩) ids.length ac, .int .i64 len], base, mv, M1, d, bs1⟩ : FrS) i ch d9).obs (rowOb 31 2 (.slice (some ⟨ag, 0, none⟩) ids.length ac) ids.length (ids.flatMap encID) :: rowOb 214 1 lv 1 [vPtr pc] :: ebOb (.slice SA sn sc) ys :: x.obs l)) w9) :=
          (SW.front (pre := [_, _, _, _, _, _, _, _, _, _, _, _, _, _, _]) (t := flOb x.fm x.F :: l) (⟨hs9, S8.out.2.trans hb9⟩ : SW b w0 _ w9) [7, 8, 0, 1, 2, 3, 4, 5, 6, 10, 11, 12, 13, 14, 9] (n := 15) rfl (by decide)).tail.tail
        clear hs9 hb9 HFR S8 S6 S5
        go_roundw
        case rel =>
          refine ⟨k + 1, d9, by omega, by go_num, ?_⟩
          rw [HTS.out, wfold_snoc]
          unfold wstep
          simp only
          rw [HM1.out, HB1.out, HPB.out, HBS.out]
          exact S9.out
        case measure => simp [intOf]; omega
      · have hkn : k = ids.length := by omega
        subst hkn
        rw [List.take_length] at S5
        clear hlt hk HRI HIDS
        obtain ⟨M1, HM1⟩ : ∃ M1, Hid ((wfold (flen x.F) x.C M ids).1 = M1) := ⟨_, rfl⟩
        obtain ⟨bs1, HB1⟩ : ∃ bs1, Hid ((wfold (flen x.F) x.C M ids).2 = bs1) := ⟨_, rfl⟩
        rw [HM1.out, HB1.out] at S5
        rw [HB1.out] at HBL
        have hbl := HBL.out
        obtain ⟨dA, dn, dc⟩ := d
        have hdn : bs1.length = dn := (S5.out.get 6 (o := bufOb ⟨dA, dn, dc⟩ bs1) rfl).1
        subst hdn
        obtain ⟨base, HBS⟩ : ∃ base, Hid (flen x.F = base) := ⟨_, rfl⟩
        rw [HBS.out] at S5
        have cps : wr.cell? ⟨x.ps, 1, none⟩ = some (.string x.nm) := (S5.out.cell 11 (g := x.ps) (t := 131) (cs := x.cells) rfl).cell 1
        have cbc : wr.cell? ⟨bc, 0, none⟩ = some (vPtr pc) := (S5.out.cell 0 rfl).cell 0
        have cpc : wr.cell? ⟨pc, 0, none⟩ = some (.int .i64 1) := (S5.out.cell 4 rfl).cell 0
        have HFN := Lib.hid (fileName_any x.ps x.nm wr cps hnm)
        have qn : ∀ W, (binOp .neq 146 fv (.pointer none)).run Tryz.prog W = .ok (.bool x.F.isSome) W := fun W => by rw [← HFV.out]; exact flV_neq x.F W
        go_upto_region 22 with (go_at_call 101; (with_reducible refine HFN.out.mono ?_); rintro e w5 ⟨rfl, qq, rfl⟩)
        have S9 : Hid (SW b w0 ((⟨bc, bb, b4, bm, pc, #[.int .i64 1, .bool false, .slice SA sn sc, .slice (some ⟨ag, 0, none⟩) ids.length ac, .int .i64 len], base, mv, M1, ⟨dA, bs1.length, dc⟩, bs1⟩ : FrS).obs (rowOb 31 2 (.slice (some ⟨ag, 0, none⟩) ids.length ac) ids.length (ids.flatMap encID) :: rowOb 214 1 lv 1 [vPtr pc] :: ebOb (.slice SA sn sc) ys :: x.obs l)) (wr.drewN qq)) := S5.out.on ⟨rfl, rfl, rfl, Nat.le_refl _, fun _ _ => rfl⟩
        generalize wr.drewN qq = w5 at S9 ⊢
        clear cps cbc cpc HFN S5
        have cbc : w5.cell? ⟨bc, 0, none⟩ = some (vPtr pc) := (S9.out.cell 0 rfl).cell 0
        have cpc : w5.cell? ⟨pc, 1, none⟩ = some (.bool false) := (S9.out.cell 4 rfl).cell 1
        obtain ⟨FF, hFF⟩ : ∃ FF, x.F = FF := ⟨_, rfl⟩
        rw [hFF] at qn
        have hF0 := Lib.hid hFF
        clear hFF
        cases FF with
        | none =>
          simp only [Option.isSome_none] at qn
          have S10 := Lib.hid S9.out.drew
          go_upto_region 29 with fail
          refine wp_region_held_tail [(0, true), (1, true), (2, true), (3, true), (4, true), (5, true)] (SW b w0 ((⟨bc, bb, b4, bm, pc, #[.int .i64 1, .bool false, .slice SA sn sc, .slice (some ⟨ag, 0, none⟩) ids.length ac, .int .i64 len], base, mv, M1, ⟨dA, bs1.length, dc⟩, bs1⟩ : FrS).obs (rowOb 31 2 (.slice (some ⟨ag, 0, none⟩) ids.length ac) ids.length (ids.flatMap encID) :: rowOb 214 1 lv 1 [vPtr pc] :: ebOb (.slice SA sn sc) ys :: x.obs l))) (by kernel_rfl) (fun _ _ d _ _ h => by cases d <;> exact h) (by kernel_rfl) S10.out ?_
          simp only [picked, List.map_cons, List.map_nil, List.getD_cons_succ, List.getD_cons_zero]
          generalize w5.drew = W6 at S10 ⊢
          have HC := Lib.hid (fun (w' : World) (h : SW b w0 ((⟨bc, bb, b4, bm, pc, #[.int .i64 1, .bool false, .slice SA sn sc, .slice (some ⟨ag, 0, none⟩) ids.length ac, .int .i64 len], base, mv, M1, ⟨dA, bs1.length, dc⟩, bs1⟩ : FrS).obs (rowOb 31 2 (.slice (some ⟨ag, 0, none⟩) ids.length ac) ids.length (ids.flatMap encID) :: rowOb 214 1 lv 1 [vPtr pc] :: ebOb (.slice SA sn sc) ys :: x.obs l)) w') => (⟨(h.cell 11 (g := x.ps) (t := 131) (cs := x.cells) rfl).cell 0, (h.cell 2 rfl).cell 0⟩ : w'.cell? ⟨x.ps, 0, none⟩ = some (vPtr x.p) ∧ w'.cell? ⟨b4, 0, none⟩ = some (.slice dA bs1.length dc)))
          (refine wpHeld_take (v := ?_) (Or.inl ⟨by rfl, ?_⟩) ?_
           rotate_left
           · (intro w' hSw; obtain ⟨h1, h2⟩ := HC.out w' hSw; go_simp; try with_reducible rfl)
           try simp only [Act.put, List.setIfInBounds_toArray, List.set_cons_zero, List.set_cons_succ])
          (refine wpHeld_take (v := ?_) (Or.inl ⟨by rfl, ?_⟩) ?_
           rotate_left
           · (intro w' hSw; obtain ⟨h1, h2⟩ := HC.out w' hSw; go_simp; try with_reducible rfl)
           try simp only [Act.put, List.setIfInBounds_toArray, List.set_cons_zero, List.set_cons_succ])
          (refine wpHeld_take (v := ?_) (Or.inl ⟨by rfl, ?_⟩) ?_
           rotate_left
           · (intro w' hSw; obtain ⟨h1, h2⟩ := HC.out w' hSw; go_simp; try with_reducible rfl)
           try simp only [Act.put, List.setIfInBounds_toArray, List.set_cons_zero, List.set_cons_succ])
          (refine wpHeld_take (v := ?_) (Or.inl ⟨by rfl, ?_⟩) ?_
           rotate_left
           · (intro w' hSw; obtain ⟨h1, h2⟩ := HC.out w' hSw; go_simp; try with_reducible rfl)
           try simp only [Act.put, List.setIfInBounds_toArray, List.set_cons_zero, List.set_cons_succ])
          (refine wpHeld_take (v := ?_) (Or.inl ⟨by rfl, ?_⟩) ?_
           rotate_left
           · (intro w' hSw; obtain ⟨h1, h2⟩ := HC.out w' hSw; go_simp; try with_reducible rfl)
           try simp only [Act.put, List.setIfInBounds_toArray, List.set_cons_zero, List.set_cons_succ])
          (refine wpHeld_take (v := ?_) (Or.inl ⟨by rfl, ?_⟩) ?_
           rotate_left
           · (intro w' hSw; obtain ⟨h1, h2⟩ := HC.out w' hSw; go_simp; try with_reducible rfl)
           try simp only [Act.put, List.setIfInBounds_toArray, List.set_cons_zero, List.set_cons_succ])
          refine wpHeld_nil ?_
          simp only [List.length_cons, List.length_nil, List.drop_succ_cons, List.drop_zero]
          clear HC
          have HRQ := Lib.hid (req_S (l := ((⟨bc, bb, b4, bm, pc, #[.int .i64 1, .bool false, .slice SA sn sc, .slice (some ⟨ag, 0, none⟩) ids.length ac, .int .i64 len], base, mv, M1, ⟨dA, bs1.length, dc⟩, bs1⟩ : FrS).obs (rowOb 31 2 (.slice (some ⟨ag, 0, none⟩) ids.length ac) ids.length (ids.flatMap encID) :: rowOb 214 1 lv 1 [vPtr pc] :: ebOb (.slice SA sn sc) ys :: x.obs l))) (k := 10) (Create_any x.p x.r x.s (fileN x.nm) dA dc bs1 W6 (S10.out.get 10 (o := devOb x.p x.r x.s) rfl) (file_ok hnm) (RB.src (S10.out.get 6 (o := bufOb ⟨dA, bs1.length, dc⟩ bs1) rfl)) hL (by omega)) S10.out.1 rfl)
          go_wp2_with (go_at_call 238; (with_reducible refine HRQ.out.mono ?_); rintro e w9 ⟨cn, hcn, rfl, r9, hs9, hb9⟩; have HCN := Lib.hid hcn; have S11 := Lib.hid (⟨hs9, S10.out.2.trans hb9⟩ : SW b w0 _ w9); clear hcn hs9 hb9)
          go_ret
          have ho : wfOp x.F x.nm bs1 = ⟨.create, fileN x.nm, ByteArray.empty, bs1, true⟩ := by rw [hF0.out]; rfl
          unfold WFPost
          simp only
          rw [HB1.out, HM1.out, ho]
          refine ⟨cn, r9, HCN.out, rfl, ?_⟩
          exact (SW.front (pre := [_, _, _, _, _, _, _]) (t := _) S11.out [0, 1, 2, 3, 6, 4, 5] (n := 7) rfl (by decide)).tail.tail.tail.tail.tail
        | some f =>
          simp only [Option.isSome_some] at qn
          have S10 := Lib.hid S9.out.drew
          go_upto_region 28 with fail
          refine wp_region_held_tail [(0, true), (1, true), (2, true), (3, true), (4, true), (5, true)] (SW b w0 ((⟨bc, bb, b4, bm, pc, #[.int .i64 1, .bool false, .slice SA sn sc, .slice (some ⟨ag, 0, none⟩) ids.length ac, .int .i64 len], base, mv, M1, ⟨dA, bs1.length, dc⟩, bs1⟩ : FrS).obs (rowOb 31 2 (.slice (some ⟨ag, 0, none⟩) ids.length ac) ids.length (ids.flatMap encID) :: rowOb 214 1 lv 1 [vPtr pc] :: ebOb (.slice SA sn sc) ys :: x.obs l))) (by kernel_rfl) (fun _ _ d _ _ h => by cases d <;> exact h) (by kernel_rfl) S10.out ?_
          simp only [picked, List.map_cons, List.map_nil, List.getD_cons_succ, List.getD_cons_zero]
          generalize w5.drew = W6 at S10 ⊢
          have HC := Lib.hid (fun (w' : World) (h : SW b w0 ((⟨bc, bb, b4, bm, pc, #[.int .i64 1, .bool false, .slice SA sn sc, .slice (some ⟨ag, 0, none⟩) ids.length ac, .int .i64 len], base, mv, M1, ⟨dA, bs1.length, dc⟩, bs1⟩ : FrS).obs (rowOb 31 2 (.slice (some ⟨ag, 0, none⟩) ids.length ac) ids.length (ids.flatMap encID) :: rowOb 214 1 lv 1 [vPtr pc] :: ebOb (.slice SA sn sc) ys :: x.obs l)) w') => (⟨(h.cell 11 (g := x.ps) (t := 131) (cs := x.cells) rfl).cell 0, (h.cell 2 rfl).cell 0⟩ : w'.cell? ⟨x.ps, 0, none⟩ = some (vPtr x.p) ∧ w'.cell? ⟨b4, 0, none⟩ = some (.slice dA bs1.length dc)))
          (refine wpHeld_take (v := ?_) (Or.inl ⟨by rfl, ?_⟩) ?_
           rotate_left
           · (intro w' hSw; obtain ⟨h1, h2⟩ := HC.out w' hSw; go_simp; try with_reducible rfl)
           try simp only [Act.put, List.setIfInBounds_toArray, List.set_cons_zero, List.set_cons_succ])
          (refine wpHeld_take (v := ?_) (Or.inl ⟨by rfl, ?_⟩) ?_
           rotate_left
           · (intro w' hSw; obtain ⟨h1, h2⟩ := HC.out w' hSw; go_simp; try with_reducible rfl)
           try simp only [Act.put, List.setIfInBounds_toArray, List.set_cons_zero, List.set_cons_succ])
          (refine wpHeld_take (v := ?_) (Or.inl ⟨by rfl, ?_⟩) ?_
           rotate_left
           · (intro w' hSw; obtain ⟨h1, h2⟩ := HC.out w' hSw; go_simp; try with_reducible rfl)
           try simp only [Act.put, List.setIfInBounds_toArray, List.set_cons_zero, List.set_cons_succ])
          (refine wpHeld_take (v := ?_) (Or.inl ⟨by rfl, ?_⟩) ?_
           rotate_left
           · (intro w' hSw; obtain ⟨h1, h2⟩ := HC.out w' hSw; go_simp; try with_reducible rfl)
           try simp only [Act.put, List.setIfInBounds_toArray, List.set_cons_zero, List.set_cons_succ])
          (refine wpHeld_take (v := ?_) (Or.inl ⟨by rfl, ?_⟩) ?_
           rotate_left
           · (intro w' hSw; obtain ⟨h1, h2⟩ := HC.out w' hSw; go_simp; try with_reducible rfl)
           try simp only [Act.put, List.setIfInBounds_toArray, List.set_cons_zero, List.set_cons_succ])
          (refine wpHeld_take (v := ?_) (Or.inl ⟨by rfl, ?_⟩) ?_
           rotate_left
           · (intro w' hSw; obtain ⟨h1, h2⟩ := HC.out w' hSw; go_simp; try with_reducible rfl)
           try simp only [Act.put, List.setIfInBounds_toArray, List.set_cons_zero, List.set_cons_succ])
          refine wpHeld_nil ?_
          simp only [List.length_cons, List.length_nil, List.drop_succ_cons, List.drop_zero]
          clear HC
          have HRQ := Lib.hid (req_S (l := ((⟨bc, bb, b4, bm, pc, #[.int .i64 1, .bool false, .slice SA sn sc, .slice (some ⟨ag, 0, none⟩) ids.length ac, .int .i64 len], base, mv, M1, ⟨dA, bs1.length, dc⟩, bs1⟩ : FrS).obs (rowOb 31 2 (.slice (some ⟨ag, 0, none⟩) ids.length ac) ids.length (ids.flatMap encID) :: rowOb 214 1 lv 1 [vPtr pc] :: ebOb (.slice SA sn sc) ys :: x.obs l))) (k := 10) (Append_any x.p x.r x.s (fileN x.nm) dA dc bs1 W6 (S10.out.get 10 (o := devOb x.p x.r x.s) rfl) (file_ok hnm) (RB.src (S10.out.get 6 (o := bufOb ⟨dA, bs1.length, dc⟩ bs1) rfl)) hL (by omega)) S10.out.1 rfl)
          go_wp2_with (go_at_call 240; (with_reducible refine HRQ.out.mono ?_); rintro e w9 ⟨cn, hcn, rfl, r9, hs9, hb9⟩; have HCN := Lib.hid hcn; have S11 := Lib.hid (⟨hs9, S10.out.2.trans hb9⟩ : SW b w0 _ w9); clear hcn hs9 hb9)
          go_ret
          have ho : wfOp x.F x.nm bs1 = ⟨.add, fileN x.nm, ByteArray.empty, bs1, true⟩ := by rw [hF0.out]; rfl
          unfold WFPost
          simp only
          rw [HB1.out, HM1.out, ho]
          refine ⟨cn, r9, HCN.out, rfl, ?_⟩
          exact (SW.front (pre := [_, _, _, _, _, _, _]) (t := _) S11.out [0, 1, 2, 3, 6, 4, 5] (n := 7) rfl (by decide)).tail.tail.tail.tail.tail
end Go.Proofs.YteabgcollokgjaaGreatDoor
