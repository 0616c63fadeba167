/- NA FG FH FI VN in one text. -/
import Derived.Test.YteabgcollokgjaaGreatDoorQ06
import Derived.Test.YteabgcollokgjaaGreatDoorQ10
import Derived.Outline
import Derived.Test.YteabgcollokgjaaGreatDoorQ18
import Derived.BigQuiet
import Derived.Test.YteabgcollokgjaaGreatDoorQ03
namespace Go.Proofs.YteabgcollokgjaaGreatDoor
open Go.RowKit Go.MapKept Go.ChangeMaps

/-- A slice of names, as it reads. -/
def RdS (w : World) (A : Option Addr) (ns : List ByteArray) : Prop := 0 < ns.length → ∃ b, A = some ⟨b, 0, none⟩ ∧ b < w.heap.size ∧ ∀ j, j < ns.length → w.cell? ⟨b, j, none⟩ = some (.string (ns.getD j ByteArray.empty))
theorem RdS.on {w w' : World} {A : Option Addr} {ns : List ByteArray} (h : RdS w A ns) (hb : Below w.heap.size w w') : RdS w' A ns := by
  intro hp
  obtain ⟨b, e, h1, h2⟩ := h hp
  exact ⟨b, e, Nat.lt_of_lt_of_le h1 hb.size, fun j hj => (hb.cell (p := ⟨b, j, none⟩) h1).trans (h2 j hj)⟩
abbrev bl (n : ByteArray) : List UInt8 := n.data.toList
/-- The names of all files, ascending. -/
structure Listed (N : FF) (ns : List ByteArray) : Prop where
  nodup : ns.Nodup
  mem : ∀ m, m ∈ ns ↔ (N m).isSome = true
  asc : (ns.map bl).Pairwise (fun a b => a ≤ b)
def NamesPost (N : FF) (w : World) (e : Ending) (w' : World) : Prop := ∃ A c ns, e = .returned (.slice A ns.length c) ∧ Listed N ns ∧ RdS w' A ns ∧ Below w.heap.size w w'
theorem info9 : (Tryz.prog.info? 9).map (fun i => (i.zero, i.size, i.bytes)) = some (some (.string ByteArray.empty), 1, 16) := by kernel_rfl
theorem bl_inj {a b : ByteArray} (h : bl a = bl b) : a = b := by
  cases a; cases b
  simp only [bl] at h
  congr 1
  exact Array.toList_inj.1 h
theorem listed_sort {N : FF} {l : List ByteArray} (hn : l.Nodup) (hm : ∀ m, m ∈ l ↔ (N m).isSome = true) : Listed N (((l.map bl).mergeSort (fun x y => decide (x ≤ y))).map (fun x => ⟨x.toArray⟩)) := by
  have hp : ((l.map bl).mergeSort (fun x y => decide (x ≤ y))).Perm (l.map bl) := List.mergeSort_perm _ _
  have hb : ∀ x : List UInt8, bl ⟨x.toArray⟩ = x := fun x => by simp [bl]
  have hmap : (((l.map bl).mergeSort (fun x y => decide (x ≤ y))).map (fun x => (⟨x.toArray⟩ : ByteArray))).Perm l := by
    have h1 := hp.map (fun x => (⟨x.toArray⟩ : ByteArray))
    rw [List.map_map] at h1
    have h2 : l.map ((fun x => (⟨x.toArray⟩ : ByteArray)) ∘ bl) = l := by
      conv => rhs; rw [← List.map_id l]
      apply List.map_congr_left
      intro x _
      exact bl_inj (by simp [bl])
    rwa [h2] at h1
  refine ⟨hmap.nodup_iff.2 hn, fun m => hmap.mem_iff.trans (hm m), ?_⟩
  rw [List.map_map]
  have h3 : (bl ∘ fun x => (⟨x.toArray⟩ : ByteArray)) = id := by
    funext x
    exact hb x
  rw [h3, List.map_id]
  have := List.pairwise_mergeSort (le := fun x y : List UInt8 => decide (x ≤ y)) (fun a b c h1 h2 => by
    simp only [decide_eq_true_eq] at *
    exact List.le_trans h1 h2) (fun a b => by
    simp only [Bool.or_eq_true, decide_eq_true_eq]
    exact List.le_total a b) (l.map bl)
  exact this.imp (fun h => by simpa using h)
theorem below_sort {α : Type} [Inhabited α] {enc : α → Value} {w wr : World} {g n off : Nat} {d : Array α} {os : Array Obj} (hb : Below w.heap.size w wr) (hg : w.heap.size ≤ g) : Below w.heap.size w (Sort.grow (Sort.putRow enc (Sort.ahead wr n) g off d) os) := by
  have hsz := hb.size
  refine ⟨hb.os, hb.tape, hb.output, by simp; omega, fun i hi => ?_⟩
  rw [Sort.heap_grow_old _ _ (by simp; omega)]
  show (wr.heap.modify g _)[i]? = _
  rw [Array.getElem?_modify, if_neg (by omega)]
  exact hb.block i hi
set_option maxRecDepth 100000 in
set_option maxHeartbeats 400000 in
theorem Names_any (p : Nat) (r : Rp) (s : St) (w : World) (h : DV w p r s) : Calls Tryz.prog 37 #[.pointer (some ⟨p, 0, none⟩)] w (NamesPost s.now w) := by
  have H := Lib.hid h
  have hplt := h.dev.cells.lt
  have k1 : w.cell? ⟨p, 1, none⟩ = some (.map (some r.nb)) := (h.dev.cells.cell 1).trans rfl
  have hnb := h.dev.now.1.lt
  have hEN : r.EN.length ≤ 256 := by
    obtain ⟨_, c, hc, hc2⟩ := h.ok.now
    have := hc2.uniq h.dev.cnt
    omega
  clear h
  obtain ⟨i0, hi, hz0, hz1, hz2⟩ := info_parts info9
  go_enter Tryz.func37, Tryz.ntmps37
  go_wp2_with (at_range; refine wpList_range_is _ rfl _ 133 rfl 9 34 Tryz.underlying133 r.nb r.EN rfl H.out.dev.now.1 ?_; intro w0 hrg0 hg0 hs0)
  have Hrg0 := Lib.hid hrg0
  have Hb0 : Hid (Below w.heap.size w w0) := (Below.refl w.heap.size w).grown hg0 (Nat.le_refl _) (by simp)
  have hs0' : w.heap.size + 1 ≤ w0.heap.size := by omega
  clear hrg0 hg0 hs0 k1
  go_frame
  go_loopw [3] (fun v wr => ∃ (done : Files) (cnt : Nat), RIs okS kS vE wr r.nb w.heap.size r.EN done cnt ∧ wr.ownsRow (w.heap.size + 1) 9 1 v done.length (done.map (fun c => Value.string c.1)) ∧ w.heap.size + 1 ≤ wr.heap.size ∧ done.length + cnt ≤ r.EN.length ∧ Below w.heap.size w wr) (fun _ wr => wr.rangeLeft r.nb w.heap.size)
  case atStart => exact ⟨[], _, Hrg0.out, World.ownsRow_nil _ _ _ _, hs0', by simp, Hb0.out⟩
  case round =>
    obtain ⟨done, cnt, hrg, hown, hsz, hdl, hb⟩ := hrel
    obtain ⟨A3, c3, rfl⟩ := own_slice hown
    have Hleft := Lib.hid hrg.left_eq
    have Hrg := Lib.hid hrg
    have HO := Lib.hid hown
    have Hb := Lib.hid hb
    clear hrg hown hb
    go_wp2_with (first
      | (at_next; refine wpList_next_fs _ rfl _ rfl r.nb w.heap.size r.EN done cnt rfl Hrg.out (fun hp => ?_) (fun s d bs w1 cnt1 hc hrg1 hlt1 hg1 hs1 hen => ?_))
      | (at_builtin; refine halt_ ?_))
    · have Hp := Lib.hid hp
      clear hp
      have Hsub : Hid ((done.map (·.1)).Nodup ∧ ∀ m, m ∈ done.map (·.1) ↔ (s.now m).isSome = true) := by
        have hk : (done.map (·.1)).Perm (r.EN.map (·.1)) := Hp.out.map _
        refine ⟨hk.nodup_iff.2 H.out.dev.now.1.nodup, fun m => hk.mem_iff.trans ?_⟩
        rw [← H.out.dev.has m]
        constructor
        · intro hm
          obtain ⟨c, hc, rfl⟩ := List.mem_map.1 hm
          rw [asc_mem H.out.dev.now.1.nodup hc]
          rfl
        · intro hm
          cases ha : asc r.EN m with
          | none => rw [ha] at hm; cases hm
          | some v => exact List.mem_map.2 ⟨_, mem_of_asc ha, rfl⟩
      by_cases hz : done.length = 0
      · have Hz : Hid (done = []) := List.eq_nil_of_length_eq_zero hz
        rw [hz]
        clear hz
        go_wp2_with fail
        refine (Tryz.slices_Sort_string_none A3 c3 _).mono ?_
        rintro e w2 ⟨rfl, hw2⟩
        subst hw2
        go_wp2_with fail
        go_ret
        refine ⟨A3, c3, [], rfl, ⟨by simp, fun m => ?_, by simp⟩, fun hp => absurd hp (by simp), Hb.out⟩
        have := Hsub.out.2 m
        rw [Hz.out] at this
        exact this
      · obtain ⟨g, cap, hv, hgb, hgl⟩ := HO.out.form (by omega)
        injection hv with hv1 hv2 hv3
        subst hv1
        subst hv3
        clear hv2
        have HO' := HO.out
        have HH : Hid (Sort.Holds Go.Proofs.encStr wr g 0 ((done.map (fun c => bl c.1)).toArray)) := fun j hj => by
          have hj' : j < done.length := by simpa using hj
          have hcell := HO'.cellAt j (by omega)
          have hd : ((done.map (fun c => bl c.1)).toArray)[j]! = bl (done[j]).1 := by
            rw [getElem!_pos _ j (by simpa using hj')]
            simp
          refine ⟨?_, ?_⟩
          · rw [Nat.zero_add, hcell, List.getElem?_map, List.getElem?_eq_getElem hj', hd]
            show some (Value.string _) = some (Value.string _)
            congr 2
          · obtain ⟨cur, hcur⟩ : ∃ cur, IsB wr g 9 cur := by
              rcases HO'.2 with ⟨hv, _⟩ | ⟨g', cap', cur, hv, _, hh, _⟩
              · cases hv
              · injection hv with e1 e2 e3
                injection e1 with e1
                injection e1 with e1
                subst e1
                exact ⟨cur, hh⟩
            exact hcur.frozen _
        have HS := Tryz.slices_Sort_string g 0 c3 (done.map (fun c => bl c.1)) wr HH.out hgl (by rw [List.length_map]; omega)
        rw [List.length_map] at HS
        have HS' := Lib.hid HS
        clear HS HO'
        go_wp2_with fail
        refine HS'.out.mono ?_
        rintro e w2 ⟨rfl, n, os, hw2⟩
        have FIN : Hid (NamesPost s.now w (.returned (.slice (some ⟨g, 0, none⟩) done.length c3)) w2) := by
          have hL := listed_sort Hsub.out.1 Hsub.out.2
          rw [List.map_map] at hL
          have hfun : (bl ∘ fun x : ByteArray × En => x.1) = (fun c => bl c.1) := rfl
          rw [hfun] at hL
          have hlen : (((done.map (fun c => bl c.1)).mergeSort (fun x y => decide (x ≤ y))).map (fun x => (⟨x.toArray⟩ : ByteArray))).length = done.length := by simp
          have hput := Sort.holds_putRow Go.Proofs.encStr (Sort.ahead wr n) g 0 _ (((done.map (fun c => bl c.1)).mergeSort (fun x y => decide (x ≤ y))).toArray) (Sort.holds_ahead _ _ _ _ _ _ HH.out) (by simp)
          have hgr := Sort.holds_grow Go.Proofs.encStr _ os g 0 _ (by simp; exact hgl) hput
          rw [← hw2] at hgr
          refine ⟨some ⟨g, 0, none⟩, c3, ((done.map (fun c => bl c.1)).mergeSort (fun x y => decide (x ≤ y))).map (fun x => (⟨x.toArray⟩ : ByteArray)), by rw [hlen], hL, fun _ => ⟨g, rfl, ?_, fun j hj => ?_⟩, ?_⟩
          · rw [hw2]; simp; omega
          · rw [hlen] at hj
            have h1 := (hgr j (by simp; exact hj)).1
            rw [Nat.zero_add] at h1
            rw [h1, getElem!_pos _ j (by simp; exact hj), List.getD_eq_getElem?_getD, List.getElem?_map, List.getElem?_eq_getElem (by simp; exact hj)]
            simp
          · rw [hw2]
            exact below_sort Hb.out (by omega)
        clear hw2
        go_wp2_with fail
        go_ret
        exact FIN.out
    · have Hrg1 := Lib.hid hrg1
      have Hlt1 := Lib.hid hlt1
      have Hb1 : Hid (Below w.heap.size w w1) := Hb.out.grown hg1 (by omega) (by simp)
      have HO1 := Lib.hid (HO.out.kept hg1 (by
        cases hv : (Value.slice A3 done.length c3).ownBlock with
        | none => exact .inl rfl
        | some k => exact .inr (fun e => by injection e with e; have := (HO.out.lt k hv).1; omega)))
      have hsz1 : w.heap.size + 1 ≤ w1.heap.size := by rw [hs1.out]; exact hsz
      clear hc hrg1 hg1 hs1
      go_wp2_with (at_builtin; refine halt_ ?_)
      refine wpList_append_own _ rfl _ _ 60 rfl (w.heap.size + 1) 9 i0 _ 1 16 Tryz.underlying60 hi hz0 hz1 hz2 rfl (by decide) (.slice A3 done.length c3) done.length _ rfl (HO1.out.alloc _) ⟨w1.heap.size, 0, none⟩ 1 1 [.string s] rfl rfl (fun j u hu => by rw [lit_add, Nat.zero_add, new_cell _ _ _ _ rfl]; simpa using hu) (fun u hu => by simp at hu; subst hu; rfl) (by unfold maxLen; omega) (by omega) (by simp; omega) ?_
      intro v2 w2 ho2 hg2 _
      have HO2 : Hid (w2.ownsRow (w.heap.size + 1) 9 1 v2 (done ++ [(s, d, bs)]).length ((done ++ [(s, d, bs)]).map (fun c => Value.string c.1))) := by
        rw [Hid, List.map_append, List.length_append]
        exact ho2
      have hblk : ∀ k, some k = (Value.slice A3 done.length c3).ownBlock → w.heap.size + 1 ≤ k := fun k hk => (HO.out.lt k hk.symm).1
      have Hrg2 : Hid (RIs okS kS vE w2 r.nb w.heap.size r.EN (done ++ [(s, d, bs)]) cnt1) := (Hrg1.out.alloc _).kept hg2 (fun e => by have := hblk _ e; omega) (fun e => by have := hblk _ e; omega)
      have Hb2 : Hid (Below w.heap.size w w2) := (Hb1.out.alloc (by omega) _).grown hg2 (by simp; omega) (fun k hk => by have := hblk k hk.symm; omega)
      have hsz2 : w.heap.size + 1 ≤ w2.heap.size := by have := hg2.size; simp at this; omega
      have hdl2 : (done ++ [(s, d, bs)]).length + cnt1 ≤ r.EN.length := by rw [List.length_append]; simp only [List.length_cons, List.length_nil]; omega
      have HDL := Lib.hid hdl2
      clear ho2 hg2 hblk hdl2
      go_wp2_with fail
      go_roundw
      case rel => exact ⟨_, _, Hrg2.out, HO2.out, hsz2, HDL.out, Hb2.out⟩
      case measure => rw [Hrg2.out.left_eq, Hleft.out]; exact Hlt1.out
end Go.Proofs.YteabgcollokgjaaGreatDoor
namespace Go.Proofs.YteabgcollokgjaaGreatDoor
open Go.RowKit Go.MapKept Go.ChangeMaps Go.Shelf Go.Sort

theorem Listed.cnt {N : FF} {ns : List ByteArray} (h : Listed N ns) : Cnt N ns.length := ⟨ns, h.nodup, h.mem, rfl⟩
theorem flV_eql (F : Option FR) (W : World) : (binOp .eql 146 (flV F) (.pointer none)).run Tryz.prog W = .ok (.bool (!F.isSome)) W := by
  cases F with
  | none => kernel_rfl
  | some f => kernel_rfl
theorem flV_grdE (F : Option FR) (a c : Operand) (W : World) : (eqGuard BinOp.eql 146 a c (flV F) (.pointer none)).run Tryz.prog W = .ok () W := by
  cases F with
  | none => kernel_rfl
  | some f => kernel_rfl
def BoolPost (v : Bool) (w : World) (e : Ending) (w' : World) : Prop := e = .returned (.bool v) ∧ Below w.heap.size w w'
theorem has_name (ns : List ByteArray) (A : Option Addr) (c : Nat) (nm : ByteArray) (w : World) (h : RdS w A ns) (hn : ns.length ≤ 1000000) : Calls Tryz.prog 178 #[.slice A ns.length c, .string nm] w (fun e w' => ∃ v, e = .returned (.bool v) ∧ w' = w) := by
  by_cases h0 : ns.length = 0
  · rw [h0]
    exact (Tryz.slices_Contains_string_empty A c nm w).mono (fun e w' h => ⟨_, h.1, h.2⟩)
  · obtain ⟨g, rfl, hg, hc⟩ := h (by omega)
    exact (Tryz.slices_Contains_string g 0 ns.length c ns nm w (Nat.le_refl _) (by omega) (fun j hj => by rw [Nat.zero_add]; exact hc j hj)).mono (fun e w' h => ⟨_, h.1, h.2⟩)
theorem h2c {b : Nat} {w : World} {x : SR} {l : List Ob} (h : Sto b w x l) : w.cell? ⟨x.ps, 1, none⟩ = some (.string x.nm) := h.scell.cell 1
set_option maxRecDepth 100000 in
set_option maxHeartbeats 8000000 in
theorem crowded_any {b : Nat} {w : World} {x : SR} {l : List Ob} (h : Sto b w x l) (lg cap pc : Nat) (rn : Bool) (len : Int) (hlg : w.cell? ⟨lg, 0, none⟩ = some (vPtr pc)) (hp0 : w.cell? ⟨pc, 0, none⟩ = some (.int .i64 1)) (hp1 : w.cell? ⟨pc, 1, none⟩ = some (.bool rn)) (hp4 : w.cell? ⟨pc, 4, none⟩ = some (.int .i64 len)) (hnm : x.nm.size ≤ 1000) (hcn : ∀ n, Cnt x.s.now n → n ≤ 200) :
    Calls Tryz.prog 135 #[vPtr x.ps, .slice (some ⟨lg, 0, none⟩) 1 cap] w (BoolPost false w) := by
  have H := Lib.hid h
  have hll : lg < w.heap.size := World.block_lt_of_cell? _ _ hlg
  have hpl : pc < w.heap.size := World.block_lt_of_cell? _ _ hp0
  have HN := Lib.hid (Names_any x.p x.r x.s w h.sdv)
  have HCN := Lib.hid hcn
  have k0 : w.cell? ⟨x.ps, 0, none⟩ = some (vPtr x.p) := h.scell.cell 0
  have G0 := Lib.hid hlg
  have G1 := Lib.hid hp0
  have G2 := Lib.hid hp1
  have G3 := Lib.hid hp4
  clear h hcn hlg hp0 hp1 hp4
  go_enter Tryz.func135, Tryz.ntmps135
  go_upto_block 0 with (go_at_call 37; (with_reducible refine HN.out.mono ?_); refine halt_ ?_)
  rintro e w1 ⟨A, c, ns, rfl, hls, hrd, hb1⟩
  have hnl : ns.length ≤ 200 := HCN.out _ hls.cnt
  have HRD := Lib.hid hrd
  have HB1 := Lib.hid hb1
  have hlg : w1.cell? ⟨lg, 0, none⟩ = some (vPtr pc) := (hb1.cell (p := ⟨lg, 0, none⟩) hll).trans G0.out
  have hp0 : w1.cell? ⟨pc, 0, none⟩ = some (.int .i64 1) := (hb1.cell (p := ⟨pc, 0, none⟩) hpl).trans G1.out
  have hp1 : w1.cell? ⟨pc, 1, none⟩ = some (.bool rn) := (hb1.cell (p := ⟨pc, 1, none⟩) hpl).trans G2.out
  have hp4 : w1.cell? ⟨pc, 4, none⟩ = some (.int .i64 len) := (hb1.cell (p := ⟨pc, 4, none⟩) hpl).trans G3.out
  have H1 := Lib.hid (H.out.on hb1)
  have k3 : w1.cell? ⟨x.ps, 3, none⟩ = some (.map (some x.fm)) := H1.out.scell.cell 3
  obtain ⟨fv, HFV⟩ : ∃ fv, Hid (flV x.F = fv) := ⟨_, rfl⟩
  have hlk : ∀ n, (Instr.lookup 129 (.map (some x.fm)) (.int .i64 1) false).run Tryz.prog (w1.drewN n) = .ok fv (w1.drewN n) := fun n => by
    rw [← HFV.out]
    exact look_flV (H1.out.on ⟨rfl, rfl, rfl, Nat.le_refl _, fun _ _ => rfl⟩).sfl
  have qe : ∀ W, (binOp .eql 146 fv (.pointer none)).run Tryz.prog W = .ok (.bool (!x.F.isSome)) W := fun W => by rw [← HFV.out]; exact flV_eql x.F W
  have qg : ∀ W, (eqGuard BinOp.eql 146 (.tmp 45) (.const (.pointer none)) fv (.pointer none)).run Tryz.prog W = .ok () W := fun W => by rw [← HFV.out]; exact flV_grdE x.F _ _ W
  clear hls hrd hb1 HN k0
  go_upto_block 0 with fail
  go_cut [6, 7] from 8 (fun s6 s7 w' => ∃ (z : Int) (r : Bool) (q : Nat), -1 ≤ z ∧ z ≤ 201 ∧ s6 = .int .i64 z ∧ s7 = .bool r ∧ w' = w1.drewN q)
  case first =>
    go_wp2_with fail
    refine wp_loop_rounds 2 ?_
    rw [rounds_succ]
    by_cases hl0 : len = 0
    · have hq : (len == 0) = true := by simpa using hl0
      have HL0 := Lib.hid hl0
      clear hl0
      go_wp2_with fail
      rw [rounds_succ]
      go_wp2_with fail
      go_meet
      exact ⟨_, false, 0, by omega, by omega, rfl, rfl, rfl⟩
    · have hq : (len == 0) = false := by simpa using hl0
      have HL0 := Lib.hid hl0
      clear hl0
      cases rn with
      | true =>
        go_wp2_with fail
        rw [rounds_succ]
        go_wp2_with fail
        go_meet
        exact ⟨_, true, 0, by omega, by omega, rfl, rfl, rfl⟩
      | false =>
        cases hF : x.F with
        | none =>
          rw [hF] at qe
          simp only [Option.isSome_none, Bool.not_false] at qe
          clear hF
          go_wp2_with fail
          go_quiet (fail)
          go_wp2_with fail
          rw [rounds_succ]
          go_wp2_with fail
          go_meet
          exact ⟨_, false, _, by omega, by omega, rfl, rfl, rfl⟩
        | some f =>
          rw [hF] at qe
          simp only [Option.isSome_some, Bool.not_true] at qe
          clear hF
          go_wp2_with fail
          go_quiet (fail)
          go_wp2_with fail
          rw [rounds_succ]
          go_wp2_with fail
          go_meet
          exact ⟨_, false, _, by omega, by omega, rfl, rfl, rfl⟩
  case rest =>
    obtain ⟨z, r, q, hz1, hz2, rfl, rfl, rfl⟩ := hcut
    have BQ : Hid (Below w.heap.size w (w1.drewN q)) := HB1.out.trans ⟨rfl, rfl, rfl, Nat.le_refl _, fun _ _ => rfl⟩
    have H2 : Sto b (w1.drewN q) x l := Sep.on H1.out ⟨rfl, rfl, rfl, Nat.le_refl _, fun _ _ => rfl⟩
    have HF := Lib.hid (fresh_any x.ps x.nm (w1.drewN q) (h2c H2) hnm)
    clear H2
    have HRD2 := Lib.hid (HRD.out.on (⟨rfl, rfl, rfl, Nat.le_refl _, fun _ _ => rfl⟩ : Below w1.heap.size w1 (w1.drewN q)))
    have HHN := Lib.hid (has_name ns A c (freshN x.nm) (w1.drewN q) HRD2.out (by omega))
    clear hlk qe qg k3 hlg hp0 hp1 hp4 HRD HB1 H H1 G0 G1 G2 G3
    generalize w1.drewN q = w2 at *
    cases r with
    | false =>
      go_wp2_with fail
      go_ret
      refine ⟨?_, BQ.out⟩
      simp
      omega
    | true =>
      go_wp2_with (first | (go_at_call 179; (with_reducible refine HF.out.mono ?_); rintro e w3 ⟨rfl, rfl⟩) | (go_at_call 178; (with_reducible refine HHN.out.mono ?_); rintro e w3 ⟨vb, rfl, rfl⟩))
      all_goals (
        go_ret
        refine ⟨?_, BQ.out⟩
        simp
        omega)
end Go.Proofs.YteabgcollokgjaaGreatDoor
namespace Go.Proofs.YteabgcollokgjaaGreatDoor
open Go.RowKit Go.MapKept Go.ChangeMaps Go.Shelf Go.Sort

theorem lv_cell {b : Nat} {w0 w : World} {t : List Ob} {lg cap pc : Nat} {k : Nat} (h : SW b w0 t w) (hk : t[k]? = some (rowOb 214 1 (.slice (some ⟨lg, 0, none⟩) 1 cap) 1 [vPtr pc])) : w.cell? ⟨lg, 0, none⟩ = some (vPtr pc) := by
  obtain ⟨lg2, cap2, e1, e2, _⟩ := own_one (h.get k hk)
  injection e1 with e1 _ e3
  injection e1 with e1
  injection e1 with e1
  rw [e1]
  exact e2
set_option maxRecDepth 100000 in
set_option maxHeartbeats 8000000 in
theorem write_any {b : Nat} {w0 w : World} {q : WFS} {x : SR} {l : List Ob} (h : SW b w0 (q.obs x l) w) (lg cap : Nat) (hlv : q.lv = .slice (some ⟨lg, 0, none⟩) 1 cap) (hlen : q.len ≠ 0) (hcl : ∀ f, x.F = some f → f.clean = true) (hnm : x.nm.size ≤ 1000)
    (hids : ∀ i ∈ q.ids, ∃ d bs, asc x.C i = some (.pend d bs) ∧ i.2 = (bs.length : Int) ∧ bs.length ≤ 8192 ∧ okID i ∧ 0 ≤ i.1 ∧ i.1 < 18446744073709551616) (hn : 0 < q.ids.length) (hsum : flen x.F + frSum q.ids ≤ 1048576) (hL : x.s.ops.length ≤ 1000000) :
    Calls Tryz.prog 136 #[vPtr x.ps, .slice (some ⟨lg, 0, none⟩) 1 cap, .map (some q.mv)] w (WFPost b w0 q x l) := by
  have HWF := Lib.hid (writeFile_any h hcl hnm hids hn hsum hL)
  have hq : (q.len == 0) = false := by simpa using hlen
  have h2 : SW b w0 (cellOb q.pc 216 q.cs :: chOb q.mv q.M :: rowOb 31 2 q.av q.ids.length (q.ids.flatMap encID) :: rowOb 214 1 (.slice (some ⟨lg, 0, none⟩) 1 cap) 1 [vPtr q.pc] :: ebOb (.slice q.SA q.sn q.sc) q.ys :: x.obs l) w := by
    rw [← hlv]
    exact h
  have cl : w.cell? ⟨lg, 0, none⟩ = some (vPtr q.pc) := lv_cell (k := 3) h2 rfl
  have c4 : w.cell? ⟨q.pc, 4, none⟩ = some (.int .i64 q.len) := (h2.cell 0 rfl).cell 4
  clear h h2 hcl hids hlv hlen
  go_enter Tryz.func136, Tryz.ntmps136
  go_wp2_with fail
  refine wp_loop_rounds 2 ?_
  rw [rounds_succ]
  go_wp2_with fail
  rw [rounds_succ]
  go_wp2_with fail
  refine wp_loop_rounds 2 ?_
  rw [rounds_succ]
  go_wp2_with (go_at_call 181; (with_reducible refine HWF.out.mono ?_); refine halt_ ?_)
  rintro e w1 ⟨n, r', hcn, rfl, hs⟩
  obtain ⟨E, HE⟩ : ∃ E, Hid (reqE x.s n (wfOp x.F x.nm (wfold (flen x.F) x.C q.M q.ids).2) = E) := ⟨_, rfl⟩
  rw [HE.out]
  have HCN := Lib.hid hcn
  have HS := Lib.hid hs
  clear hcn hs HWF
  by_cases h0 : E = 0
  · have h0' : (E != 0) = false := by simpa using h0
    have H0 := Lib.hid h0
    clear h0
    go_wp2_with fail
    rw [rounds_succ]
    go_wp2_with fail
    go_ret
    exact ⟨n, r', HCN.out, by rw [HE.out, H0.out]; rfl, HS.out⟩
  · have h0' : (E != 0) = true := by simpa using h0
    have H0 := Lib.hid h0
    clear h0
    go_wp2_with fail
    go_ret
    exact ⟨n, r', HCN.out, by rw [HE.out]; rfl, HS.out⟩
end Go.Proofs.YteabgcollokgjaaGreatDoor
namespace Go.Proofs.YteabgcollokgjaaGreatDoor
open Go.RowKit Go.MapKept Go.ChangeMaps Go.Shelf Go.Sort

/-- A map of places that is being ranged over. -/
def itOb (mv r : Nat) (M done : Chs) (cnt : Nat) : Ob where
  own := fun i => i = mv ∨ i = r
  rd := fun _ => False
  holds := fun w => RIs okID vID vPl w mv r M done cnt
  stable := fun w w' h hs hk => by
    obtain ⟨es, clock, since, seen, c0, is, h1, h2, h3, h4, h5, h6⟩ := h
    exact ⟨es, clock, since, seen, c0, is, (hk mv (.inl (.inl rfl))).trans h1, h2, h3, h4, (hk r (.inl (.inr rfl))).trans h5, h6⟩
section
variable {b : Nat} {w0 w w' : World} {l : List Ob}
theorem SW.range (h : SW b w0 l w) (k : Nat) {mv : Nat} {M : Chs} (hk : l[k]? = some (chOb mv M)) (hr : RIs okID vID vPl w' mv w.heap.size M [] M.length) (hg : w.grownBy w' none) : SW b w0 (l.set k (itOb mv w.heap.size M [] M.length)) w' := by
  have := h.1.stepAt k hk (w' := w') (o' := itOb mv w.heap.size M [] M.length) ⟨hg.os, hg.tape, hg.output, hg.size, fun i hi _ => hg.block i hi (by simp), fun i hi => by
    rcases hi with hi | hi
    · exact .inl hi
    · exact .inr (by omega)⟩ (fun i hi => hi.elim) hr (fun i hi => by
    rcases hi with (hi | hi) | hi
    · rw [hi]; exact hr.map.lt
    · rw [hi]; exact hr.lt
    · exact hi.elim)
  exact ⟨this.1, h.2.trans this.2⟩
theorem SW.next (h : SW b w0 l w) (k : Nat) {mv r : Nat} {M done done' : Chs} {cnt cnt' : Nat} (hk : l[k]? = some (itOb mv r M done cnt)) (hr : RIs okID vID vPl w' mv r M done' cnt') (hg : w.grownBy w' (some r)) : SW b w0 (l.set k (itOb mv r M done' cnt')) w' := by
  have := h.1.stepAt k hk (w' := w') (o' := itOb mv r M done' cnt') (Fr.grown hg (Or.inr rfl) (fun i hi => .inl hi)) (fun i hi => hi.elim) hr (fun i hi => by
    rcases hi with (hi | hi) | hi
    · rw [hi]; exact hr.map.lt
    · rw [hi]; exact hr.lt
    · exact hi.elim)
  exact ⟨this.1, h.2.trans this.2⟩
theorem SW.note (h : SW b w0 l w) (k : Nat) {cm : Nat} {C : Chs} (hk : l[k]? = some (chOb cm C)) {i : ID} {o : Nat} (hm : MapIs okID vID vPl w' cm (setL C i (.at o))) (hg : w.grownBy w' (some cm)) : SW b w0 (l.set k (chOb cm (setL C i (.at o)))) w' :=
  ⟨(h.1.note k hk hm hg).1, h.2.trans (h.1.note k hk hm hg).2⟩
theorem SW.dev (h : SW b w0 l w) {k p : Nat} {r r' : Rp} {s s' : St} (hk : l[k]? = some (devOb p r s)) (hd : DV w' p r' s') (hs : Step w w' p r r') : SW b w0 (l.set k (devOb p r' s')) w' :=
  ⟨(h.1.dev hk hd hs).1, h.2.trans (h.1.dev hk hd hs).2⟩
end
theorem SW.newMap {b : Nat} {w0 w : World} {l : List Ob} (h : SW b w0 l w) : SW b w0 (chOb w.heap.size [] :: l) (w.alloc (.map #[] 0)) := by
  have := h.1.add (o' := chOb w.heap.size []) (w' := w.alloc (.map #[] 0)) (bel1q _ _) ⟨MapIs.made w, fun _ _ _ hm => by cases hm⟩ (fun i hi => by have e : i = w.heap.size := hi; simp [e]) (fun i hi => by obtain ⟨_, _, _, hm, _⟩ := hi; cases hm) (fun i hi => by obtain ⟨_, _, _, hm, _⟩ := hi; cases hm)
  exact ⟨this.1, h.2.trans this.2⟩
theorem reqS_ops (s : St) (n : Nat) (o : POp) : (reqS s n o).ops.length ≤ s.ops.length + 1 := by
  unfold reqS
  split
  · split
    · simp [St.cut]
    · simp [St.did]
  · omega
theorem RIs.keysN {α β : Type} {ok : α → Prop} {kv : α → Value} {vv : β → Value} {w : World} {b r : Nat} {L done : List (α × β)} {cnt : Nat} (h : RIs ok kv vv w b r L done cnt) : (done.map (·.1)).Nodup := by
  have hn := h.map.nodup
  obtain ⟨es, clock, since, seen, c0, is, _, _, _, _, _, _, _, _, _, hnd, _, hd⟩ := h
  have hlen : is.length = done.length := by
    have := congrArg List.length hd
    simpa using this
  have hget : ∀ j, (hj : j < done.length) → L[is[j]'(by omega)]? = some done[j] := by
    intro j hj
    have h1 : (is.map (fun i => L[i]?))[j]? = (done.map some)[j]? := by rw [hd]
    rw [List.getElem?_map, List.getElem?_map, List.getElem?_eq_getElem (by omega), List.getElem?_eq_getElem hj] at h1
    simpa using h1
  refine List.pairwise_iff_getElem.2 ?_
  intro i j hi hj hij e
  simp only [List.length_map] at hi hj
  simp only [List.getElem_map] at e
  have h1 := hget i hi
  have h2 := hget j hj
  have l1 := (List.getElem?_eq_some_iff.1 h1).1
  have l2 := (List.getElem?_eq_some_iff.1 h2).1
  have e3 : is[i]'(by omega) = is[j]'(by omega) := nodup_idx hn (by simpa using l1) (by simpa using l2) (by rw [List.getElem?_map, List.getElem?_map, h1, h2]; simp [e])
  exact absurd e3 (List.pairwise_iff_getElem.1 hnd i j (by omega) (by omega) hij)
theorem wfold_mlen (base : Nat) (C : Chs) (ids : List ID) : (wfold base C [] ids).1.length ≤ ids.length := by
  have : ∀ (ids : List ID) (p : Chs × List UInt8), (ids.foldl (wstep base C) p).1.length ≤ p.1.length + ids.length := by
    intro ids
    induction ids with
    | nil => intro p; simp
    | cons j ids ih =>
      intro p
      rw [List.foldl_cons]
      have h1 := ih (wstep base C p j)
      have h2 : (wstep base C p j).1.length ≤ p.1.length + 1 := setL_length _ _ _
      simp only [List.length_cons]
      omega
  have := this ids ([], [])
  simpa [wfold] using this
theorem SW.fileLen {b : Nat} {w0 w : World} {l : List Ob} (h : SW b w0 l w) (k : Nat) {fm : Nat} {f : FR} (hk : l[k]? = some (flOb fm (some f))) (n : Nat) : SW b w0 (l.set k (flOb fm (some { f with len := n }))) (w.setCell ⟨f.fb, 0, none⟩ (.int .i64 (n : Int))) := by
  have hh := h.get k (o := flOb fm (some f)) hk
  obtain ⟨h1, h2, h3⟩ := hh.2 f rfl
  have hg : w.grownBy (w.setCell ⟨f.fb, 0, none⟩ (.int .i64 (n : Int))) (some f.fb) := g_set (p := ⟨f.fb, 0, none⟩) (g_refl _ _) (.inl rfl) _
  have hlt := h1.lt
  have hm1 : MapIs okN vN vPtr (w.setCell ⟨f.fb, 0, none⟩ (.int .i64 (n : Int))) fm (fL (some f)) := hh.1.kept hg (fun e => map_is hh.1 (by injection e with e; rw [e]; exact h1))
  have hm2 : MapIs okID vID vBl (w.setCell ⟨f.fb, 0, none⟩ (.int .i64 (n : Int))) f.sb f.T := h2.kept hg (fun e => map_is h2 (by injection e with e; rw [e]; exact h1))
  have hi : IsB (w.setCell ⟨f.fb, 0, none⟩ (.int .i64 (n : Int))) f.fb 145 ({ f with len := n } : FR).cells := h1.set_ 0 _
  have := h.1.stepAt k hk (w' := w.setCell ⟨f.fb, 0, none⟩ (.int .i64 (n : Int))) (o' := flOb fm (some { f with len := n })) (Fr.grown hg (Or.inr ⟨f, rfl, .inl rfl⟩) (fun i hi => .inl (by
    rcases hi with hi | ⟨f', e, hi⟩
    · exact .inl hi
    · injection e with e
      subst e
      exact .inr ⟨f, rfl, hi⟩))) (fun i hi => hi.elim) ⟨hm1, fun f' e => by
    injection e with e
    subst e
    exact ⟨hi, hm2, h3⟩⟩ (fun i hi' => by
    rcases hi' with (hi' | ⟨f', e, hi'⟩) | hi'
    · rw [hi']; exact hm1.lt
    · injection e with e
      subst e
      rcases hi' with hi' | hi'
      · rw [hi']; exact hi.lt
      · rw [hi']; exact hm2.lt
    · exact hi'.elim)
  exact ⟨this.1, h.2.trans this.2⟩
theorem SW.newFile {b : Nat} {w0 w w2 : World} {l : List Ob} (h : SW b w0 l w) (k : Nat) {fm : Nat} (hk : l[k]? = some (flOb fm none)) (hm : MapIs okN vN vPtr w2 fm [(1, w.heap.size + 1)]) (hg : ((w.alloc (.map #[] 0)).alloc (.cells #[.int .i64 0, .bool true, .map (some w.heap.size)] 145)).grownBy w2 (some fm)) : SW b w0 (l.set k (flOb fm (some ⟨w.heap.size + 1, w.heap.size, 0, true, []⟩))) w2 := by
  have hh := h.get k (o := flOb fm none) hk
  have hfl := hh.1.lt
  have hb : Below w.heap.size w ((w.alloc (.map #[] 0)).alloc (.cells #[.int .i64 0, .bool true, .map (some w.heap.size)] 145)) := (bel1q _ _).alloc (by simp) _
  have hi0 : IsB ((w.alloc (.map #[] 0)).alloc (.cells #[.int .i64 0, .bool true, .map (some w.heap.size)] 145)) (w.heap.size + 1) 145 #[.int .i64 0, .bool true, .map (some w.heap.size)] := by
    have := IsB.new (w.alloc (.map #[] 0)) 145 #[.int .i64 0, .bool true, .map (some w.heap.size)]
    simpa using this
  have hi : IsB w2 (w.heap.size + 1) 145 #[.int .i64 0, .bool true, .map (some w.heap.size)] := hi0.grown hg (by simp; omega)
  have hm0 : MapIs okID vID vBl ((w.alloc (.map #[] 0)).alloc (.cells #[.int .i64 0, .bool true, .map (some w.heap.size)] 145)) w.heap.size [] := (MapIs.made w).alloc _
  have hm2 : MapIs okID vID vBl w2 w.heap.size [] := hm0.kept hg (by simp; omega)
  have := h.1.stepAt k hk (w' := w2) (o' := flOb fm (some ⟨w.heap.size + 1, w.heap.size, 0, true, []⟩)) ⟨hg.os.trans hb.os, hg.tape.trans hb.tape, hg.output.trans hb.output, Nat.le_trans hb.size hg.size, fun i hi hn => (hg.block i (Nat.lt_of_lt_of_le hi hb.size) (fun e => hn (.inl (by injection e)))).trans (hb.block i hi), fun i hi => by
    rcases hi with hi | ⟨f', e, hi⟩
    · exact .inl (.inl hi)
    · injection e with e
      subst e
      simp only at hi
      exact .inr (by omega)⟩ (fun i hi => hi.elim) ⟨hm, fun f' e => by
    injection e with e
    subst e
    exact ⟨hi, hm2, by simp; omega⟩⟩ (fun i hi' => by
    rcases hi' with (hi' | ⟨f', e, hi'⟩) | hi'
    · rw [hi']; exact hm.lt
    · injection e with e
      subst e
      rcases hi' with hi' | hi'
      · rw [hi']; exact hi.lt
      · rw [hi']; exact hm2.lt
    · exact hi'.elim)
  exact ⟨this.1, h.2.trans this.2⟩
/-- The chunks, with those of a list moved. -/
def updAll (C done : Chs) : Chs := done.foldl (fun C c => setL C c.1 c.2) C
theorem updAll_snoc (C done : Chs) (c : ID × Pl) : updAll C (done ++ [c]) = setL (updAll C done) c.1 c.2 := by
  unfold updAll
  rw [List.foldl_append]
  rfl
theorem updAll_asc (C : Chs) : ∀ (done : Chs), (done.map (·.1)).Nodup → ∀ i, asc (updAll C done) i = match asc done i with | some pl => some pl | none => asc C i := by
  intro done
  induction done generalizing C with
  | nil => intro _ i; rfl
  | cons c done ih =>
    intro hn i
    rw [List.map_cons, List.nodup_cons] at hn
    show asc (updAll (setL C c.1 c.2) done) i = _
    rw [ih _ hn.2 i, asc_setL]
    by_cases hi : c.1 = i
    · have h0 : asc done i = none := asc_none (fun d hd e => hn.1 (by rw [hi, ← e]; exact List.mem_map.2 ⟨d, hd, rfl⟩))
      rw [h0]
      simp [asc, hi]
    · simp [asc, hi]
theorem asc_permC {L K : Chs} (hp : L.Perm K) (hn : (L.map (·.1)).Nodup) (i : ID) : asc L i = asc K i := by
  have hk : (K.map (·.1)).Nodup := (hp.map _).nodup_iff.1 hn
  cases h : asc L i with
  | some v => exact (asc_mem hk (hp.mem_iff.1 (mem_of_asc h))).symm
  | none =>
    cases h2 : asc K i with
    | none => rfl
    | some v =>
      have := asc_mem hn (hp.mem_iff.2 (mem_of_asc h2))
      rw [h] at this
      cases this
/-- The places that writeFile notes. -/
theorem wfold_keys (base : Nat) (C : Chs) (ids : List ID) : (∀ c ∈ (wfold base C [] ids).1, ∃ o, c.2 = Pl.at o) ∧ ∀ i, i ∈ ((wfold base C [] ids).1.map (·.1)) ↔ i ∈ ids := by
  have : ∀ (ids : List ID) (p : Chs × List UInt8), (∀ c ∈ p.1, ∃ o, c.2 = Pl.at o) → (∀ c ∈ (ids.foldl (wstep base C) p).1, ∃ o, c.2 = Pl.at o) ∧ ∀ i, i ∈ ((ids.foldl (wstep base C) p).1.map (·.1)) ↔ i ∈ p.1.map (·.1) ∨ i ∈ ids := by
    intro ids
    induction ids with
    | nil => intro p hp; exact ⟨hp, by simp⟩
    | cons j ids ih =>
      intro p hp
      rw [List.foldl_cons]
      have h1 : ∀ c ∈ (wstep base C p j).1, ∃ o, c.2 = Pl.at o := by
        intro c hc
        unfold wstep at hc
        have : ∀ (L : Chs) (v : Pl), (∀ c ∈ L, ∃ o, c.2 = Pl.at o) → (∃ o, v = Pl.at o) → ∀ c ∈ setL L j v, ∃ o, c.2 = Pl.at o := by
          intro L v hL hv
          induction L with
          | nil => intro c hc; simp [setL] at hc; subst hc; exact hv
          | cons d L ih2 =>
            intro c hc
            unfold setL at hc
            split at hc
            · rcases List.mem_cons.1 hc with rfl | hc
              · exact hv
              · exact hL c (by simp [hc])
            · rcases List.mem_cons.1 hc with rfl | hc
              · exact hL _ (by simp)
              · exact ih2 (fun c hc => hL c (by simp [hc])) c hc
        exact this p.1 _ hp ⟨_, rfl⟩ c hc
      obtain ⟨a1, a2⟩ := ih _ h1
      refine ⟨a1, fun i => (a2 i).trans ?_⟩
      have hk := setL_keys p.1 j (Pl.at (base + p.2.length)) i
      have e : (wstep base C p j).1 = setL p.1 j (Pl.at (base + p.2.length)) := rfl
      rw [e, hk]
      simp only [List.mem_cons]
      constructor
      · rintro ((h | h) | h)
        · exact .inr (.inl h)
        · exact .inl h
        · exact .inr (.inr h)
      · rintro (h | h | h)
        · exact .inl (.inr h)
        · exact .inl (.inl h)
        · exact .inr h
  obtain ⟨h1, h2⟩ := this ids ([], []) (by simp)
  exact ⟨h1, fun i => by have := h2 i; simpa [wfold] using this⟩
end Go.Proofs.YteabgcollokgjaaGreatDoor
namespace Go.Proofs.YteabgcollokgjaaGreatDoor
open Go.RowKit
/-- A letter that a store's name may have. -/
def okW (n : Int) : Bool := (decide (97 ≤ n) && decide (n ≤ 122)) || (decide (48 ≤ n) && decide (n ≤ 57)) || n == 45
def okN_ (l : List UInt8) : Bool := l.all (fun c => okW ((c.toNat : Nat) : Int))
def nameV (s : ByteArray) : Bool := decide (1 ≤ s.size) && decide (s.size ≤ 40) && okN_ s.data.toList
theorem okN_snoc (l : List UInt8) (c : UInt8) : okN_ (l ++ [c]) = (okN_ l && okW ((c.toNat : Nat) : Int)) := by simp [okN_]
theorem okN_false {s : ByteArray} {k : Nat} (h : k < s.size) (hc : okW (((s[k]).toNat : Nat) : Int) = false) : okN_ s.data.toList = false := by
  unfold okN_
  rw [List.all_eq_false]
  exact ⟨s[k], by
    have : s[k] = s.data.toList[k]'(by simpa using h) := rfl
    rw [this]
    exact List.getElem_mem _, by rw [hc]; simp⟩
set_option maxHeartbeats 4000000 in
theorem validStore_any (s : ByteArray) (w : World) (hs : s.size ≤ maxLen) : Calls Tryz.prog 81 #[.string s] w fun e w' => e = .returned (.bool (nameV s)) ∧ w = w' := by
  unfold maxLen at hs
  by_cases h1 : s.size < 1
  · have HN : Hid (nameV s = false) := by simp [Hid, nameV]; omega
    go_enter Tryz.func81, Tryz.ntmps81
    go_wp2_with fail
    go_ret
    exact rbool HN.out rfl
  · by_cases h2 : 40 < s.size
    · have HN : Hid (nameV s = false) := by simp [Hid, nameV]; omega
      go_enter Tryz.func81, Tryz.ntmps81
      go_wp2_with fail
      go_ret
      exact rbool HN.out rfl
    · go_enter Tryz.func81, Tryz.ntmps81
      go_wp2_with fail
      go_loop [15] (fun i => ∃ k : Nat, k ≤ s.size ∧ i = .int .i64 k ∧ Hid (okN_ (s.data.toList.take k) = true)) (fun i => s.size - (intOf i).toNat)
      case atStart => exact ⟨0, Nat.zero_le _, rfl, rfl⟩
      case round =>
        obtain ⟨k, hk, rfl, Hk⟩ := hrel
        by_cases hlt : k < s.size
        · have HB : Hid (okW ((s[k]).toNat : Int) = false → nameV s = false) := fun h => by simp [nameV, okN_false hlt h]
          have HG : Hid (okW ((s[k]).toNat : Int) = true → okN_ (s.data.toList.take (k + 1)) = true) := fun h => by rw [take_byte s k hlt, okN_snoc, Hk.out, h]; rfl
          by_cases c1 : ((s[k]).toNat : Int) < 97
          · by_cases c2 : ((s[k]).toNat : Int) < 48
            · by_cases c4 : ((s[k]).toNat : Int) = 45
              · have b4 : (((s[k]).toNat : Int) != 45) = false := by simp [c4]
                have HO := Lib.hid (HG.out (by simp [okW, c4]))
                clear HB HG c4
                go_wp2_with fail
                go_round
                case rel => exact ⟨k + 1, by omega, by go_num, HO⟩
                case measure => simp [intOf]; omega
              · have b4 : (((s[k]).toNat : Int) != 45) = true := by rw [bne_iff_ne]; exact c4
                have HO := Lib.hid (HB.out (by simp [okW]; omega))
                clear HB HG c4
                go_wp2_with fail
                go_ret
                exact rbool HO.out rfl
            · by_cases c3 : 57 < ((s[k]).toNat : Int)
              · have b3 : (((s[k]).toNat : Int) != 46) = true := by rw [bne_iff_ne]; omega
                have b4 : (((s[k]).toNat : Int) != 45) = true := by rw [bne_iff_ne]; omega
                have HO := Lib.hid (HB.out (by simp [okW]; omega))
                clear HB HG
                go_wp2_with fail
                go_ret
                exact rbool HO.out rfl
              · skip
                have HO := Lib.hid (HG.out (by simp [okW]; omega))
                clear HB HG
                go_wp2_with fail
                go_round
                case rel => exact ⟨k + 1, by omega, by go_num, HO⟩
                case measure => simp [intOf]; omega
          · by_cases c2 : 122 < ((s[k]).toNat : Int)
            · have c3 : 57 < ((s[k]).toNat : Int) := by omega
              have c4 : ¬ ((s[k]).toNat : Int) < 48 := by omega
              have b4 : (((s[k]).toNat : Int) != 45) = true := by rw [bne_iff_ne]; omega
              have HO := Lib.hid (HB.out (by simp [okW]; omega))
              clear HB HG
              go_wp2_with fail
              go_ret
              exact rbool HO.out rfl
            · skip
              have HO := Lib.hid (HG.out (by simp [okW]; omega))
              clear HB HG
              go_wp2_with fail
              go_round
              case rel => exact ⟨k + 1, by omega, by go_num, HO⟩
              case measure => simp [intOf]; omega
        · obtain rfl : k = s.size := by omega
          have HN : Hid (nameV s = true) := by
            have := Hk.out
            rw [List.take_of_length_le (by simp)] at this
            simp [Hid, nameV, this]
            omega
          go_wp2_with fail
          go_ret
          exact rbool HN.out rfl
set_option maxHeartbeats 4000000 in
theorem rName_any (s : ByteArray) (w : World) (hs : s.size ≤ maxLen) : Calls Tryz.prog 27 #[.string s] w fun e w' => e = .returned (.bool (nameV s)) ∧ w = w' := by
  unfold maxLen at hs
  by_cases h1 : s.size < 1
  · have HN : Hid (nameV s = false) := by simp [Hid, nameV]; omega
    go_enter Tryz.func27, Tryz.ntmps27
    go_wp2_with fail
    go_ret
    exact rbool HN.out rfl
  · by_cases h2 : 40 < s.size
    · have HN : Hid (nameV s = false) := by simp [Hid, nameV]; omega
      go_enter Tryz.func27, Tryz.ntmps27
      go_wp2_with fail
      go_ret
      exact rbool HN.out rfl
    · go_enter Tryz.func27, Tryz.ntmps27
      go_wp2_with fail
      go_loop [3] (fun i => ∃ k : Nat, k ≤ s.size ∧ i = .int .i64 k ∧ Hid (okN_ (s.data.toList.take k) = true)) (fun i => s.size - (intOf i).toNat)
      case atStart => exact ⟨0, Nat.zero_le _, rfl, rfl⟩
      case round =>
        obtain ⟨k, hk, rfl, Hk⟩ := hrel
        by_cases hlt : k < s.size
        · have HB : Hid (okW ((s[k]).toNat : Int) = false → nameV s = false) := fun h => by simp [nameV, okN_false hlt h]
          have HG : Hid (okW ((s[k]).toNat : Int) = true → okN_ (s.data.toList.take (k + 1)) = true) := fun h => by rw [take_byte s k hlt, okN_snoc, Hk.out, h]; rfl
          by_cases c1 : ((s[k]).toNat : Int) < 97
          · by_cases c2 : ((s[k]).toNat : Int) < 48
            · by_cases c4 : ((s[k]).toNat : Int) = 45
              · have b4 : (((s[k]).toNat : Int) != 45) = false := by simp [c4]
                have HO := Lib.hid (HG.out (by simp [okW, c4]))
                clear HB HG c4
                go_wp2_with fail
                go_round
                case rel => exact ⟨k + 1, by omega, by go_num, HO⟩
                case measure => simp [intOf]; omega
              · have b4 : (((s[k]).toNat : Int) != 45) = true := by rw [bne_iff_ne]; exact c4
                have HO := Lib.hid (HB.out (by simp [okW]; omega))
                clear HB HG c4
                go_wp2_with fail
                go_ret
                exact rbool HO.out rfl
            · by_cases c3 : 57 < ((s[k]).toNat : Int)
              · have b3 : (((s[k]).toNat : Int) != 46) = true := by rw [bne_iff_ne]; omega
                have b4 : (((s[k]).toNat : Int) != 45) = true := by rw [bne_iff_ne]; omega
                have HO := Lib.hid (HB.out (by simp [okW]; omega))
                clear HB HG
                go_wp2_with fail
                go_ret
                exact rbool HO.out rfl
              · skip
                have HO := Lib.hid (HG.out (by simp [okW]; omega))
                clear HB HG
                go_wp2_with fail
                go_round
                case rel => exact ⟨k + 1, by omega, by go_num, HO⟩
                case measure => simp [intOf]; omega
          · by_cases c2 : 122 < ((s[k]).toNat : Int)
            · have c3 : 57 < ((s[k]).toNat : Int) := by omega
              have c4 : ¬ ((s[k]).toNat : Int) < 48 := by omega
              have b4 : (((s[k]).toNat : Int) != 45) = true := by rw [bne_iff_ne]; omega
              have HO := Lib.hid (HB.out (by simp [okW]; omega))
              clear HB HG
              go_wp2_with fail
              go_ret
              exact rbool HO.out rfl
            · skip
              have HO := Lib.hid (HG.out (by simp [okW]; omega))
              clear HB HG
              go_wp2_with fail
              go_round
              case rel => exact ⟨k + 1, by omega, by go_num, HO⟩
              case measure => simp [intOf]; omega
        · obtain rfl : k = s.size := by omega
          have HN : Hid (nameV s = true) := by
            have := Hk.out
            rw [List.take_of_length_le (by simp)] at this
            simp [Hid, nameV, this]
            omega
          go_wp2_with fail
          go_ret
          exact rbool HN.out rfl
end Go.Proofs.YteabgcollokgjaaGreatDoor
