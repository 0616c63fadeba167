/- Contracts: Names. -/
import Derived.Test.YtddjkkmdcdiofaaX
import Derived.Test.YtddjkkmdcdiofaaShelf
import Derived.Outline
namespace Go.Proofs.Ytddjkkmdcdiofaa
open Go.RowKit Go.MapKept Go.ChangeMaps

/-- A slice of names, as it reads. -/
def RdS (w : World) (A : Option Addr) (ns : List ByteArray) : Prop := 0 < ns.length → ∃ b, A = some ⟨b, 0, none⟩ ∧ b < w.heap.size ∧ ∀ j, j < ns.length → w.cell? ⟨b, j, none⟩ = some (.string (ns.getD j ByteArray.empty))
theorem RdS.on {w w' : World} {A : Option Addr} {ns : List ByteArray} (h : RdS w A ns) (hb : Below w.heap.size w w') : RdS w' A ns := by
  intro hp
  obtain ⟨b, e, h1, h2⟩ := h hp
  exact ⟨b, e, Nat.lt_of_lt_of_le h1 hb.size, fun j hj => (hb.cell (p := ⟨b, j, none⟩) h1).trans (h2 j hj)⟩
abbrev bl (n : ByteArray) : List UInt8 := n.data.toList
/-- The names of all files, ascending. -/
structure Listed (N : FF) (ns : List ByteArray) : Prop where
  nodup : ns.Nodup
  mem : ∀ m, m ∈ ns ↔ (N m).isSome = true
  asc : (ns.map bl).Pairwise (fun a b => a ≤ b)
def NamesPost (N : FF) (w : World) (e : Ending) (w' : World) : Prop := ∃ A c ns, e = .returned (.slice A ns.length c) ∧ Listed N ns ∧ RdS w' A ns ∧ Below w.heap.size w w'
theorem info9 : (Try.prog.info? 9).map (fun i => (i.zero, i.size, i.bytes)) = some (some (.string ByteArray.empty), 1, 16) := by kernel_rfl
theorem bl_inj {a b : ByteArray} (h : bl a = bl b) : a = b := by
  cases a; cases b
  simp only [bl] at h
  congr 1
  exact Array.toList_inj.1 h
theorem listed_sort {N : FF} {l : List ByteArray} (hn : l.Nodup) (hm : ∀ m, m ∈ l ↔ (N m).isSome = true) : Listed N (((l.map bl).mergeSort (fun x y => decide (x ≤ y))).map (fun x => ⟨x.toArray⟩)) := by
  have hp : ((l.map bl).mergeSort (fun x y => decide (x ≤ y))).Perm (l.map bl) := List.mergeSort_perm _ _
  have hb : ∀ x : List UInt8, bl ⟨x.toArray⟩ = x := fun x => by simp [bl]
  have hmap : (((l.map bl).mergeSort (fun x y => decide (x ≤ y))).map (fun x => (⟨x.toArray⟩ : ByteArray))).Perm l := by
    have h1 := hp.map (fun x => (⟨x.toArray⟩ : ByteArray))
    rw [List.map_map] at h1
    have h2 : l.map ((fun x => (⟨x.toArray⟩ : ByteArray)) ∘ bl) = l := by
      conv => rhs; rw [← List.map_id l]
      apply List.map_congr_left
      intro x _
      exact bl_inj (by simp [bl])
    rwa [h2] at h1
  refine ⟨hmap.nodup_iff.2 hn, fun m => hmap.mem_iff.trans (hm m), ?_⟩
  rw [List.map_map]
  have h3 : (bl ∘ fun x => (⟨x.toArray⟩ : ByteArray)) = id := by
    funext x
    exact hb x
  rw [h3, List.map_id]
  have := List.pairwise_mergeSort (le := fun x y : List UInt8 => decide (x ≤ y)) (fun a b c h1 h2 => by
    simp only [decide_eq_true_eq] at *
    exact List.le_trans h1 h2) (fun a b => by
    simp only [Bool.or_eq_true, decide_eq_true_eq]
    exact List.le_total a b) (l.map bl)
  exact this.imp (fun h => by simpa using h)
theorem below_sort {α : Type} [Inhabited α] {enc : α → Value} {w wr : World} {g n off : Nat} {d : Array α} {os : Array Obj} (hb : Below w.heap.size w wr) (hg : w.heap.size ≤ g) : Below w.heap.size w (Sort.grow (Sort.putRow enc (Sort.ahead wr n) g off d) os) := by
  have hsz := hb.size
  refine ⟨hb.os, hb.tape, hb.output, by simp; omega, fun i hi => ?_⟩
  rw [Sort.heap_grow_old _ _ (by simp; omega)]
  show (wr.heap.modify g _)[i]? = _
  rw [Array.getElem?_modify, if_neg (by omega)]
  exact hb.block i hi
set_option maxRecDepth 100000 in
set_option maxHeartbeats 400000 in
theorem Names_any (p : Nat) (r : Rp) (s : St) (w : World) (h : DV w p r s) : Calls Try.prog 35 #[.pointer (some ⟨p, 0, none⟩)] w (NamesPost s.now w) := by
  have H := Lib.hid h
  have hplt := h.dev.cells.lt
  have k1 : w.cell? ⟨p, 1, none⟩ = some (.map (some r.nb)) := (h.dev.cells.cell 1).trans rfl
  have hnb := h.dev.now.1.lt
  have hEN : r.EN.length ≤ 256 := by
    obtain ⟨_, c, hc, hc2⟩ := h.ok.now
    have := hc2.uniq h.dev.cnt
    omega
  clear h
  obtain ⟨i0, hi, hz0, hz1, hz2⟩ := info_parts info9
  go_enter Try.func35, Try.ntmps35
  go_wp2_with (at_range; refine wpList_range_is _ rfl _ 78 rfl 9 22 Try.underlying78 r.nb r.EN rfl H.out.dev.now.1 ?_; intro w0 hrg0 hg0 hs0)
  have Hrg0 := Lib.hid hrg0
  have Hb0 : Hid (Below w.heap.size w w0) := (Below.refl w.heap.size w).grown hg0 (Nat.le_refl _) (by simp)
  have hs0' : w.heap.size + 1 ≤ w0.heap.size := by omega
  clear hrg0 hg0 hs0 k1
  go_frame
  go_loopw [3] (fun v wr => ∃ (done : Files) (cnt : Nat), RIs okS kS vE wr r.nb w.heap.size r.EN done cnt ∧ wr.ownsRow (w.heap.size + 1) 9 1 v done.length (done.map (fun c => Value.string c.1)) ∧ w.heap.size + 1 ≤ wr.heap.size ∧ done.length + cnt ≤ r.EN.length ∧ Below w.heap.size w wr) (fun _ wr => wr.rangeLeft r.nb w.heap.size)
  case atStart => exact ⟨[], _, Hrg0.out, World.ownsRow_nil _ _ _ _, hs0', by simp, Hb0.out⟩
  case round =>
    obtain ⟨done, cnt, hrg, hown, hsz, hdl, hb⟩ := hrel
    obtain ⟨A3, c3, rfl⟩ := own_slice hown
    have Hleft := Lib.hid hrg.left_eq
    have Hrg := Lib.hid hrg
    have HO := Lib.hid hown
    have Hb := Lib.hid hb
    clear hrg hown hb
    go_wp2_with (first
      | (at_next; refine wpList_next_fs _ rfl _ rfl r.nb w.heap.size r.EN done cnt rfl Hrg.out (fun hp => ?_) (fun s d bs w1 cnt1 hc hrg1 hlt1 hg1 hs1 hen => ?_))
      | (at_builtin; refine halt_ ?_))
    · have Hp := Lib.hid hp
      clear hp
      have Hsub : Hid ((done.map (·.1)).Nodup ∧ ∀ m, m ∈ done.map (·.1) ↔ (s.now m).isSome = true) := by
        have hk : (done.map (·.1)).Perm (r.EN.map (·.1)) := Hp.out.map _
        refine ⟨hk.nodup_iff.2 H.out.dev.now.1.nodup, fun m => hk.mem_iff.trans ?_⟩
        rw [← H.out.dev.has m]
        constructor
        · intro hm
          obtain ⟨c, hc, rfl⟩ := List.mem_map.1 hm
          rw [asc_mem H.out.dev.now.1.nodup hc]
          rfl
        · intro hm
          cases ha : asc r.EN m with
          | none => rw [ha] at hm; cases hm
          | some v => exact List.mem_map.2 ⟨_, mem_of_asc ha, rfl⟩
      by_cases hz : done.length = 0
      · have Hz : Hid (done = []) := List.eq_nil_of_length_eq_zero hz
        rw [hz]
        clear hz
        go_wp2_with fail
        refine (Try.slices_Sort_string_none A3 c3 _).mono ?_
        rintro e w2 ⟨rfl, hw2⟩
        subst hw2
        go_wp2_with fail
        go_ret
        refine ⟨A3, c3, [], rfl, ⟨by simp, fun m => ?_, by simp⟩, fun hp => absurd hp (by simp), Hb.out⟩
        have := Hsub.out.2 m
        rw [Hz.out] at this
        exact this
      · obtain ⟨g, cap, hv, hgb, hgl⟩ := HO.out.form (by omega)
        injection hv with hv1 hv2 hv3
        subst hv1
        subst hv3
        clear hv2
        have HO' := HO.out
        have HH : Hid (Sort.Holds Go.Proofs.encStr wr g 0 ((done.map (fun c => bl c.1)).toArray)) := fun j hj => by
          have hj' : j < done.length := by simpa using hj
          have hcell := HO'.cellAt j (by omega)
          have hd : ((done.map (fun c => bl c.1)).toArray)[j]! = bl (done[j]).1 := by
            rw [getElem!_pos _ j (by simpa using hj')]
            simp
          refine ⟨?_, ?_⟩
          · rw [Nat.zero_add, hcell, List.getElem?_map, List.getElem?_eq_getElem hj', hd]
            show some (Value.string _) = some (Value.string _)
            congr 2
          · obtain ⟨cur, hcur⟩ : ∃ cur, IsB wr g 9 cur := by
              rcases HO'.2 with ⟨hv, _⟩ | ⟨g', cap', cur, hv, _, hh, _⟩
              · cases hv
              · injection hv with e1 e2 e3
                injection e1 with e1
                injection e1 with e1
                subst e1
                exact ⟨cur, hh⟩
            exact hcur.frozen _
        have HS := Try.slices_Sort_string g 0 c3 (done.map (fun c => bl c.1)) wr HH.out hgl (by rw [List.length_map]; omega)
        rw [List.length_map] at HS
        have HS' := Lib.hid HS
        clear HS HO'
        go_wp2_with fail
        refine HS'.out.mono ?_
        rintro e w2 ⟨rfl, n, os, hw2⟩
        have FIN : Hid (NamesPost s.now w (.returned (.slice (some ⟨g, 0, none⟩) done.length c3)) w2) := by
          have hL := listed_sort Hsub.out.1 Hsub.out.2
          rw [List.map_map] at hL
          have hfun : (bl ∘ fun x : ByteArray × En => x.1) = (fun c => bl c.1) := rfl
          rw [hfun] at hL
          have hlen : (((done.map (fun c => bl c.1)).mergeSort (fun x y => decide (x ≤ y))).map (fun x => (⟨x.toArray⟩ : ByteArray))).length = done.length := by simp
          have hput := Sort.holds_putRow Go.Proofs.encStr (Sort.ahead wr n) g 0 _ (((done.map (fun c => bl c.1)).mergeSort (fun x y => decide (x ≤ y))).toArray) (Sort.holds_ahead _ _ _ _ _ _ HH.out) (by simp)
          have hgr := Sort.holds_grow Go.Proofs.encStr _ os g 0 _ (by simp; exact hgl) hput
          rw [← hw2] at hgr
          refine ⟨some ⟨g, 0, none⟩, c3, ((done.map (fun c => bl c.1)).mergeSort (fun x y => decide (x ≤ y))).map (fun x => (⟨x.toArray⟩ : ByteArray)), by rw [hlen], hL, fun _ => ⟨g, rfl, ?_, fun j hj => ?_⟩, ?_⟩
          · rw [hw2]; simp; omega
          · rw [hlen] at hj
            have h1 := (hgr j (by simp; exact hj)).1
            rw [Nat.zero_add] at h1
            rw [h1, getElem!_pos _ j (by simp; exact hj), List.getD_eq_getElem?_getD, List.getElem?_map, List.getElem?_eq_getElem (by simp; exact hj)]
            simp
          · rw [hw2]
            exact below_sort Hb.out (by omega)
        clear hw2
        go_wp2_with fail
        go_ret
        exact FIN.out
    · have Hrg1 := Lib.hid hrg1
      have Hlt1 := Lib.hid hlt1
      have Hb1 : Hid (Below w.heap.size w w1) := Hb.out.grown hg1 (by omega) (by simp)
      have HO1 := Lib.hid (HO.out.kept hg1 (by
        cases hv : (Value.slice A3 done.length c3).ownBlock with
        | none => exact .inl rfl
        | some k => exact .inr (fun e => by injection e with e; have := (HO.out.lt k hv).1; omega)))
      have hsz1 : w.heap.size + 1 ≤ w1.heap.size := by rw [hs1.out]; exact hsz
      clear hc hrg1 hg1 hs1
      go_wp2_with (at_builtin; refine halt_ ?_)
      refine wpList_append_own _ rfl _ _ 59 rfl (w.heap.size + 1) 9 i0 _ 1 16 Try.underlying59 hi hz0 hz1 hz2 rfl (by decide) (.slice A3 done.length c3) done.length _ rfl (HO1.out.alloc _) ⟨w1.heap.size, 0, none⟩ 1 1 [.string s] rfl rfl (fun j u hu => by rw [lit_add, Nat.zero_add, new_cell _ _ _ _ rfl]; simpa using hu) (fun u hu => by simp at hu; subst hu; rfl) (by unfold maxLen; omega) (by omega) (by simp; omega) ?_
      intro v2 w2 ho2 hg2 _
      have HO2 : Hid (w2.ownsRow (w.heap.size + 1) 9 1 v2 (done ++ [(s, d, bs)]).length ((done ++ [(s, d, bs)]).map (fun c => Value.string c.1))) := by
        rw [Hid, List.map_append, List.length_append]
        exact ho2
      have hblk : ∀ k, some k = (Value.slice A3 done.length c3).ownBlock → w.heap.size + 1 ≤ k := fun k hk => (HO.out.lt k hk.symm).1
      have Hrg2 : Hid (RIs okS kS vE w2 r.nb w.heap.size r.EN (done ++ [(s, d, bs)]) cnt1) := (Hrg1.out.alloc _).kept hg2 (fun e => by have := hblk _ e; omega) (fun e => by have := hblk _ e; omega)
      have Hb2 : Hid (Below w.heap.size w w2) := (Hb1.out.alloc (by omega) _).grown hg2 (by simp; omega) (fun k hk => by have := hblk k hk.symm; omega)
      have hsz2 : w.heap.size + 1 ≤ w2.heap.size := by have := hg2.size; simp at this; omega
      have hdl2 : (done ++ [(s, d, bs)]).length + cnt1 ≤ r.EN.length := by rw [List.length_append]; simp only [List.length_cons, List.length_nil]; omega
      have HDL := Lib.hid hdl2
      clear ho2 hg2 hblk hdl2
      go_wp2_with fail
      go_roundw
      case rel => exact ⟨_, _, Hrg2.out, HO2.out, hsz2, HDL.out, Hb2.out⟩
      case measure => rw [Hrg2.out.left_eq, Hleft.out]; exact Hlt1.out
end Go.Proofs.Ytddjkkmdcdiofaa
