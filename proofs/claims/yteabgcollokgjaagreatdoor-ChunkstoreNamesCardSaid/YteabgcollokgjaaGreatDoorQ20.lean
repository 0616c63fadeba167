/- OE RA in one text. -/
import Derived.Test.YteabgcollokgjaaGreatDoorQ19
namespace Go.Proofs.YteabgcollokgjaaGreatDoor
open Go.RowKit Go.MapKept Go.ChangeMaps Go.Shelf Go.Sort

theorem below_of_none {w w' : World} (h : w.grownBy w' none) : Below w.heap.size w w' := ⟨h.os, h.tape, h.output, h.size, fun i hi => h.block i hi (by simp)⟩
theorem SW.newFl {b : Nat} {w0 w : World} {l : List Ob} (h : SW b w0 l w) : SW b w0 (flOb w.heap.size none :: l) (w.alloc (.map #[] 0)) := by
  have := h.1.add (o' := flOb w.heap.size none) (w' := w.alloc (.map #[] 0)) (bel1q _ _) ⟨MapIs.made w, fun _ e => by cases e⟩ (fun i hi => by
    rcases hi with hi | ⟨f, e, _⟩
    · simp [hi]
    · cases e) (fun i hi => hi.elim) (fun i hi => hi.elim)
  exact ⟨this.1, h.2.trans this.2⟩
set_option maxRecDepth 100000 in
set_option maxHeartbeats 2000000 in
theorem load_empty {b : Nat} {w : World} {x : SR} {l : List Ob} (h : Sto b w x l) (he : ∀ m, x.s.now m = none) : Calls Tryz.prog 83 #[vPtr x.ps] w (Gives (.int .i64 0) w) := by
  have HN := Lib.hid (Names_any x.p x.r x.s w h.sdv)
  have k0 : w.cell? ⟨x.ps, 0, none⟩ = some (vPtr x.p) := h.scell.cell 0
  have HE := Lib.hid he
  clear h he
  go_enter Tryz.func83, Tryz.ntmps83
  go_wp2_with (go_at_call 37; (with_reducible refine HN.out.mono ?_); refine halt_ ?_)
  rintro e w1 ⟨A, c, ns, rfl, hls, hrd, hb1⟩
  have hns : ns = [] := by
    cases ns with
    | nil => rfl
    | cons m ns =>
      have := (hls.mem m).1 (by simp)
      rw [HE.out m] at this
      cases this
  subst hns
  have HB := Lib.hid hb1
  clear hls hrd hb1 HN k0
  simp only [List.length_nil]
  go_wp2_with fail
  refine wp_loop_rounds 1 ?_
  rw [rounds_succ]
  go_wp2_with (go_at_call 133; (with_reducible refine (Tryz.slices_Sort_int_none none 0 _).mono ?_); rintro e w2 ⟨rfl, rfl⟩)
  refine wp_loop_rounds 1 ?_
  rw [rounds_succ]
  go_wp2_with fail
  go_ret
  exact ⟨rfl, HB.out⟩
def OpenNo (E : Int) (w : World) (e : Ending) (w' : World) : Prop := e = .returned (.tuple #[.pointer none, .int .i64 E]) ∧ w = w'
/-- A store that was opened on an empty device. -/
def openedS (p : Nat) (r : Rp) (s : St) (nm : ByteArray) (H : Nat) : SR := ⟨p, H + 2, H, H + 1, r, s, nm, [], none, 0, 0, false⟩
def OpenYes (b p : Nat) (r : Rp) (s : St) (nm : ByteArray) (l : List Ob) (w : World) (e : Ending) (w' : World) : Prop :=
  ∃ H, w.heap.size ≤ H ∧ e = .returned (.tuple #[vPtr (H + 2), .int .i64 0]) ∧ SW b w ((openedS p r s nm H).obs l) w'
theorem Open_name (v : Value) (nm : ByteArray) (w : World) (hs : nm.size ≤ maxLen) (hn : nameV nm = false) : Calls Tryz.prog 20 #[v, .string nm] w (OpenNo 336 w) := by
  have HV := Lib.hid (validStore_any nm w hs)
  rw [hn] at HV
  clear hn
  go_enter Tryz.func20, Tryz.ntmps20
  go_wp2_with (go_at_call 81; (with_reducible refine HV.out.mono ?_); rintro e w1 ⟨rfl, rfl⟩)
  go_ret2
  exact ⟨rfl, rfl⟩
theorem nameV_size {nm : ByteArray} (h : nameV nm = true) : nm.size ≤ 40 := by
  unfold nameV at h
  simp only [Bool.and_eq_true, decide_eq_true_eq] at h
  exact h.1.2
set_option maxRecDepth 100000 in
set_option maxHeartbeats 2000000 in
theorem Open_down {b : Nat} {w : World} {p : Nat} {r : Rp} {s : St} {l : List Ob} (h : Sep b w (devOb p r s :: l)) (nm : ByteArray) (hn : nameV nm = true) (hd : s.dn = true) : Calls Tryz.prog 20 #[vPtr p, .string nm] w (OpenNo 303 w) := by
  have HV := Lib.hid (validStore_any nm w (by have := nameV_size hn; unfold maxLen; omega))
  rw [hn] at HV
  have HD := Lib.hid (Down_any p r s w h.head)
  rw [hd] at HD
  clear hn h hd
  go_enter Tryz.func20, Tryz.ntmps20
  go_wp2_with (first | (go_at_call 81; (with_reducible refine HV.out.mono ?_); rintro e w1 ⟨rfl, rfl⟩) | (go_at_call 82; (with_reducible refine HD.out.mono ?_); rintro e w1 ⟨rfl, rfl⟩))
  go_ret2
  exact ⟨rfl, rfl⟩
set_option maxRecDepth 100000 in
set_option maxHeartbeats 4000000 in
theorem Open_empty {b : Nat} {w : World} {p : Nat} {r : Rp} {s : St} {l : List Ob} (h : Sep b w (devOb p r s :: l)) (nm : ByteArray) (hn : nameV nm = true) (hd : s.dn = false) (he : ∀ m, s.now m = none) : Calls Tryz.prog 20 #[vPtr p, .string nm] w (OpenYes b p r s nm l w) := by
  have HV := Lib.hid (validStore_any nm w (by have := nameV_size hn; unfold maxLen; omega))
  rw [hn] at HV
  have HD := Lib.hid (Down_any p r s w h.head)
  rw [hd] at HD
  have hm1 : (Instr.makeMap 128 none).run Tryz.prog w = .ok (.map (some w.heap.size)) (w.alloc (.map #[] 0)) := by simp [Instr.makeMap]
  have hm2 : (Instr.makeMap 129 none).run Tryz.prog (w.alloc (.map #[] 0)) = .ok (.map (some (w.heap.size + 1))) ((w.alloc (.map #[] 0)).alloc (.map #[] 0)) := by simp [Instr.makeMap]
  have S1 : SW b w (flOb (w.heap.size + 1) none :: chOb w.heap.size [] :: devOb p r s :: l) ((w.alloc (.map #[] 0)).alloc (.map #[] 0)) := by
    have := ((SW.refl h).newMap).newFl
    simpa using this
  have S2 : Hid (SW b w ((openedS p r s nm w.heap.size).obs l) (((w.alloc (.map #[] 0)).alloc (.map #[] 0)).alloc (.cells #[.pointer (some ⟨p, 0, none⟩), .string nm, .map (some w.heap.size), .map (some (w.heap.size + 1)), .int .i64 0, .int .i64 0, .bool false] 131))) :=
    SW.front (pre := [_, _, _, _]) (t := l) (S1.newCellAt 131 #[.pointer (some ⟨p, 0, none⟩), .string nm, .map (some w.heap.size), .map (some (w.heap.size + 1)), .int .i64 0, .int .i64 0, .bool false] (H := w.heap.size + 2) (by simp)) [3, 0, 2, 1] (n := 4) rfl (by decide)
  have HLO := Lib.hid (load_empty (x := openedS p r s nm w.heap.size) S2.out.1 he)
  clear h hn hd he S1
  go_enter Tryz.func20, Tryz.ntmps20
  go_wp2_with (first | (go_at_call 81; (with_reducible refine HV.out.mono ?_); rintro e w1 ⟨rfl, rfl⟩) | (go_at_call 82; (with_reducible refine HD.out.mono ?_); rintro e w1 ⟨rfl, rfl⟩) | (go_at_call 83; refine halt_ ?_))
  refine HLO.out.mono ?_
  rintro e w1 ⟨rfl, hb1⟩
  have S3 := Lib.hid (S2.out.on hb1)
  clear hb1 HLO S2 hm1 hm2
  have k2 : w1.cell? ⟨w.heap.size + 1 + 1, 2, none⟩ = some (.map (some w.heap.size)) := (S3.out.cell 1 rfl).cell 2
  have HM := Lib.hid (S3.out.get 2 (o := chOb w.heap.size []) rfl).1
  go_wp2_with (at_range; (refine wpList_range_is _ rfl _ 128 rfl 31 138 Tryz.underlying128 w.heap.size [] rfl HM.out ?_); intro w4 hrg hg hs; have RI0 := Lib.hid hrg; have S4 := Lib.hid (S3.out.on (below_of_none hg)); clear hrg hg hs)
  refine wp_loop_rounds 1 ?_
  rw [rounds_succ]
  go_wp2_with (at_next; (refine wpList_next_ch _ rfl _ rfl w.heap.size w1.heap.size [] [] 0 rfl RI0.out (fun hp => ?_) (fun i pl w5 cnt1 hc1 hrg1 hlt1 hg1 hs1 hen => absurd hc1 (by simp))))
  go_ret2
  exact ⟨w.heap.size, Nat.le_refl _, rfl, S4.out⟩
end Go.Proofs.YteabgcollokgjaaGreatDoor
namespace Go.Proofs.YteabgcollokgjaaGreatDoor
open Go.RowKit Go.MapKept Go.ChangeMaps Go.Shelf Go.Sort

section
variable {α β : Type}
/-- A map of its own. -/
def mpOb (ok : α → Prop) (kv : α → Value) (vv : β → Value) (m : Nat) (L : List (α × β)) : Ob where
  own := fun i => i = m
  rd := fun _ => False
  holds := fun w => MapIs ok kv vv w m L
  stable := fun _w _w' h _hs hk => h.same (hk m (.inl rfl))
/-- An iterator of its own over a map. -/
def itrOb (ok : α → Prop) (kv : α → Value) (vv : β → Value) (m r : Nat) (L done : List (α × β)) (cnt : Nat) : Ob where
  own := fun i => i = r
  rd := fun i => i = m
  holds := fun w => RIs ok kv vv w m r L done cnt
  stable := fun w w' h hs hk => by
    obtain ⟨es, clock, since, seen, c0, is, h1, h2, h3, h4, h5, h6⟩ := h
    exact ⟨es, clock, since, seen, c0, is, (hk m (.inr rfl)).trans h1, h2, h3, h4, (hk r (.inl rfl)).trans h5, h6⟩
variable {ok : α → Prop} {kv : α → Value} {vv : β → Value} {b : Nat} {w0 w w' : World} {l : List Ob}
theorem SW.addMp (h : SW b w0 l w) : SW b w0 (mpOb ok kv vv w.heap.size [] :: l) (w.alloc (.map #[] 0)) := by
  have := h.1.add (o' := mpOb ok kv vv w.heap.size []) (w' := w.alloc (.map #[] 0)) (bel1q _ _) (MapIs.made w) (fun i hi => by have e : i = w.heap.size := hi; simp [e]) (fun i hi => hi.elim) (fun i hi => hi.elim)
  exact ⟨this.1, h.2.trans this.2⟩
theorem SW.updMp (h : SW b w0 l w) (k : Nat) {m : Nat} {L L' : List (α × β)} (hk : l[k]? = some (mpOb ok kv vv m L)) (hm : MapIs ok kv vv w' m L') (hg : w.grownBy w' (some m)) : SW b w0 (l.set k (mpOb ok kv vv m L')) w' := by
  have := h.1.stepAt k hk (w' := w') (o' := mpOb ok kv vv m L') (Fr.grown hg rfl (fun i hi => .inl hi)) (fun i hi => hi.elim) hm (fun i hi => by
    rcases hi with hi | hi
    · have e : i = m := hi
      rw [e]
      exact hm.lt
    · exact hi.elim)
  exact ⟨this.1, h.2.trans this.2⟩
/-- An iterator is made over a map that none of these things may write. -/
theorem SW.addIt (h : SW b w0 l w) {m : Nat} {L : List (α × β)} (hr : RIs ok kv vv w' m w.heap.size L [] L.length) (hg : w.grownBy w' none) (hn : ∀ y ∈ l, ¬ y.own m) : SW b w0 (itrOb ok kv vv m w.heap.size L [] L.length :: l) w' := by
  have hb : Below w.heap.size w w' := below_of_none hg
  have hlt := hr.lt
  have hml := hr.map.lt
  have := h.1.add (o' := itrOb ok kv vv m w.heap.size L [] L.length) (w' := w') hb hr (fun i hi => by have e : i = w.heap.size := hi; subst e; exact ⟨Nat.le_refl _, hlt⟩) (fun i hi => by have e : i = m := hi; subst e; exact hml) (fun i hi _ y hy => by have e : i = m := hi; subst e; exact hn y hy)
  exact ⟨this.1, h.2.trans this.2⟩
theorem SW.nextIt (h : SW b w0 l w) (k : Nat) {m r : Nat} {L done done' : List (α × β)} {cnt cnt' : Nat} (hk : l[k]? = some (itrOb ok kv vv m r L done cnt)) (hr : RIs ok kv vv w' m r L done' cnt') (hg : w.grownBy w' (some r)) : SW b w0 (l.set k (itrOb ok kv vv m r L done' cnt')) w' := by
  have := h.1.stepAt k hk (w' := w') (o' := itrOb ok kv vv m r L done' cnt') (Fr.grown hg rfl (fun i hi => .inl hi)) (fun i hi => .inr (.inl hi)) hr (fun i hi => by
    rcases hi with hi | hi
    · have e : i = r := hi
      rw [e]
      exact hr.lt
    · have e : i = m := hi
      rw [e]
      exact hr.map.lt)
  exact ⟨this.1, h.2.trans this.2⟩
end
theorem SW.addNewR {b : Nat} {w0 w w' : World} {l : List Ob} {o' : Ob} (h : SW b w0 l w) (hb : Below w.heap.size w w') (hh : o'.holds w') (ho : ∀ i, ¬ o'.own i) (hr : ∀ i, o'.rd i → w.heap.size ≤ i ∧ i < w'.heap.size) : SW b w0 (o' :: l) w' := by
  have := h.1.add (o' := o') hb hh (fun i hi => absurd hi (ho i)) (fun i hi => (hr i hi).2) (fun i hi hlt => absurd (hr i hi).1 (by omega))
  exact ⟨this.1, h.2.trans this.2⟩
theorem durs_mem {C : Chs} {y : Ent} (h : y ∈ durs C) : (y.1, Pl.at y.2) ∈ C := by
  induction C with
  | nil => cases h
  | cons c C ih =>
    obtain ⟨i, pl⟩ := c
    cases pl with
    | pend d bs => exact List.mem_cons_of_mem _ (ih h)
    | «at» o =>
      rcases List.mem_cons.1 h with rfl | h
      · exact List.mem_cons_self ..
      · exact List.mem_cons_of_mem _ (ih h)
theorem SW.nil (w : World) : SW w.heap.size w [] w := ⟨Sep.nil w (Nat.le_refl _), Below.refl _ _⟩
/-- Is one of these chunks in the file? -/
def anyAt (C : Chs) (G : List (ID × Bool)) : Bool := G.any (fun g => ((asc C g.1).map (fun p => !p.isP)).getD false)
def tlG (v : Bool) : List (Int × Bool) := if v then [(1, true)] else []
theorem anyAt_snoc (C : Chs) (G : List (ID × Bool)) (g : ID × Bool) : anyAt C (G ++ [g]) = (anyAt C G || ((asc C g.1).map (fun p => !p.isP)).getD false) := by
  unfold anyAt
  rw [List.any_append]
  simp
theorem anyAt_perm {C : Chs} {G K : List (ID × Bool)} (h : G.Perm K) : anyAt C G = anyAt C K := by
  unfold anyAt
  rw [Bool.eq_iff_iff, List.any_eq_true, List.any_eq_true]
  constructor
  · rintro ⟨g, hg, h2⟩
    exact ⟨g, h.mem_iff.1 hg, h2⟩
  · rintro ⟨g, hg, h2⟩
    exact ⟨g, h.mem_iff.2 hg, h2⟩
theorem zero4 (W : World) : (zeroValue 4).run Tryz.prog W = .ok (.bool false) W := by kernel_rfl
theorem look_g {w : World} {gm : Nat} {G : List (ID × Bool)} (h : MapIs okID vID vBl w gm G) {i : ID} (hi : okID i) : (Instr.lookup 143 (.map (some gm)) (.agg #[.int .u64 i.1, .int .i64 i.2]) false).run Tryz.prog w = .ok (.bool ((asc G i).getD false)) w := by
  have := MapIs.look mkI Tryz.underlying143 (zero4 w) h hi false
  rw [show (Value.agg #[.int .u64 i.1, .int .i64 i.2]) = vID i from rfl, this]
  cases asc G i <;> rfl
theorem look_t {w : World} {tm : Nat} {v : Bool} (h : MapIs okN vN vBl w tm (tlG v)) : (Instr.lookup 217 (.map (some tm)) (.int .i64 1) false).run Tryz.prog w = .ok (.bool v) w := by
  have := MapIs.look mkN Tryz.underlying217 (zero4 w) h okN1 false
  rw [show (Value.int .i64 1) = vN 1 from rfl, this]
  cases v <;> rfl
theorem setL_tl (v : Bool) : setL (tlG v) 1 true = tlG true := by
  cases v <;> simp [tlG, setL]
end Go.Proofs.YteabgcollokgjaaGreatDoor
