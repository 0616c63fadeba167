/- OB FA FR R3 FB in one text. -/
import Derived.Test.YteabgcollokgjaaGreatDoorQ11
import Derived.Test.YteabgcollokgjaaGreatDoorQ08
import Derived.Test.YteabgcollokgjaaGreatDoorQ09
import Derived.Test.YteabgcollokgjaaGreatDoorQ10
import Derived.Deep.CutRange
import Derived.Deep.CutBlock
import Derived.Test.YteabgcollokgjaaGreatDoorQ01
import Derived.Deep.Cut
import Derived.Deep.RegionHeld
set_option linter.unusedSimpArgs false
set_option linter.unusedVariables false
namespace Go.Proofs.YteabgcollokgjaaGreatDoor
open Go.RowKit Go.MapKept Go.ChangeMaps Go.Shelf Go.Sort

theorem set_self {α : Type} : ∀ (L : List α) (i : Nat) (v : α), L[i]? = some v → L.set i v = L
 | [], _, _, h => by simp at h
 | x :: L, 0, v, h => by
  have h : x = v := by simpa using h
  rw [List.set_cons_zero, h]
 | x :: L, i + 1, v, h => by rw [List.set_cons_succ, set_self L i v (by simpa using h)]
section
variable {b : Nat} {w0 w w' : World} {l t : List Ob} {o o' : Ob}
theorem pair_all {l : List Ob} (h : l.Pairwise Apart) {x y : Ob} (hx : x ∈ l) (hy : y ∈ l) (hne : x ≠ y) : Apart x y := by
 induction l with
 | nil => cases hx
 | cons z l ih =>
  obtain ⟨h1, h2⟩ := List.pairwise_cons.1 h
  rcases List.mem_cons.1 hx with rfl | hx
  · rcases List.mem_cons.1 hy with rfl | hy
    · exact absurd rfl hne
    · exact h1 y hy
  · rcases List.mem_cons.1 hy with rfl | hy
    · exact (h1 x (by assumption)).symm
    · exact ih h2 (by assumption) (by assumption)
/-- What was owned is only read from now on. -/
theorem SW.asRead (h : SW b w0 (o :: t) w) (hh : o'.holds w) (ho : ∀ i, ¬ o'.own i) (hr : ∀ i, o'.rd i → o.own i) : SW b w0 (o' :: t) w := by
 have ha := List.pairwise_cons.1 h.1.apart
 refine ⟨⟨h.1.base, fun y hy => ?_, fun y hy i hi => ?_, fun y hy i hi => ?_, List.pairwise_cons.2 ⟨fun y hy => ⟨fun i hi => absurd hi (ho i), fun i hi hr' => ?_⟩, ha.2⟩⟩, h.2⟩
 · rcases List.mem_cons.1 hy with rfl | hy
   · exact hh
   · exact h.1.holds y (List.mem_cons_of_mem _ hy)
 · rcases List.mem_cons.1 hy with rfl | hy
   · exact absurd hi (ho i)
   · exact h.1.own y (List.mem_cons_of_mem _ hy) i hi
 · rcases List.mem_cons.1 hy with rfl | hy
   · exact (h.1.own _ (List.mem_cons_self ..) i (hr i hi)).2
   · exact h.1.rd y (List.mem_cons_of_mem _ hy) i hi
 · exact ((ha.1 y hy).1 i (hr i hr')).1 hi
/-- One more reader of what is read already, or of nothing that is written. -/
theorem SW.also (h : SW b w0 l w) (hh : o'.holds w) (ho : ∀ i, ¬ o'.own i) (hlt : ∀ i, o'.rd i → i < w.heap.size) (hr : ∀ i, o'.rd i → ∀ y ∈ l, ¬ y.own i) : SW b w0 (o' :: l) w := by
 refine ⟨⟨h.1.base, fun y hy => ?_, fun y hy i hi => ?_, fun y hy i hi => ?_, List.pairwise_cons.2 ⟨fun y hy => ⟨fun i hi => absurd hi (ho i), fun i hi hr' => hr i hr' y hy hi⟩, h.1.apart⟩⟩, h.2⟩
 · rcases List.mem_cons.1 hy with rfl | hy
   · exact hh
   · exact h.1.holds y hy
 · rcases List.mem_cons.1 hy with rfl | hy
   · exact absurd hi (ho i)
   · exact h.1.own y hy i hi
 · rcases List.mem_cons.1 hy with rfl | hy
   · exact hlt i hi
   · exact h.1.rd y hy i hi
/-- Nobody owns what a pure reader reads. -/
theorem SW.noOwn (h : SW b w0 l w) (ho : o ∈ l) (hn : ∀ i, ¬ o.own i) {i : Nat} (hi : o.rd i) : ∀ y ∈ l, ¬ y.own i := fun y hy hw => by
 by_cases e : y = o
 · subst e
   exact hn i hw
 · exact ((pair_all h.1.apart hy ho e).1 i hw).2 hi
theorem few_rest (idx : List Nat) (n : Nat) (hd : idx.Nodup) (hl : ∀ i ∈ idx, i < n) : ∃ rest : List Nat, (idx ++ rest).Perm (List.range n) := by
 refine ⟨(List.range n).filter (fun i => !idx.contains i), ?_⟩
 refine (List.perm_ext_iff_of_nodup ?_ List.nodup_range).2 (fun i => ?_)
 · refine List.nodup_append.2 ⟨hd, List.nodup_range.filter _, fun a ha c hc e => ?_⟩
   subst e
   have := (List.mem_filter.1 hc).2
   simp [ha] at this
 · simp only [List.mem_append, List.mem_filter, List.mem_range]
   constructor
   · rintro (h1 | h1)
     · exact hl i h1
     · exact h1.1
   · intro h1
     by_cases e : i ∈ idx
     · exact .inl e
     · exact .inr ⟨h1, by simp [e]⟩
/-- Of the first things only these are wanted, in this order. -/
theorem SW.few {pre t : List Ob} (h : SW b w0 (pre ++ t) w) (idx : List Nat) {n : Nat} (hn : pre.length = n) (hd : idx.Nodup) (hl : ∀ i ∈ idx, i < n) : SW b w0 (idx.filterMap (fun i => pre[i]?) ++ t) w := by
 obtain ⟨rest, hp⟩ := few_rest idx n hd hl
 have h1 := h.front (idx ++ rest) hn hp
 rw [List.filterMap_append, List.append_assoc] at h1
 refine h1.sub ?_
 exact (List.Sublist.refl _).append (List.sublist_append_right _ _)
end
section
variable {b : Nat} {w0 w w' : World} {l t : List Ob}
theorem SW.rowRi {A : Option Addr} {cap : Nat} {F : List ID} (h : SW b w0 (rowOb 31 2 (.slice A F.length cap) F.length (F.flatMap encID) :: t) w) : SW b w0 (riOb A F :: t) w := by
 have hh : w.ownsRow 0 31 2 (.slice A F.length cap) F.length (F.flatMap encID) := h.get 0 (o := rowOb 31 2 (.slice A F.length cap) F.length (F.flatMap encID)) rfl
 refine h.asRead (o' := riOb A F) ?_ (fun i hi => hi) (fun i hi => ?_)
 · by_cases hF : F.length = 0
   · have hF' : F = [] := List.eq_nil_of_length_eq_zero hF
     subst hF'
     refine ⟨fun _ => rfl, fun ad e => ?_⟩
     rcases hh.2 with ⟨hv, _⟩ | ⟨g, cap', cur, hv, _⟩
     · injection hv with hv
       rw [e] at hv
       cases hv
     · subst e
       injection hv with h1
       injection h1 with h1
       subst h1
       obtain ⟨_, h2, h3, _⟩ := own_rowI hh
       exact ⟨g, rfl, h2, h3⟩
   · obtain ⟨g, c', e⟩ := own_some hh hF
     injection e with e1 e2 e3
     subst e1
     obtain ⟨_, h2, h3, _⟩ := own_rowI hh
     exact ⟨(fun e => by cases e), fun ad e => by injection e with e; exact ⟨g, e.symm, h2, h3⟩⟩
 · have hi : A = some ⟨i, 0, none⟩ := hi
   show (Value.slice A F.length cap).ownBlock = some i
   rw [hi]
   rfl
end
end Go.Proofs.YteabgcollokgjaaGreatDoor
namespace Go.Proofs.YteabgcollokgjaaGreatDoor
open Go.RowKit Go.MapKept Go.ChangeMaps

/-- A buffer of its own. -/
def bufOb (d : BD) (bs : List UInt8) : Ob where
 own := fun i => blk d = some i
 rd := fun _ => False
 holds := fun w => RB w d bs
 stable := fun w w' h hs hk => by
  have hc : Ch w w' (fun i => ¬ blk d = some i) [] := ⟨hs.1, hs.2.1, hs.2.2.1, hs.2.2.2, fun i _ hn _ => hk i (.inl (Classical.not_not.1 hn)), by simp⟩
  exact h.ch hc (fun g hg hn => hn hg) (by simp)
/-- Bytes that are only read. -/
def rsOb (A : Option Addr) (bs : List UInt8) : Ob where
 own := fun _ => False
 rd := fun i => 0 < bs.length ∧ ∃ o, A = some ⟨i, o, none⟩
 holds := fun w => RS w A bs
 stable := fun w w' h hs hk => by
  refine ⟨h.1, fun ad e => ?_⟩
  obtain ⟨g, o, rfl, hc⟩ := h.2 ad e
  refine ⟨g, o, rfl, fun j hj => ?_⟩
  have h2 := hk g (.inr ⟨by omega, o, e⟩)
  rw [← hc j hj]
  simp [World.cell?, h2]
theorem AppB.fr {w w' : World} {d d' : BD} {bs bs' : List UInt8} (h : AppB w d bs' d' w') (hr : RB w d bs) : Fr w w' (bufOb d bs).own (bufOb d' bs').own := by
 obtain ⟨_, ⟨e1, _, _, hc⟩ | ⟨H, e1, e2, hb⟩⟩ := h
 · refine ⟨hc.os, hc.tape, hc.output, hc.size, fun i hi hn => hc.block i hi (fun h => h) (fun p hp he => hn ?_), fun i hi => .inl ?_⟩
   · obtain ⟨A, n, c⟩ := d
     cases A with
     | none => simp [room] at hp
     | some ad =>
      obtain ⟨g, cur, rfl, _⟩ := hr.2.2.2 ad rfl
      simp [room] at hp
      obtain ⟨_, rfl⟩ := hp
      show blk _ = some i
      rw [← he]
      rfl
   · show blk d = some i
     rw [← e1]
     exact hi
 · exact Fr.new hb (fun i hi => .inr (by
    have h1 : blk d' = some i := hi
    rw [e1] at h1
    injection h1 with h1
    omega))
/-- Bytes are appended to a buffer. -/
theorem Sep.app {b : Nat} {w w' : World} {l : List Ob} (h : Sep b w l) (k : Nat) {d d' : BD} {bs bs' : List UInt8} (hk : l[k]? = some (bufOb d bs)) (ha : AppB w d bs' d' w') : Sep b w' (l.set k (bufOb d' bs')) ∧ Below b w w' := by
 have hr : RB w d bs := h.get hk
 refine h.stepAt k hk (ha.fr hr) (fun i hi => hi.elim) ha.1 (fun i hi => ?_)
 rcases hi with hi | hi
 · exact ha.1.lt hi
 · exact hi.elim
/-- A place is noted. -/
theorem Sep.note {b : Nat} {w w' : World} {l : List Ob} (h : Sep b w l) (k : Nat) {cm : Nat} {C : Chs} (hk : l[k]? = some (chOb cm C)) {i : ID} {o : Nat} (hm : MapIs okID vID vPl w' cm (setL C i (.at o))) (hg : w.grownBy w' (some cm)) : Sep b w' (l.set k (chOb cm (setL C i (.at o)))) ∧ Below b w w' := by
 have hh := h.get hk
 have hmem : ∀ c ∈ setL C i (.at o), c = (i, .at o) ∨ c ∈ C := (setL_pairwise (R := fun _ _ => True) hh.1.nodup (List.pairwise_of_forall (by simp)) i (Pl.at o) (by simp) (by simp)).2
 have hpend : ∀ id d' bs', (id, Pl.pend d' bs') ∈ setL C i (.at o) → (id, Pl.pend d' bs') ∈ C := by
  intro id d' bs' hc
  rcases hmem _ hc with e | e
  · injection e with e1 e2
    cases e2
  · exact e
 refine h.stepAt k hk (Fr.grown hg rfl (fun _ hi => .inl hi)) (fun j hj => ?_) ⟨hm, fun id d' bs' hc => ?_⟩ (fun j hj => ?_)
 · obtain ⟨id, d', bs', hc, hbk⟩ := hj
   exact .inr (.inl ⟨id, d', bs', hpend _ _ _ hc, hbk⟩)
 · have := hh.2 id d' bs' (hpend _ _ _ hc)
   exact ⟨this.1.gone hh.1 hg, this.2⟩
 · rcases hj with hj | ⟨id, d', bs', hc, hbk⟩
   · have e : j = cm := hj
     rw [e]
     exact hm.lt
   · exact Nat.lt_of_lt_of_le ((hh.2 id d' bs' (hpend _ _ _ hc)).1.lt hbk) hg.size
end Go.Proofs.YteabgcollokgjaaGreatDoor
namespace Go.Proofs.YteabgcollokgjaaGreatDoor
open Go.RowKit

set_option maxRecDepth 100000 in
set_option maxHeartbeats 1000000 in
theorem rplus_any (a b : Nat) (w : World) (ha : a ≤ 2305843009213693951) (hb : b ≤ 2305843009213693951) : Calls Tryz.prog 186 #[.int .u64 (a : Int), .int .u64 (b : Int)] w fun e w' => e = .returned (.int .u64 (((a + b) % pP : Nat) : Int)) ∧ w = w' := by
 by_cases h : a + b < 2305843009213693951
 · have e1 : Hid ((a + b) % pP = a + b) := Nat.mod_eq_of_lt h
   have h' : ¬ (2305843009213693951 ≤ (a : Int) + b) := by omega
   go_enter Tryz.func186, Tryz.ntmps186
   go_wp2
   go_ret
   exact rint_u (q := a + b) e1.out rfl
 · have h' : 2305843009213693951 ≤ (a : Int) + b := by omega
   by_cases h2 : a + b - 2305843009213693951 < 2305843009213693951
   · have e1 : Hid ((a + b) % pP = a + b - 2305843009213693951) := by
      rw [Hid, Nat.mod_eq_sub_mod (by unfold pP; omega)]
      exact Nat.mod_eq_of_lt (by unfold pP; omega)
     have h2' : ¬ (2305843009213693951 ≤ (a : Int) + b - 2305843009213693951) := by omega
     obtain ⟨r, hr⟩ : ∃ r, r = (a + b) % pP := ⟨_, rfl⟩
     rw [← hr]
     have E2 : Hid (((r : Nat) : Int) = (a : Int) + b - 2305843009213693951) := by rw [Hid, hr, e1.out]; omega
     clear hr e1
     go_enter Tryz.func186, Tryz.ntmps186
     go_wp2
     go_ret
     rw [E2.out]
     exact ⟨rfl, rfl⟩
   · obtain rfl : a = 2305843009213693951 := by omega
     obtain rfl : b = 2305843009213693951 := by omega
     obtain ⟨r, hr⟩ : ∃ r, r = (2305843009213693951 + 2305843009213693951) % pP := ⟨_, rfl⟩
     have hr0 : r = 0 := by
      rw [hr]
      unfold pP
      omega
     rw [← hr, hr0]
     clear hr hr0
     go_enter Tryz.func186, Tryz.ntmps186
     go_wp2
     go_ret
     exact ⟨rfl, rfl⟩
theorem rmul_lo (m : Nat) : bits .and .u64 ((m : Int) % 18446744073709551616) 2305843009213693951 = ((m % 18446744073709551616 % 2305843009213693952 : Nat) : Int) := by
 have e : (m : Int) % 18446744073709551616 = ((m % 18446744073709551616 : Nat) : Int) := by omega
 rw [e, mask61 _ (Nat.mod_lt _ (by omega))]
set_option maxRecDepth 100000 in
set_option maxHeartbeats 1000000 in
theorem rmul_any (a b : Nat) (w : World) (ha : a < 2305843009213693951) (hb : b < 2305843009213693951) : Calls Tryz.prog 187 #[.int .u64 (a : Int), .int .u64 (b : Int)] w fun e w' => e = .returned (.int .u64 (((a * b) % pP : Nat) : Int)) ∧ w = w' := by
 have HP := Lib.hid (prod_lt ha hb)
 go_enter Tryz.func187, Tryz.ntmps187
 go_wp2_with (first | (go_at_call 185; refine (Tryz.bits_Mul64 a b (by omega) (by omega) _).mono ?_; rintro e w' ⟨rfl, hw⟩; rw [hw]) | (go_at_call 186; refine halt_q ?_))
 have e1 := rmul_lo (a * b)
 have e2 := mul_hi (a * b) HP.out
 rw [Int.natCast_mul] at e1 e2
 rw [e2, e1]
 have hh := mul_high _ HP.out
 refine (rplus_any (a * b % 18446744073709551616 % 2305843009213693952) (a * b / 18446744073709551616 * 8 + a * b % 18446744073709551616 / 2305843009213693952) w (by omega) (by omega)).mono ?_
 rintro e w' ⟨rfl, rfl⟩
 rw [mul_words _ HP.out]
 clear e1 e2 hh
 go_wp2_with fail
 go_ret
 exact ⟨rfl, rfl⟩
set_option maxRecDepth 100000 in
set_option maxHeartbeats 2000000 in
theorem rSum_any (A : Option Addr) (c : Nat) (bs : List UInt8) (w : World) (h : RS w A bs) (hn : bs.length ≤ 1099511627776) : Calls Tryz.prog 148 #[.slice A bs.length c] w fun e w' => e = .returned (.int .u64 ((fpSum bs : Nat) : Int)) ∧ Below w.heap.size w w' := by
 have H := Lib.hid h
 clear h
 go_enter Tryz.func148, Tryz.ntmps148
 go_wp2_with fail
 go_loopw [3, 4] (fun v i wr => ∃ (k : Nat), k ≤ bs.length ∧ i = .int .i64 k ∧ v = .int .u64 ((fpSum (bs.take k) : Nat) : Int) ∧ Below w.heap.size w wr) (fun _ i _ => bs.length - (intOf i).toNat)
 case atStart => exact ⟨0, Nat.zero_le _, rfl, by rw [List.take_zero, fpSum_nil]; rfl, Below.refl _ _⟩
 case round =>
  obtain ⟨k, hk, rfl, rfl, hbl⟩ := hrel
  have HB := Lib.hid hbl
  have HR := Lib.hid (H.out.on hbl)
  clear hbl
  by_cases hlt : k < bs.length
  · cases A with
    | none => exact absurd (H.out.1 rfl) (by omega)
    | some ad =>
     obtain ⟨g, o, rfl, hc⟩ := HR.out.2 ad rfl
     have hcl : wr.cell? ⟨g, o + k, none⟩ = some (.int .u8 (((bs.getD k 0).toNat : Nat) : Int)) := hc k hlt
     have HT : Hid ((fpSum (bs.take k) * 747382712868975713 % pP + ((bs.getD k 0).toNat + 1)) % pP = fpSum (bs.take (k + 1))) := by rw [Hid, take_snocU bs k hlt, ← fp_byte]
     have hf := fpSum_lt (bs.take k)
     have HF : Hid (fpSum (bs.take k) < pP) := hf
     clear hc hf
     generalize hx : bs.getD k 0 = x at *
     have hx2 := x.toNat_lt
     have HX := Lib.hid hx
     clear hx
     generalize fpSum (bs.take k) = sm at *
     generalize hs' : fpSum (bs.take (k + 1)) = sm' at *
     have HS := Lib.hid hs'
     clear hs'
     have hm := fun w => rmul_any sm 747382712868975713 w HF.out (by omega)
     have hmt : sm * 747382712868975713 % pP < pP := Nat.mod_lt _ pP_pos
     generalize sm * 747382712868975713 % pP = t at *
     have ha := fun w => rplus_any t (x.toNat + 1) w (by unfold pP at hmt; omega) (by omega)
     rw [HT.out] at ha
     simp only [Int.natCast_add, Int.natCast_one] at ha
     have HM : Hid (∀ w, Calls Tryz.prog 187 #[.int .u64 ((sm : Nat) : Int), .int .u64 747382712868975713] w fun e w' => e = .returned (.int .u64 ((t : Nat) : Int)) ∧ w' = w) := fun w => (hm w).mono fun _ _ h => ⟨h.1, h.2.symm⟩
     have HA : Hid (∀ w, Calls Tryz.prog 186 #[.int .u64 ((t : Nat) : Int), .int .u64 (((x.toNat : Nat) : Int) + 1)] w fun e w' => e = .returned (.int .u64 ((sm' : Nat) : Int)) ∧ w' = w) := fun w => (ha w).mono fun _ _ h => ⟨h.1, h.2.symm⟩
     clear hm ha hmt
     go_wp2_with fail
     go_quiet ((first | (go_at_call 187; exact Calls.quiet_of_same (HM.out _)) | (go_at_call 186; exact Calls.quiet_of_same (HA.out _))))
     go_wp2_with fail
     go_roundw
     case rel => exact ⟨k + 1, by omega, by go_num, by rw [HS.out], bdrewN HB.out _⟩
     case measure => simp [intOf]; omega
  · obtain rfl : k = bs.length := by omega
    rw [List.take_length]
    go_wp2_with fail
    go_ret
    exact ⟨rfl, HB.out⟩
set_option maxRecDepth 100000 in
set_option maxHeartbeats 1000000 in
theorem rOf_any (A : Option Addr) (c : Nat) (bs : List UInt8) (w : World) (h : RS w A bs) (hn : bs.length ≤ 1099511627776) : Calls Tryz.prog 94 #[.slice A bs.length c] w fun e w' => e = .returned (.agg #[.int .u64 (fpOf bs).1, .int .i64 (fpOf bs).2]) ∧ Below w.heap.size w w' := by
 have H := Lib.hid (fun W (hW : RS W A bs) => rSum_any A c bs W hW hn)
 have H1 := Lib.hid (h.on ((Below.refl _ w).alloc (Nat.le_refl _) (.cells #[.int .u64 0, .int .i64 0] 31)))
 have B1 : Hid (IsB (w.alloc (.cells #[.int .u64 0, .int .i64 0] 31)) w.heap.size 31 #[.int .u64 0, .int .i64 0]) := IsB.new _ _ _
 clear h
 simp only [fpOf]
 generalize fpSum bs = sm at *
 go_enter Tryz.func94, Tryz.ntmps94
 go_wp2_with (go_at_call 148; refine (H.out _ H1.out).mono ?_; rintro e w' ⟨rfl, hb⟩; have HB := Lib.hid hb; have hc0 := (B1.out.on hb).cell 0; have hc1 := (B1.out.on hb).cell 1; have hf0 := (B1.out.on hb).frozen 0; have hf1 := (B1.out.on hb).frozen 1; clear hb)
 refine bodyPost_ret (v := .agg #[.int .u64 ((sm : Nat) : Int), .int .i64 ((bs.length : Nat) : Int)]) ?_ rfl ⟨rfl, ?_⟩
 · simp [results, Tryz.results94, go_sem, hc0, hc1]
 · exact ((((Below.refl _ w).alloc (Nat.le_refl _) _).trans (HB.out.mono (by simp))).setCell (p := ⟨w.heap.size, 0, none⟩) (Nat.le_refl _) _).setCell (p := ⟨w.heap.size, 1, none⟩) (Nat.le_refl _) _
end Go.Proofs.YteabgcollokgjaaGreatDoor
namespace Go.Proofs.YteabgcollokgjaaGreatDoor
open Go.RowKit Go.MapKept Go.ChangeMaps Go.Shelf Go.Sort
attribute [local go_sem] wext_cell

/-- A row that is read: its first values. -/
def RowV (w : World) (t : TypeId) (sz : Nat) (A : Option Addr) (n : Nat) (xs : List Value) : Prop :=
 xs.length = n * sz ∧ (n = 0 ∨ ∃ g cur, A = some ⟨g, 0, none⟩ ∧ IsB w g t cur ∧ cur.toList.take (n * sz) = xs)
section
variable {w w' : World} {t : TypeId} {sz : Nat} {A : Option Addr} {n : Nat} {xs : List Value}
theorem RowV.same (h : RowV w t sz A n xs) (hk : ∀ i, 0 < n → A = some ⟨i, 0, none⟩ → w'.heap[i]? = w.heap[i]?) : RowV w' t sz A n xs := by
 refine ⟨h.1, ?_⟩
 rcases h.2 with h2 | ⟨g, cur, e, hi, hx⟩
 · exact .inl h2
 · by_cases hn : n = 0
   · exact .inl hn
   · exact .inr ⟨g, cur, e, (hk g (by omega) e).trans hi, hx⟩
theorem RowV.lt (h : RowV w t sz A n xs) {i : Nat} (hn : 0 < n) (e : A = some ⟨i, 0, none⟩) : i < w.heap.size := by
 rcases h.2 with h2 | ⟨g, cur, e2, hi, _⟩
 · omega
 · rw [e] at e2
   injection e2 with e2
   injection e2 with e2
   rw [e2]
   exact hi.lt
theorem RowV.at (h : RowV w t sz A n xs) (hn : 0 < n) : ∃ g, A = some ⟨g, 0, none⟩ ∧ g < w.heap.size ∧ ∀ j, j < n * sz → w.cell? ⟨g, j, none⟩ = xs[j]? := by
 rcases h.2 with h2 | ⟨g, cur, e2, hi, hx⟩
 · omega
 · refine ⟨g, e2, hi.lt, fun j hj => ?_⟩
   rw [hi.cell, ← hx, List.getElem?_take_of_lt hj, Array.getElem?_toList]
theorem RowV.of_own {c : Nat} (h : w.ownsRow 0 t sz (.slice A n c) n xs) : RowV w t sz A n xs ∧ n ≤ c := by
 refine ⟨⟨h.1, ?_⟩, ?_⟩
 · rcases h.2 with ⟨hv, h2⟩ | ⟨g, cap, cur, hv, _, hh, hc1, hcs, hcs2, htk⟩
   · exact .inl h2
   · injection hv with e1 e2 e3
     exact .inr ⟨g, cur, e1, hh, htk⟩
 · rcases h.2 with ⟨hv, h2⟩ | ⟨g, cap, cur, hv, _, hh, hc1, hcs, hcs2, htk⟩
   · omega
   · injection hv with e1 e2 e3
     omega
theorem RowV.nil : RowV w t sz A 0 [] := ⟨by simp, .inl rfl⟩
end
/-- A chunk of the reference's store. -/
structure RE where
 id : ID
 d : BD
 bs : List UInt8
 pn : Bool
def re0 : RE := ⟨(0, 0), ⟨none, 0, 0⟩, [], false⟩
def encK (e : RE) : List Value := [.int .u64 e.id.1, .int .i64 e.id.2, .slice e.d.A e.d.len e.d.cap]
def encP (e : RE) : List Value := [.bool e.pn]
theorem encK_len (e : RE) : (encK e).length = 3 := rfl
theorem encP_len (e : RE) : (encP e).length = 1 := rfl
/-- The reference's store. -/
structure R3 where
 A : Option Addr
 c : Nat
 B : Option Addr
 k : Nat
 E : List RE
structure R3Ok (w : World) (r : R3) : Prop where
 a : RowV w 65 3 r.A r.E.length (r.E.flatMap encK)
 b : RowV w 4 1 r.B r.E.length (r.E.flatMap encP)
 c : r.E.length ≤ r.c
 k : r.E.length ≤ r.k
 n : r.E.length ≤ 100000
 bytes : ∀ e ∈ r.E, RB w e.d e.bs
def r3Ob (r : R3) : Ob where
 own := fun _ => False
 rd := fun i => (0 < r.E.length ∧ (r.A = some ⟨i, 0, none⟩ ∨ r.B = some ⟨i, 0, none⟩)) ∨ ∃ e ∈ r.E, blk e.d = some i
 holds := fun w => R3Ok w r
 stable := fun w w' h hs hk => by
  refine ⟨h.a.same (fun i hn e => hk i (.inr (.inl ⟨hn, .inl e⟩))), h.b.same (fun i hn e => hk i (.inr (.inl ⟨hn, .inr e⟩))), h.c, h.k, h.n, fun e he => ?_⟩
  have hc : Ch w w' (fun i => ¬ blk e.d = some i) [] := ⟨hs.1, hs.2.1, hs.2.2.1, hs.2.2.2, fun i _ hn _ => hk i (.inr (.inr ⟨e, he, Classical.not_not.1 hn⟩)), by simp⟩
  exact (h.bytes e he).ch hc (fun g hg hn => hn hg) (by simp)
theorem r3Ob_lt {w : World} {r : R3} (h : R3Ok w r) {i : Nat} (hi : (r3Ob r).rd i) : i < w.heap.size := by
 rcases hi with ⟨hn, e | e⟩ | ⟨e, he, ea⟩
 · exact h.a.lt hn e
 · exact h.b.lt hn e
 · exact (h.bytes e he).lt ea
theorem SW.start {w : World} {o : Ob} (h : o.holds w) (ho : ∀ i, ¬ o.own i) (hr : ∀ i, o.rd i → i < w.heap.size) : SW w.heap.size w [o] w :=
 (SW.refl (Sep.nil w (Nat.le_refl _))).also h ho hr (fun _ _ y hy => by cases hy)
theorem SW.startR {w : World} {r : R3} (h : R3Ok w r) : SW w.heap.size w [r3Ob r] w := SW.start (o := r3Ob r) h (fun _ h => h) (fun _ h' => r3Ob_lt h h')
/-- Things that are no longer written are read as one. -/
theorem SW.fuse {b : Nat} {w0 w : World} {pre t : List Ob} {o' : Ob} (h : SW b w0 (pre ++ t) w) (hh : o'.holds w) (ho : ∀ i, ¬ o'.own i) (hr : ∀ i, o'.rd i → ∃ o ∈ pre, o.own i ∨ o.rd i) : SW b w0 (o' :: t) w := by
 obtain ⟨_, hpt, hap⟩ := List.pairwise_append.1 h.1.apart
 refine ⟨⟨h.1.base, fun y hy => ?_, fun y hy i hi => ?_, fun y hy i hi => ?_, List.pairwise_cons.2 ⟨fun y hy => ⟨fun i hi => absurd hi (ho i), fun i hi hr' => ?_⟩, hpt⟩⟩, h.2⟩
 · rcases List.mem_cons.1 hy with rfl | hy
   · exact hh
   · exact h.1.holds y (List.mem_append_right _ hy)
 · rcases List.mem_cons.1 hy with rfl | hy
   · exact absurd hi (ho i)
   · exact h.1.own y (List.mem_append_right _ hy) i hi
 · rcases List.mem_cons.1 hy with rfl | hy
   · obtain ⟨o, hm, h1 | h1⟩ := hr i hi
     · exact (h.1.own o (List.mem_append_left _ hm) i h1).2
     · exact h.1.rd o (List.mem_append_left _ hm) i h1
   · exact h.1.rd y (List.mem_append_right _ hy) i hi
 · obtain ⟨o, hm, h1 | h1⟩ := hr i hr'
   · exact ((hap o hm y hy).1 i h1).1 hi
   · exact (hap o hm y hy).2 i hi h1
/-- The cells of a chunk. -/
theorem R3Ok.chunk {w : World} {r : R3} (h : R3Ok w r) {j : Nat} (hj : j < r.E.length) {e : RE} (he : r.E.getD j re0 = e) : ∃ g, r.A = some ⟨g, 0, none⟩ ∧ g < w.heap.size ∧ w.cell? ⟨g, j * 3, none⟩ = some (.int .u64 e.id.1) ∧ w.cell? ⟨g, j * 3 + 1, none⟩ = some (.int .i64 e.id.2) ∧ w.cell? ⟨g, j * 3 + 2, none⟩ = some (.slice e.d.A e.d.len e.d.cap) := by
 obtain ⟨g, e1, hlt, hc⟩ := h.a.at (by omega)
 have hf : ∀ i, i < 3 → w.cell? ⟨g, j * 3 + i, none⟩ = (encK e)[i]? := fun i hi => by
  rw [hc _ (by omega), flat_at encK_len re0 r.E j i hj hi, he]
 exact ⟨g, e1, hlt, hf 0 (by omega), hf 1 (by omega), hf 2 (by omega)⟩
theorem R3Ok.on {w w' : World} {r : R3} (h : R3Ok w r) (hb : Below w.heap.size w w') : R3Ok w' r := (r3Ob r).stable w w' h ⟨hb.os, hb.tape, hb.output, hb.size⟩ (fun i hi => hb.block i (by
 rcases hi with hi | hi
 · exact hi.elim
 · exact r3Ob_lt h hi))
/-- Where a chunk stands, or would stand. -/
def atI (E : List RE) (i : ID) : Nat := (E.takeWhile fun e => ltID e.id i).length
def hasAt (E : List RE) (i : ID) : Bool := match E[atI E i]? with | some e => decide (e.id = i) | none => false
theorem atI_le (E : List RE) (i : ID) : atI E i ≤ E.length := (List.takeWhile_sublist _).length_le
theorem atI_eq {E : List RE} {i : ID} {k : Nat} (hk : k ≤ E.length) (hb : ∀ j, j < k → ltID (E.getD j re0).id i = true) (he : k = E.length ∨ ltID (E.getD k re0).id i = false) : atI E i = k := by
 induction E generalizing k with
 | nil =>
  have : k = 0 := by simpa using hk
  rw [this]
  rfl
 | cons e E ih =>
  cases k with
  | zero =>
   rcases he with he | he
   · simp at he
   · have he : ltID e.id i = false := he
     unfold atI
     rw [List.takeWhile_cons, he]
     rfl
  | succ k =>
   have h0 : ltID e.id i = true := hb 0 (by omega)
   have := ih (k := k) (by simpa using hk) (fun j hj => by simpa using hb (j + 1) (by omega)) (by simpa using he)
   unfold atI at *
   rw [List.takeWhile_cons, h0]
   simp [this]
set_option maxRecDepth 100000 in
set_option maxHeartbeats 8000000 in
theorem At_any {w : World} {r : R3} (h : R3Ok w r) (i : ID) : Calls Tryz.prog 95 #[.agg #[.slice r.A r.E.length r.c, .slice r.B r.E.length r.k], .agg #[.int .u64 i.1, .int .i64 i.2]] w (Gives (.tuple #[.int .i64 ((atI r.E i : Nat) : Int), .bool (hasAt r.E i)]) w) := by
 have S0 := Lib.hid (((SW.startR h).newCell 54 #[.slice r.A r.E.length r.c, .slice r.B r.E.length r.k]).newCellAt 31 #[.int .u64 i.1, .int .i64 i.2] (H := w.heap.size + 1) (by simp))
 have HLN := h.n
 have hle := atI_le r.E i
 obtain ⟨K, HK⟩ : ∃ K, Hid (atI r.E i = K) := ⟨_, rfl⟩
 obtain ⟨V, HV⟩ : ∃ V, Hid (hasAt r.E i = V) := ⟨_, rfl⟩
 rw [HK.out] at hle ⊢
 rw [HV.out]
 clear h
 go_enter Tryz.func95, Tryz.ntmps95
 go_upto_block 0 with fail
 go_cut [6] from 24 (fun s6 w' => s6 = .int .i64 (K : Int) ∧ SW w.heap.size w [cellOb (w.heap.size + 1) 31 #[.int .u64 i.1, .int .i64 i.2], cellOb w.heap.size 54 #[.slice r.A r.E.length r.c, .slice r.B r.E.length r.k], r3Ob r] w')
 case first =>
  go_wp2_with fail
  go_loopw [6] (fun s6 wr => ∃ k : Nat, k ≤ r.E.length ∧ s6 = .int .i64 (k : Int) ∧ (∀ j, j < k → ltID (r.E.getD j re0).id i = true) ∧ SW w.heap.size w [cellOb (w.heap.size + 1) 31 #[.int .u64 i.1, .int .i64 i.2], cellOb w.heap.size 54 #[.slice r.A r.E.length r.c, .slice r.B r.E.length r.k], r3Ob r] wr) (fun s6 _ => r.E.length - (intOf s6).toNat)
  case atStart => exact ⟨0, Nat.zero_le _, rfl, (fun j hj => by omega), S0.out⟩
  case round =>
   obtain ⟨k, hk, rfl, hbf, hs⟩ := hrel
   have HBF := Lib.hid hbf
   have S1 := Lib.hid hs
   clear hbf hs S0
   have c0 := (S1.out.cell 1 rfl).cell 0
   have c1 := (S1.out.cell 1 rfl).cell 1
   have d0 := (S1.out.cell 0 rfl).cell 0
   have d1 := (S1.out.cell 0 rfl).cell 1
   have l0 := (S1.out.cell 1 rfl).lt
   have l1 := (S1.out.cell 0 rfl).lt
   by_cases hlt : k < r.E.length
   · obtain ⟨e, he⟩ : ∃ e, r.E.getD k re0 = e := ⟨_, rfl⟩
     obtain ⟨g, hA, hgl, a0, a1, _⟩ := (S1.out.get 2 (o := r3Ob r) rfl : R3Ok wr r).chunk hlt he
     have HE := Lib.hid he
     have hltb : decide ((k : Int) < (r.E.length : Int)) = true := decide_eq_true (by omega)
     have HL : Hid (∀ q : Ext wr, Calls Tryz.prog 149 #[.agg #[.int .u64 e.id.1, .int .i64 e.id.2], .agg #[.int .u64 i.1, .int .i64 i.2]] (wext wr q) (Gives (.bool (ltID e.id i)) (wext wr q))) := fun q => Less_any e.id.1 e.id.2 i.1 i.2 (wext wr q)
     rw [hA] at c0
     clear he
     obtain ⟨v, hv⟩ : ∃ v, ltID e.id i = v := ⟨_, rfl⟩
     rw [hv] at HL
     have HVV := Lib.hid hv
     clear hv
     go_upto_region 2 with fail
     refine wp_region_ext (by kernel_rfl) (by kernel_rfl) ?_
     repeat (go_big_quiet_step ((go_at_call 149; exact ext_call (HL.out _))))
     refine wpQuiet_nil ?_
     intro w2 hb2
     have S2 := Lib.hid (S1.out.on hb2)
     clear hb2 c0 c1 d0 d1 a0 a1 HL S1
     cases v with
     | true =>
      go_wp2_with fail
      go_roundw
      case rel =>
       refine ⟨k + 1, by omega, by go_num, fun j hj => ?_, S2.out⟩
       by_cases e2 : j = k
       · subst e2
         rw [HE.out]
         exact HVV.out
       · exact HBF.out j (by omega)
      case measure => simp [intOf]; omega
     | false =>
      go_wp2_with fail
      go_meet
      refine ⟨?_, S2.out⟩
      rw [← HK.out, atI_eq hk HBF.out (.inr (by rw [HE.out]; exact HVV.out))]
   · have hltb : decide ((k : Int) < (r.E.length : Int)) = false := decide_eq_false (by omega)
     go_upto_region 2 with fail
     refine wp_region_ext (by kernel_rfl) (by kernel_rfl) ?_
     repeat (go_big_quiet_step (fail))
     refine wpQuiet_nil ?_
     intro w2 hb2
     have S2 := Lib.hid (S1.out.on hb2)
     clear hb2 c0 c1 d0 d1 S1
     go_wp2_with fail
     go_meet
     refine ⟨?_, S2.out⟩
     rw [← HK.out, atI_eq hk HBF.out (.inl (by omega))]
 case rest =>
  obtain ⟨rfl, s⟩ := hcut
  have S1 := Lib.hid s
  clear s S0
  have c0 := (S1.out.cell 1 rfl).cell 0
  have d0 := (S1.out.cell 0 rfl).cell 0
  have d1 := (S1.out.cell 0 rfl).cell 1
  have l0 := (S1.out.cell 1 rfl).lt
  have l1 := (S1.out.cell 0 rfl).lt
  by_cases hlt : K < r.E.length
  · obtain ⟨e, he⟩ : ∃ e, r.E.getD K re0 = e := ⟨_, rfl⟩
    obtain ⟨g, hA, hgl, a0, a1, _⟩ := (S1.out.get 2 (o := r3Ob r) rfl : R3Ok wc r).chunk hlt he
    have hltb : decide ((K : Int) < (r.E.length : Int)) = true := decide_eq_true (by omega)
    rw [hA] at c0
    have heq := fun W => eql31 e.id i W
    have hv : decide (e.id = i) = V := by
     rw [← HV.out]
     unfold hasAt
     rw [HK.out, List.getElem?_eq_getElem hlt]
     rw [List.getD_eq_getElem?_getD, List.getElem?_eq_getElem hlt] at he
     rw [← he]
     rfl
    rw [hv] at heq
    clear he hv HK HV
    go_upto_region 4 with fail
    go_quiet (fail)
    go_wp2_with fail
    go_ret2
    exact ⟨rfl, bdrewN S1.out.2 _⟩
  · have hltb : decide ((K : Int) < (r.E.length : Int)) = false := decide_eq_false (by omega)
    have hv : V = false := by
     rw [← HV.out]
     unfold hasAt
     rw [HK.out, List.getElem?_eq_none (by omega)]
    subst hv
    go_upto_region 4 with fail
    go_quiet (fail)
    go_wp2_with fail
    go_ret2
    exact ⟨rfl, bdrewN S1.out.2 _⟩
/-- The IDs of a store. -/
abbrev R3.ids (r : R3) : List ID := r.E.map (·.id)
set_option maxRecDepth 100000 in
set_option maxHeartbeats 8000000 in
theorem rIDs_any {b : Nat} {w0 w : World} {l : List Ob} {r : R3} (h : SW b w0 l w) (hm : r3Ob r ∈ l) : Calls Tryz.prog 70 #[.agg #[.slice r.A r.E.length r.c, .slice r.B r.E.length r.k]] w (fun e w' => ∃ A cap, e = .returned (.slice A r.ids.length cap) ∧ SW b w0 (riOb A r.ids :: l) w') := by
 have S0 := Lib.hid (h.newCell 54 #[.slice r.A r.E.length r.c, .slice r.B r.E.length r.k])
 have HM : Hid (r3Ob r ∈ cellOb w.heap.size 54 #[.slice r.A r.E.length r.c, .slice r.B r.E.length r.k] :: l) := List.mem_cons_of_mem _ hm
 have hn := (h.1.holds _ hm : R3Ok w r).n
 clear h hm
 go_enter Tryz.func70, Tryz.ntmps70
 go_wp2_with fail
 go_loopw [3, 4] (fun s3 s4 wr => ∃ (k : Nat) (A : Option Addr) (cap : Nat), k ≤ r.E.length ∧ s4 = .int .i64 (k : Int) ∧ s3 = .slice A (r.ids.take k).length cap ∧ SW b w0 (rowOb 31 2 (.slice A (r.ids.take k).length cap) (r.ids.take k).length ((r.ids.take k).flatMap encID) :: cellOb w.heap.size 54 #[.slice r.A r.E.length r.c, .slice r.B r.E.length r.k] :: l) wr) (fun _ s4 _ => r.E.length - (intOf s4).toNat)
 case atStart => exact ⟨0, none, 0, Nat.zero_le _, rfl, rfl, S0.out.newRow 31 2⟩
 case round =>
  obtain ⟨k, A, cap, hk, rfl, rfl, hs⟩ := hrel
  have S1 := Lib.hid hs
  clear hs S0
  have c0 := (S1.out.cell 1 rfl).cell 0
  by_cases hlt : k < r.E.length
  · obtain ⟨e, he⟩ : ∃ e, r.E.getD k re0 = e := ⟨_, rfl⟩
    obtain ⟨g, hA, hgl, a0, a1, _⟩ := (S1.out.1.holds (r3Ob r) (List.mem_cons_of_mem _ HM.out) : R3Ok wr r).chunk hlt he
    rw [hA] at c0
    have hik : k < r.ids.length := by simpa using hlt
    have hts : r.ids.take (k + 1) = r.ids.take k ++ [e.id] := by
     rw [List.take_succ_eq_append_getElem hik]
     congr 2
     rw [List.getElem_map, ← he, List.getD_eq_getElem?_getD, List.getElem?_eq_getElem hlt]
     rfl
    have HTS := Lib.hid hts
    have hfl : (r.ids.take k).length ≤ k := by rw [List.length_take]; omega
    generalize r.ids.take k = F at S1 HTS hfl ⊢
    obtain ⟨i1, gi, gz0, gz1, gz2⟩ := info_parts info31
    clear he hts hik hA
    go_wp2_with (at_builtin; (refine wpList_rowS (t := 38) (e := 31) (size := 2) (bytes := 16) (i := i1) (S1.out.alloc _) 0 rfl (by rfl) (.tmp 12) (.tmp 19) (by rfl) Tryz.underlying38 gi gz0 gz1 gz2 rfl (by omega) (by rfl) ⟨wr.heap.size, 0, none⟩ 1 [.int .u64 e.id.1, .int .i64 e.id.2] (by rfl) rfl (two_new wr _ _ 31 _ rfl) (encID_one e.id) (by unfold maxLen; omega) (by omega) ?_); refine halt_ ?_)
    intro v4 w4 s4
    obtain ⟨g4, c4, rfl⟩ := own_some (s4.get 0 rfl) (by omega)
    have S4 : Hid (SW b w0 (rowOb 31 2 (.slice (some ⟨g4, 0, none⟩) (F ++ [e.id]).length c4) (F ++ [e.id]).length ((F ++ [e.id]).flatMap encID) :: cellOb w.heap.size 54 #[.slice r.A r.E.length r.c, .slice r.B r.E.length r.k] :: l) w4) := by
     rw [Hid, List.flatMap_append, List.length_append]
     exact s4
    clear s4 S1 c0 a0 a1
    go_wp2_with fail
    go_roundw
    case rel =>
     refine ⟨k + 1, some ⟨g4, 0, none⟩, c4, by omega, by go_num, ?_, ?_⟩
     · rw [HTS.out, List.length_append]
       rfl
     · rw [HTS.out]
       exact S4.out
    case measure => simp [intOf]; omega
  · obtain rfl : k = r.E.length := by omega
    have hF : r.ids.take r.E.length = r.ids := by rw [List.take_of_length_le (by simp)]
    rw [hF] at S1 ⊢
    go_wp2_with fail
    go_ret
    exact ⟨A, cap, rfl, (S1.out.rowRi).sub (List.Sublist.cons_cons _ (List.sublist_cons_self _ _))⟩
end Go.Proofs.YteabgcollokgjaaGreatDoor
namespace Go.Proofs.YteabgcollokgjaaGreatDoor
open Go.RowKit Go.MapKept Go.ChangeMaps

/-- What writeFile's function works on. -/
structure FrS where
 bc : Nat
 bb : Nat
 b4 : Nat
 bm : Nat
 pc : Nat
 cs : Array Value
 base : Nat
 mv : Nat
 M : Chs
 d : BD
 bs : List UInt8
abbrev FrS.obs (f : FrS) (l : List Ob) : List Ob := cellOb f.bc 214 #[vPtr f.pc] :: cellOb f.bb 3 #[.int .i64 (f.base : Int)] :: cellOb f.b4 34 #[.slice f.d.A f.d.len f.d.cap] :: cellOb f.bm 128 #[.map (some f.mv)] :: cellOb f.pc 216 f.cs :: chOb f.mv f.M :: bufOb f.d f.bs :: l
section
variable {w : World} {ops : Array Oper} {o : Oper} {a : Act} {Q : Exit → Act → World → Prop} {rest : List Oper}
theorem wpList_app2 (hgd : o.guard = none) (s x : Operand) (ho : o.op = .call { callee := .builtin .append, args := #[s, x], argTypes := #[34, 34] }) (d : BD) (bs : List UInt8) (hs : a.eval s = .slice d.A d.len d.cap) (h : RB w d bs)
 (A : Option Addr) (c : Nat) (ns : List UInt8) (hx : a.eval x = .slice A ns.length c) (hsrc : SB w A ns) (hb : bs.length + ns.length ≤ 1099511627776)
 (hK : ∀ A' n' c' w', AppB w d (bs ++ ns) ⟨A', n', c'⟩ w' → wpList Tryz.prog ops Q rest (a.put o.dst (.slice A' n' c')) w') : wpList Tryz.prog ops Q (o :: rest) a w :=
 wpList_append_bytes hgd s x ho d bs hs h A c ns hx hsrc hb (fun d' w' _ ha => hK d'.A d'.len d'.cap w' ha)
end
/-- The world between the frame's steps. -/
def FrW (b : Nat) (f : FrS) (i : ID) (H : Nat) (A : Option Addr) (chunk : List UInt8) (l : List Ob) (w w' : World) : Prop := Sep b w' (cellOb H 31 #[.int .u64 i.1, .int .i64 i.2] :: f.obs (rsOb A chunk :: l)) ∧ Below b w w'
section
variable {b H : Nat} {f : FrS} {i : ID} {A : Option Addr} {chunk : List UInt8} {l : List Ob} {w w' : World}
theorem FrW.cells (h : FrW b f i H A chunk l w w') (hcs : f.cs[0]? = some (.int .i64 1)) : w'.cell? ⟨f.b4, 0, none⟩ = some (.slice f.d.A f.d.len f.d.cap) ∧ w'.cell? ⟨H, 0, none⟩ = some (.int .u64 i.1) ∧ w'.cell? ⟨H, 1, none⟩ = some (.int .i64 i.2) ∧
 w'.cell? ⟨f.bc, 0, none⟩ = some (vPtr f.pc) ∧ w'.cell? ⟨f.bb, 0, none⟩ = some (.int .i64 (f.base : Int)) ∧ w'.cell? ⟨f.pc, 0, none⟩ = some (.int .i64 1) := by
 have k6 : IsB w' H 31 #[.int .u64 i.1, .int .i64 i.2] := h.1.cell (k := 0) rfl
 have kc : IsB w' f.bc 214 #[vPtr f.pc] := h.1.cell (k := 1) rfl
 have kb : IsB w' f.bb 3 #[.int .i64 (f.base : Int)] := h.1.cell (k := 2) rfl
 have k4 : IsB w' f.b4 34 #[.slice f.d.A f.d.len f.d.cap] := h.1.cell (k := 3) rfl
 have kp : IsB w' f.pc 216 f.cs := h.1.cell (k := 5) rfl
 exact ⟨k4.cell 0, k6.cell 0, k6.cell 1, kc.cell 0, kb.cell 0, (kp.cell 0).trans hcs⟩
theorem FrW.on {w2 : World} (h : FrW b f i H A chunk l w w') (hb : Below w'.heap.size w' w2) : FrW b f i H A chunk l w w2 := ⟨h.1.on hb, h.2.trans (hb.mono h.1.base)⟩
theorem FrW.rb (h : FrW b f i H A chunk l w w') : RB w' f.d f.bs := h.1.get (k := 7) (o := bufOb f.d f.bs) rfl
theorem FrW.rs (h : FrW b f i H A chunk l w w') : RS w' A chunk := h.1.get (k := 8) (o := rsOb A chunk) rfl
/-- The head of a frame is made. -/
theorem frame_head (h : FrW b f i H A chunk l w w') (n : Nat) (hn : f.base + n ≤ 1073741824) (hi0 : 0 ≤ i.1) (hi1 : i.1 < 18446744073709551616) (hd : List UInt8) (hh : headB i 1 (f.base + n) = hd) :
 Calls Tryz.prog 232 #[.agg #[.int .u64 i.1, .int .i64 i.2], .int .i64 1, .int .i64 ((f.base : Int) + (n : Int))] w' (fun e w2 => ∃ A3 c3, e = .returned (.slice A3 hd.length c3) ∧ Hid (SB w2 A3 hd) ∧ Hid (FrW b f i H A chunk l w w2)) := by
 have h5 := head_any i.1.toNat i.2 1 (f.base + n) w' (by omega) (by omega) (by omega)
 rw [Int.toNat_of_nonneg hi0, show ((i.1, i.2) : ID) = i from rfl, hh] at h5
 have e5 : (((f.base + n : Nat) : Int)) = (f.base : Int) + (n : Int) := by omega
 rw [e5] at h5
 refine h5.mono ?_
 rintro e w2 ⟨⟨A3, n3, c3⟩, rfl, r1, r2, r3⟩
 have hn3 : hd.length = n3 := r1.1
 subst hn3
 exact ⟨A3, c3, rfl, r1.src, h.on r3⟩
/-- Bytes are appended to the frame's buffer, and the buffer is stored. -/
theorem frame_app (h : FrW b f i H A chunk l w w') (ns : List UInt8) {A4 : Option Addr} {n4 c4 : Nat} {w4 : World} (ha : AppB w' f.d (f.bs ++ ns) ⟨A4, n4, c4⟩ w4) :
 Hid (FrW b { f with d := ⟨A4, n4, c4⟩, bs := f.bs ++ ns } i H A chunk l w (w4.setCell ⟨f.b4, 0, none⟩ (.slice A4 n4 c4))) ∧ w4.cell? ⟨f.b4, 0, none⟩ = some (.slice f.d.A f.d.len f.d.cap) ∧ w4.frozen? ⟨f.b4, 0, none⟩ = false := by
 obtain ⟨s4, b4⟩ := h.1.app 7 (d := f.d) (bs := f.bs) rfl ha
 have hc4 : IsB w4 f.b4 34 #[.slice f.d.A f.d.len f.d.cap] := s4.cell (k := 3) rfl
 obtain ⟨s5, b5⟩ := s4.setAt 3 (g := f.b4) (t := 34) (cs := #[.slice f.d.A f.d.len f.d.cap]) rfl 0 (.slice A4 n4 c4)
 exact ⟨⟨s5, (h.2.trans b4).trans b5⟩, hc4.cell 0, hc4.frozen 0⟩
end
section
variable {b : Nat} {w : World} {f : FrS} {l : List Ob}
def frOut (f : FrS) (i : ID) (chunk : List UInt8) (d' : BD) : FrS := { f with M := setL f.M i (.at (f.base + f.bs.length)), d := d', bs := f.bs ++ headB i 1 (f.base + f.bs.length) ++ chunk }
def FramePost (b : Nat) (f : FrS) (i : ID) (A : Option Addr) (chunk : List UInt8) (l : List Ob) (w : World) (e : Ending) (w' : World) : Prop := e = .returned (.tuple #[]) ∧ ∃ d', Sep b w' ((frOut f i chunk d').obs (rsOb A chunk :: l)) ∧ Below b w w'
set_option maxRecDepth 100000 in
set_option maxHeartbeats 4000000 in
theorem frame_any (A : Option Addr) (c : Nat) (chunk : List UInt8) (i : ID) (h : Sep b w (f.obs (rsOb A chunk :: l))) (hcs : f.cs[0]? = some (.int .i64 1)) (hi : okID i) (hlen : f.base + f.bs.length ≤ 1073741824) (hch : chunk.length ≤ 8192) (hi0 : 0 ≤ i.1) (hi1 : i.1 < 18446744073709551616) :
 Calls Tryz.prog 236 #[.agg #[.int .u64 i.1, .int .i64 i.2], .slice A chunk.length c, vPtr f.bc, vPtr f.bb, vPtr f.b4, vPtr f.bm] w (FramePost b f i A chunk l w) := by
 have S0 := Lib.hid (h.newCell 31 #[.int .u64 i.1, .int .i64 i.2]).1
 have B0 := Lib.hid (h.newCell 31 #[.int .u64 i.1, .int .i64 i.2]).2
 have hbs : f.bs.length = f.d.len := (h.get (k := 6) (o := bufOb f.d f.bs) rfl).1
 have Hbs := Lib.hid hbs
 have hdl : f.base + f.d.len ≤ 1073741824 := by omega
 have Hlen := Lib.hid hlen
 have Hcs := Lib.hid hcs
 clear hbs h hlen hcs
 go_enter Tryz.func236, Tryz.ntmps236
 go_upto_region 1 with fail
 generalize w.alloc (.cells #[.int .u64 i.1, .int .i64 i.2] 31) = W at S0 B0 ⊢
 have k6 : Hid (IsB W w.heap.size 31 #[.int .u64 i.1, .int .i64 i.2]) := S0.out.cell (k := 0) rfl
 have kc : Hid (IsB W f.bc 214 #[vPtr f.pc]) := S0.out.cell (k := 1) rfl
 have kb : Hid (IsB W f.bb 3 #[.int .i64 (f.base : Int)]) := S0.out.cell (k := 2) rfl
 have k4 : Hid (IsB W f.b4 34 #[.slice f.d.A f.d.len f.d.cap]) := S0.out.cell (k := 3) rfl
 have km : Hid (IsB W f.bm 128 #[.map (some f.mv)]) := S0.out.cell (k := 4) rfl
 have kp : Hid (IsB W f.pc 216 f.cs) := S0.out.cell (k := 5) rfl
 have MV : Hid (MapIs okID vID vPl W f.mv f.M) := (S0.out.get (k := 6) (o := chOb f.mv f.M) rfl).1
 obtain ⟨w1, hu, hm1, hg1, hz1⟩ := MapIs.update mkI Tryz.underlying128 (w := W.drew) MV.out hi (Pl.at (f.base + f.d.len))
 have hu' : (Instr.mapUpdate 128 (.map (some f.mv)) (.agg #[.int .u64 i.1, .int .i64 i.2]) (.agg #[.slice none 0 0, .int .i64 1, .int .i64 ((f.base : Int) + (f.d.len : Int))])).run Tryz.prog W.drew = .ok () w1 := hu
 obtain ⟨s1, b1⟩ := (S0.out.on ((Below.refl _ W).drew)).note 6 (cm := f.mv) (C := f.M) rfl hm1 hg1
 have F1 : Hid (FrW b ({ f with M := setL f.M i (.at (f.base + f.d.len)) } : FrS) i w.heap.size A chunk l w w1) := ⟨s1, B0.out.trans (((Below.refl b W).drew).trans b1)⟩
 clear hu hm1 hg1 hz1 s1 b1
 have c60 : W.cell? ⟨w.heap.size, 0, none⟩ = some (.int .u64 i.1) := k6.out.cell 0
 have c61 : W.cell? ⟨w.heap.size, 1, none⟩ = some (.int .i64 i.2) := k6.out.cell 1
 have cc : W.cell? ⟨f.bc, 0, none⟩ = some (vPtr f.pc) := kc.out.cell 0
 have cb : W.cell? ⟨f.bb, 0, none⟩ = some (.int .i64 (f.base : Int)) := kb.out.cell 0
 have c4 : W.cell? ⟨f.b4, 0, none⟩ = some (.slice f.d.A f.d.len f.d.cap) := k4.out.cell 0
 have cm : W.cell? ⟨f.bm, 0, none⟩ = some (.map (some f.mv)) := km.out.cell 0
 have cp : W.cell? ⟨f.pc, 0, none⟩ = some (.int .i64 1) := (kp.out.cell 0).trans Hcs.out
 have hsum : IntKind.i64.wrap ((f.base : Int) + (f.d.len : Int)) = (f.base : Int) + (f.d.len : Int) := IntWalk.i64_in _ (by omega)
 go_region
 go_upto_region 2 with fail
 clear c60 c61 cc cb c4 cm cp k6 kc kb k4 km kp MV hu' S0
 obtain ⟨hd, Hhd⟩ : ∃ hd, Hid (headB i 1 (f.base + f.d.len) = hd) := ⟨_, rfl⟩
 have hhl : hd.length ≤ 1000 := by
  rw [← Hhd.out, headB_len]
  omega
 have F2 := Lib.hid (F1.out.on ((Below.refl _ w1).drew))
 have HC := Lib.hid (fun (w' : World) (h : FrW b ({ f with M := setL f.M i (.at (f.base + f.d.len)) } : FrS) i w.heap.size A chunk l w w') => h.cells Hcs.out)
 refine wp_region_held_tail [(0, true), (1, true), (2, true), (3, true), (4, true), (5, true), (6, true), (7, true), (8, true), (9, true), (10, false)] (FrW b ({ f with M := setL f.M i (.at (f.base + f.d.len)) } : FrS) i w.heap.size A chunk l w) (by kernel_rfl) (fun _ _ d _ _ h => by cases d <;> exact h) (by kernel_rfl) F2.out ?_
 simp only [picked, List.map_cons, List.map_nil, List.getD_cons_succ, List.getD_cons_zero]
 iterate 10
  (refine wpHeld_take (v := ?_) (Or.inl ⟨by rfl, ?_⟩) ?_
   rotate_left
   · (intro w' hSw; obtain ⟨h1, h2, h3, h4, h5, h6⟩ := HC.out w' hSw; go_simp; try with_reducible rfl)
   simp only [Act.put, List.setIfInBounds_toArray, List.set_cons_zero, List.set_cons_succ])
 refine wpHeld_run (fun K hK => ?_)
 go_simp
 go_at_call 232
 refine (frame_head F2.out f.d.len (by omega) hi0 hi1 hd Hhd.out).mono ?_
 rintro e w3 ⟨A3, c3, rfl, R3, F3⟩
 go_wp2_with fail
 refine hK.out _ _ F3.out ?_
 clear hK K F2 F1 HC
 try simp only [Act.put, List.setIfInBounds_toArray, List.set]
 refine wpHeld_nil ?_
 simp only [List.length_cons, List.length_nil, List.drop_succ_cons, List.drop_zero]
 refine wpList_app2 (by rfl) (.tmp 19) (.tmp 29) (by rfl) f.d f.bs (by rfl) F3.out.rb A3 c3 hd (by rfl) R3.out (by have := Hlen.out; omega) ?_
 intro A4 n4 cp4 w4 ha
 obtain ⟨F4, c4, f4⟩ := frame_app F3.out hd ha
 clear ha
 go_upto_region 3 with fail
 obtain ⟨bs2, Hb2⟩ : ∃ bs2, Hid (f.bs ++ hd = bs2) := ⟨_, rfl⟩
 rw [Hb2.out] at F4
 have hbl : bs2.length ≤ 1073800000 := by
  rw [← Hb2.out, List.length_append]
  have := Hlen.out
  omega
 generalize w4.setCell ⟨f.b4, 0, none⟩ (.slice A4 n4 cp4) = V at F4 ⊢
 clear c4 f4 F3
 have kb4 : Hid (IsB V f.b4 34 #[.slice A4 n4 cp4]) := F4.out.1.cell (k := 3) rfl
 have c4 : V.cell? ⟨f.b4, 0, none⟩ = some (.slice A4 n4 cp4) := kb4.out.cell 0
 go_wp2_with (refine wpList_app2 (by rfl) (.tmp 31) (.tmp 32) (by rfl) ⟨A4, n4, cp4⟩ bs2 (by rfl) F4.out.rb A c chunk (by rfl) F4.out.rs.sb (by omega) ?_; intro A5 n5 cp5 w5 ha; obtain ⟨F5, c5, f5⟩ := frame_app F4.out chunk ha; clear ha)
 refine bodyPost_ret (v := .tuple #[]) ?_ rfl ⟨rfl, ⟨A5, n5, cp5⟩, ?_, F5.out.2⟩
 · simp [results, Tryz.results236, go_sem]
 have h5 := F5.out.1.tail
 rw [← Hb2.out, ← Hhd.out] at h5
 unfold frOut
 rw [Hbs.out]
 exact h5
end
end Go.Proofs.YteabgcollokgjaaGreatDoor
