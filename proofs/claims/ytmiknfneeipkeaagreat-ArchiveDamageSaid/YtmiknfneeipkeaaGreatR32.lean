/- Contracts of the walk, part 32. -/
import Derived.Test.YtmiknfneeipkeaaGreatR25
import Derived.Test.YtmiknfneeipkeaaGreatR29
import Derived.Test.YtmiknfneeipkeaaGreatR27
import Derived.Test.YtmiknfneeipkeaaGreatR20
import Derived.Test.YtmiknfneeipkeaaGreatR31
import Derived.Test.YtmiknfneeipkeaaGreatR30
namespace Go.Proofs.YtmiknfneeipkeaaGreat
open Go.RowKit Go.MapKept Go.ChangeMaps Go.Shelf Go.Sort
def FewS (ms : List Man) : Prop := ms.length ≤ 4 ∧ ∀ m ∈ ms, m.ids.length ≤ 3 ∧ ∀ i ∈ m.ids, okID i ∧ i.2 ≤ 9
section
variable {b : Nat} {w0 w w' : World} {l : List Ob}
end
theorem im_row {w : World} {A : Option Addr} {c : Nat} {rs : List MR} {ms : List Man} (hr : w.ownsRow 0 33 2 (.slice A ms.length c) ms.length (rs.flatMap encMR)) (hm : (msOb rs ms).holds w) : (imOb A rs ms).holds w :=
  ⟨row_rdM hr hm.1, hm.1, hm.2⟩
theorem cx_row {w : World} {A : Option Addr} {q c : Nat} {S : List CH} (hr : w.ownsRow 0 42 3 (.slice A q c) q (S.flatMap encCH)) (hq : S.length = q) (hb : ∀ e ∈ S, BSok w e.2) : (cxOb A S).holds w := ⟨row_rdCH hr hq, hb⟩
theorem few_mans {Ps : List (List BS)} (h : GoodPs Ps) : ∀ m ∈ mansT Ps, manE m = 0 ∧ m.ids.length ≤ 3 ∧ (0 ≤ m.size ∧ m.size ≤ 9) ∧ ∀ i ∈ m.ids, okID i ∧ i.2 ≤ 9 := by
  intro m hm
  refine ⟨good_man h m hm, good_ids h m hm, ?_, fun i hi => ⟨good_ok h m hm i hi, ?_⟩⟩
  · obtain ⟨T, hT, rfl⟩ := List.mem_map.1 hm
    have h1 := lenS_le (T := T) (B := 3) (fun e he => ((h.2 T hT).2 e he).2)
    have h2 := (h.2 T hT).1
    simp only [manT]
    omega
  · obtain ⟨T, hT, rfl⟩ := List.mem_map.1 hm
    obtain ⟨e, he, rfl⟩ := List.mem_map.1 hi
    have h1 := ((h.2 T hT).2 e he).2
    show ((e.bs.length : Nat) : Int) ≤ 9
    omega
theorem chs_few {Ps : List (List BS)} (h : GoodPs Ps) : (chsT Ps).length ≤ 9 ∧ ∀ e ∈ chsT Ps, okID e.1 ∧ e.2.bs.length ≤ 5 ∧ e.2 ∈ allT Ps := by
  constructor
  · have : ∀ l : List (List BS), (∀ T ∈ l, T.length ≤ 3) → (l.flatMap chOfT).length ≤ 3 * l.length := by
      intro l
      induction l with
      | nil => intro _; simp
      | cons a l ih =>
        intro hl
        have h1 := ih (fun T hT => hl T (.tail _ hT))
        have h2 := hl a (.head _)
        rw [List.flatMap_cons, List.length_append, List.length_cons, chOfT_len]
        omega
    have h1 := this Ps (fun T hT => (h.2 T hT).1)
    have h2 := h.1
    show (Ps.flatMap chOfT).length ≤ 9
    omega
  · intro e he
    obtain ⟨T, hT, he⟩ := List.mem_flatMap.1 he
    obtain ⟨x, hx, rfl⟩ := List.mem_map.1 he
    have h1 := ((h.2 T hT).2 x hx).2
    exact ⟨okID_fp _ (by omega), (show x.bs.length ≤ 5 by omega), List.mem_flatMap.2 ⟨T, hT, hx⟩⟩
theorem pack_few {ids : List ID} {T : List CH} (hn : ids.length ≤ 100) (ha : AllR ids T) (hs : ∀ i ∈ ids, i.2 ≤ 9) : (packP (selR ids T)).length ≤ 1048576 := by
  have hl : ∀ e ∈ selR ids T, (frameP e).length ≤ 50 := fun e he => by
    obtain ⟨i, hi, rfl⟩ := List.mem_map.1 he
    obtain ⟨x, hx⟩ := Option.isSome_iff_exists.1 (ha i hi)
    obtain ⟨_, h2, _⟩ := firstR_id hx
    rw [hx, Option.getD_some]
    have h3 : ((x.2.bs.length : Nat) : Int) = i.2 := congrArg Prod.snd h2
    have h4 := hs i hi
    have h5 := putU_ten (v := x.2.bs.length) (by omega)
    have h6 := putU_ten (v := fpSum x.2.bs) (by have := fpSum_lt x.2.bs; unfold pP at this; omega)
    rw [frameP]
    simp only [List.length_append, List.length_singleton]
    omega
  have hsum : ∀ l : List CH, (∀ e ∈ l, (frameP e).length ≤ 50) → (l.flatMap frameP).length ≤ 50 * l.length := by
    intro l
    induction l with
    | nil => intro _; simp
    | cons a l ih =>
      intro h
      have h1 := ih (fun e he => h e (.tail _ he))
      have h2 := h a (.head _)
      rw [List.flatMap_cons, List.length_append, List.length_cons]
      omega
  have h1 := hsum _ hl
  have h2 := selR_len ids T
  have h5 := putU_ten (v := (selR ids T).length) (by omega)
  have h6 := putU_ten (v := fpSum (packB (selR ids T))) (by have := fpSum_lt (packB (selR ids T)); unfold pP at this; omega)
  rw [packP, List.length_append]
  have h7 : (packB (selR ids T)).length = 4 + ((selR ids T).flatMap frameP).length + 1 + (putU (selR ids T).length).length := by
    simp [packB, packF]
    omega
  omega
theorem few_pack {ms : List Man} (h : FewS ms) (T : List CH) : AllR (setR (idsOf ms)) T → (packP (selR (setR (idsOf ms)) T)).length ≤ 1048576 := fun ha => by
  have h1 := idsOf_few (B := 3) (fun m hm => (h.2 m hm).1)
  have h2 := setR_len (idsOf ms)
  have h3 := h.1
  refine pack_few (by omega) ha (fun i hi => ?_)
  rw [setR_mem] at hi
  obtain ⟨m, hm, hi⟩ := List.mem_flatMap.1 hi
  exact ((h.2 m hm).2 i hi).2
end Go.Proofs.YtmiknfneeipkeaaGreat
namespace Go.Proofs.YtmiknfneeipkeaaGreat
open Go.RowKit Go.MapKept Go.ChangeMaps Go.Shelf Go.Sort
theorem selR_fst {ids : List ID} {T : List CH} (ha : AllR ids T) : (selR ids T).map (·.1) = ids := by
  rw [selR, List.map_map]
  conv => rhs; rw [← List.map_id ids]
  refine List.map_congr_left fun i hi => ?_
  obtain ⟨x, hx⟩ := Option.isSome_iff_exists.1 (ha i hi)
  simp only [Function.comp, hx, Option.getD_some, id]
  exact (firstR_id hx).1
theorem selR_mem2 {ids : List ID} {T : List CH} (ha : AllR ids T) : ∀ e ∈ selR ids T, e.1 ∈ ids ∧ fpOf e.2.bs = e.1 ∧ firstR T e.1 = some e := fun e he => by
  obtain ⟨i, hi, rfl⟩ := List.mem_map.1 he
  obtain ⟨x, hx⟩ := Option.isSome_iff_exists.1 (ha i hi)
  rw [hx, Option.getD_some]
  obtain ⟨h1, h2, _⟩ := firstR_id hx
  refine ⟨by rw [h1]; exact hi, by rw [h2, h1], by rw [h1]; exact hx⟩
theorem volB_len {ys : List Man} {S : List CH} (hy : ∀ m ∈ ys, ManOk m) (hn : ys.length ≤ 20) (hl : (packP S).length ≤ 1048576) : (volB ys S).length ≤ 3000000 := by
  have key : ∀ l : List Man, (∀ m ∈ l, ManOk m) → (l.flatMap partB).length ≤ 20510 * l.length := by
    intro l
    induction l with
    | nil => intro _; simp
    | cons m l ih =>
      intro h
      have h1 := ih (fun x hx => h x (.tail _ hx))
      have h2 := manB_len (h m (.head _)).1 (h m (.head _)).2
      have h3 := putU_ten (v := (manB m).length) (by omega)
      rw [List.flatMap_cons, List.length_append, List.length_cons, partB, List.length_append]
      omega
  have h1 := key ys hy
  have h2 := putU_ten (v := ys.length) (by omega)
  rw [volB, volH]
  simp only [List.length_append, List.length_cons, List.length_nil]
  omega
end Go.Proofs.YtmiknfneeipkeaaGreat
namespace Go.Proofs.YtmiknfneeipkeaaGreat
open Go.RowKit Go.MapKept Go.ChangeMaps Go.Shelf Go.Sort
attribute [local go_sem] wext_cell
section
variable {b : Nat} {w0 w w' : World} {l : List Ob}
theorem SW.bufRs {d : BD} {bs : List UInt8} (h : SW b w0 (bufOb d bs :: l) w) : SW b w0 (rsOb d.A bs :: l) w := by
  have hr : RB w d bs := h.get 0 (o := bufOb d bs) rfl
  refine h.asRead (o' := rsOb d.A bs) hr.rs (fun _ h => h) (fun i hi => ?_)
  obtain ⟨_, o, ho⟩ := hi
  show blk d = some i
  simp [blk, ho]
theorem vw_of {d : BD} {bs : List UInt8} (h : RB w d bs) (hl : bs.length ≤ 9223372036854775807) : (d.A = none → d.cap = 0) ∧ bs.length ≤ d.cap ∧ bs.length ≤ 9223372036854775807 := ⟨h.2.2.1, by rw [h.1]; exact h.2.1, hl⟩
end
end Go.Proofs.YtmiknfneeipkeaaGreat
namespace Go.Proofs.YtmiknfneeipkeaaGreat
open Go.RowKit Go.MapKept Go.ChangeMaps Go.Shelf Go.Sort
attribute [local go_sem] wext_cell
theorem one_cell (W : World) (x : Value) (t : TypeId) (H : Nat) (hH : W.heap.size = H) : ∀ j u, [x][j]? = some u → (W.alloc (.cells #[x] t)).cell? ((⟨H, 0, none⟩ : Addr).add j) = some u := by
  intro j u hu
  rw [lit_add, Nat.zero_add, new_cell W t #[x] H hH j]
  simpa using hu
section
variable {b : Nat} {w0 w w' : World} {l : List Ob}
set_option maxRecDepth 100000 in
set_option maxHeartbeats 8000000 in
theorem bytesL_any (h : SW b w0 l w) {C : Option Addr} {T : List CH} (hc : cxOb C T ∈ l) (hn : T.length ≤ 100000) (c : Nat) :
    Calls Tryz.prog 27 #[.slice C T.length c] w (fun e w' => ∃ D d, e = .returned (.slice D T.length d) ∧ SW b w0 (rowOb 40 1 (.slice D T.length d) T.length (T.flatMap (fun e => encB e.2)) :: l) w') := by
  have HC := Lib.hid hc
  obtain ⟨ib, gi, gz0, gz1, gz2⟩ := info_parts info40'
  have S0 := Lib.hid (h.newRow 40 1)
  clear h hc
  go_enter Tryz.func27, Tryz.ntmps27
  go_wp2_with fail
  go_loopw [3, 4] (fun s3 s4 wr => ∃ (k : Nat) (B : Option Addr) (bc : Nat), k ≤ T.length ∧ s4 = .int .i64 (k : Int) ∧ s3 = .slice B k bc ∧ SW b w0 (rowOb 40 1 (.slice B k bc) k ((T.take k).flatMap (fun e => encB e.2)) :: l) wr) (fun _ s4 _ => T.length - (intOf s4).toNat)
  case atStart => exact ⟨0, none, 0, Nat.zero_le _, rfl, rfl, S0.out⟩
  case round =>
    obtain ⟨k, B, bc, hk, rfl, rfl, hs⟩ := hrel
    have S1 := Lib.hid hs
    clear hs S0
    by_cases hlt : k < T.length
    · obtain ⟨⟨i, e⟩, HTE⟩ : ∃ x, Hid (T.getD k ch0 = x) := ⟨_, rfl⟩
      obtain ⟨gT, o, rfl, _, _, _, _, hbs⟩ := cx_at (S1.out.1.holds _ (.tail _ HC.out)) hlt HTE.out
      have HLE := Lib.hid hbs.2.1
      have HTK : Hid ((T.take (k + 1)).flatMap (fun e => encB e.2) = (T.take k).flatMap (fun e => encB e.2) ++ [.slice e.d.A e.bs.length e.d.cap]) := by
        rw [Hid, take_snoc _ ch0 _ hlt, HTE.out, List.flatMap_append, ← HLE.out]
        rfl
      clear hbs
      have v2 := cx_cell (S1.out.1.holds _ (.tail _ HC.out)) hlt HTE.out
      have v3 := v2.1
      have v4 := v2.2
      clear v2
      have S3 := Lib.hid (S1.out.newCell 40 #[.slice e.d.A e.bs.length e.d.cap])
      go_wp2_with (at_builtin; (refine wpList_rowS (t := 56) (e := 40) (size := 1) (bytes := 24) (i := ib) S3.out 1 rfl (by rfl) (.tmp 11) (.tmp 17) (by rfl) Tryz.underlying56 gi gz0 gz1 gz2 rfl (by omega) (by rfl) ⟨_, 0, none⟩ 1 [.slice e.d.A e.bs.length e.d.cap] (by rfl) rfl (one_cell _ _ _ _ rfl) (by intro u hu; simp at hu; subst hu; rfl) (by unfold maxLen; omega) (by omega) ?_); refine halt_ ?_)
      intro v4 w4 s4
      obtain ⟨g4, c4, rfl⟩ := own_some (s4.get 1 rfl) (by omega)
      have S4 : Hid (SW b w0 (rowOb 40 1 (.slice (some ⟨g4, 0, none⟩) (k + 1) c4) (k + 1) ((T.take (k + 1)).flatMap (fun e => encB e.2)) :: l) w4) := by
        rw [Hid, HTK.out]
        exact s4.tail
      clear s4 S3 S1 v3 v4
      go_wp2_with fail
      go_roundw
      case rel => exact ⟨k + 1, some ⟨g4, 0, none⟩, c4, by omega, by go_num, rfl, S4.out⟩
      case measure => simp [intOf]; omega
    · obtain rfl : k = T.length := by omega
      rw [List.take_length] at S1
      go_wp2_with fail
      go_ret
      exact ⟨B, bc, rfl, S1.out⟩
end
end Go.Proofs.YtmiknfneeipkeaaGreat
