/- ST CW UP OP in one text. -/
import Derived.Test.YteabgcollokgjaaGreatDoorQ32
import Derived.Test.YteabgcollokgjaaGreatDoorQ25
import Derived.Test.YteabgcollokgjaaGreatDoorQ15
import Derived.Test.YteabgcollokgjaaGreatDoorQ31
import Derived.Test.YteabgcollokgjaaGreatDoorQ30
import Derived.Test.YteabgcollokgjaaGreatDoorQ02
import Derived.ChangeSlices
import Derived.ProofKit
namespace Go.Proofs.YteabgcollokgjaaGreatDoor
open Go.RowKit Go.MapKept Go.ChangeMaps Go.Shelf Go.Sort

section
variable {b : Nat} {w0 w w' : World} {l : List Ob}
theorem SW.fuseB {d : BD} {bs : List UInt8} {T : List BS} (h : SW b w0 (bufOb d bs :: bufsOb T :: l) w) : SW b w0 (bufsOb (T ++ [(⟨d, bs⟩ : BS)]) :: l) w :=
 SW.fuse (pre := [bufOb d bs, bufsOb T]) h (fun e he => by
  rcases List.mem_append.1 he with he | he
  · exact (h.get 1 (o := bufsOb T) rfl) e he
  · rw [List.mem_singleton.1 he]
    exact h.get 0 (o := bufOb d bs) rfl) (fun _ h => h) (fun i hi => by
  obtain ⟨e, he, hb⟩ := hi
  rcases List.mem_append.1 he with he | he
  · exact ⟨bufsOb T, by simp, .inr ⟨e, he, hb⟩⟩
  · rw [List.mem_singleton.1 he] at hb
    exact ⟨bufOb d bs, by simp, .inl hb⟩)
theorem SW.noBufs (h : SW b w0 l w) : SW b w0 (bufsOb [] :: l) w := SW.fuse (pre := []) h (fun e he => by cases he) (fun _ h => h) (fun i hi => by
 obtain ⟨e, he, _⟩ := hi
 cases he)
theorem SW.fuseL {A : Option Addr} {c : Nat} {T : List BS} (h : SW b w0 (rowOb 34 1 (.slice A T.length c) T.length (T.flatMap encB) :: bufsOb T :: l) w) : SW b w0 (blOb A T :: l) w := by
 have hb : ∀ e ∈ T, RB w e.d e.bs := h.get 1 (o := bufsOb T) rfl
 refine SW.fuse (pre := [rowOb 34 1 (.slice A T.length c) T.length (T.flatMap encB), bufsOb T]) h ⟨h.rowBl hb, hb⟩ (fun _ h => h) (fun i hi => ?_)
 rcases hi with ⟨hp, e⟩ | ⟨e, he, hb⟩
 · refine ⟨_, List.mem_cons_self .., .inl ?_⟩
   show (Value.slice A T.length c).ownBlock = some i
   rw [e]
   rfl
 · exact ⟨bufsOb T, by simp, .inr ⟨e, he, hb⟩⟩
set_option maxRecDepth 100000 in
set_option maxHeartbeats 8000000 in
theorem Short_any (w : World) : Calls Tryz.prog 32 #[] w (fun e w' => ∃ v : Bool, e = .returned (.bool v) ∧ Below w.heap.size w w') := by
 go_enter Tryz.func32, Tryz.ntmps32
 go_wp2_with fail
 go_loopw [1, 2] (fun s1 s2 wr => ∃ (n : Nat) (T : List BS) (A : Option Addr) (cap : Nat), 1 ≤ n ∧ n ≤ 5 ∧ s2 = .int .i64 (n : Int) ∧ s1 = .slice A T.length cap ∧ T.length ≤ 16 * (n - 1) ∧ (∀ e ∈ T, e.bs.length ≤ 4) ∧ SW w.heap.size w (rowOb 34 1 (.slice A T.length cap) T.length (T.flatMap encB) :: bufsOb T :: []) wr) (fun _ s2 _ => 5 - (intOf s2).toNat)
 case atStart => exact ⟨1, [], none, 0, by omega, by omega, rfl, rfl, Nat.zero_le _, (fun e he => by cases he), (SW.noBufs (SW.refl (Sep.nil w (Nat.le_refl _)))).newRow 34 1⟩
 case round =>
  obtain ⟨n, T, A, cap, hn1, hn2, rfl, rfl, hT, hb4, hs⟩ := hrel
  have S1 := Lib.hid hs
  have HB := Lib.hid hb4
  clear hs hb4
  by_cases hlt : n ≤ 4
  · obtain ⟨M, hM, hM16⟩ : ∃ M : Nat, wrap64 (2 ^ n) = (M : Int) ∧ M ≤ 16 := by
     have : n = 1 ∨ n = 2 ∨ n = 3 ∨ n = 4 := by omega
     rcases this with rfl | rfl | rfl | rfl
     · exact ⟨2, by decide +kernel, by omega⟩
     · exact ⟨4, by decide +kernel, by omega⟩
     · exact ⟨8, by decide +kernel, by omega⟩
     · exact ⟨16, by decide +kernel, by omega⟩
    have hn0 : (0 : Int) ≤ (n : Int) := by omega
    have hd4 : decide ((n : Int) ≤ 4) = true := decide_eq_true (by omega)
    go_wp2_with fail
    rename World => wa
    go_loopw [1, 3] (fun s1 s3 wr => ∃ (v : Nat) (T : List BS) (A : Option Addr) (cap : Nat), v ≤ M ∧ s3 = .int .i64 (v : Int) ∧ s1 = .slice A T.length cap ∧ T.length ≤ 16 * (n - 1) + v ∧ (∀ e ∈ T, e.bs.length ≤ 4) ∧ SW w.heap.size w (rowOb 34 1 (.slice A T.length cap) T.length (T.flatMap encB) :: bufsOb T :: []) wr) (fun _ s3 _ => M - (intOf s3).toNat)
    case atStart => exact ⟨0, T, A, cap, Nat.zero_le _, rfl, rfl, hT, HB.out, S1.out⟩
    case round =>
     obtain ⟨v, T, A, cap, hv, rfl, rfl, hT, hb4, hs⟩ := hrel
     have S1 := Lib.hid hs
     have HB := Lib.hid hb4
     clear hs hb4
     by_cases hlt2 : v < M
     · have hl2 : ¬ (wrap64 (2 ^ n) ≤ (v : Int)) := by omega
       go_wp2_with fail
       rename World => wb
       go_loopw [4, 5] (fun s4 s5 wr => ∃ (i : Nat) (d : BD) (bs : List UInt8), i ≤ n ∧ s5 = .int .i64 (i : Int) ∧ s4 = .slice d.A d.len d.cap ∧ bs.length = i ∧ SW w.heap.size w (bufOb d bs :: rowOb 34 1 (.slice A T.length cap) T.length (T.flatMap encB) :: bufsOb T :: []) wr) (fun _ s5 _ => n - (intOf s5).toNat)
       case atStart => exact ⟨0, ⟨none, 0, 0⟩, [], Nat.zero_le _, rfl, rfl, rfl, S1.out.newBuf⟩
       case round =>
        obtain ⟨i, d, bs, hi, rfl, rfl, hbl, hs⟩ := hrel
        have S2 := Lib.hid hs
        have HBL := Lib.hid hbl
        clear hs S1 hbl
        by_cases hlt3 : i < n
        · have hi0 : (0 : Int) ≤ (i : Int) := by omega
          go_wp2_with (at_builtin; refine halt_ ?_)
          obtain ⟨yb, hyb⟩ : ∃ yb : UInt8, ((yb.toNat : Nat) : Int) = bits BinOp.and IntKind.i64 ((v : Int) / 2 ^ i) 1 % 256 := ⟨UInt8.ofNat (bits BinOp.and IntKind.i64 ((v : Int) / 2 ^ i) 1 % 256).toNat, by rw [UInt8.toNat_ofNat']; omega⟩
          rw [← hyb]
          clear hyb
          have hrb : RB wr d bs := S2.out.get 0 (o := bufOb d bs) rfl
          have SB1 : Hid (SB (wr.alloc (.cells #[.int .u8 ((yb.toNat : Nat) : Int)] 5)) (some ⟨wr.heap.size, 0, none⟩) [yb]) := sb_const wr _ rfl [yb] (0, 0)
          refine wpList_append_bytes rfl _ _ rfl d bs rfl (hrb.on (bel1 _ _)) (some ⟨wr.heap.size, 0, none⟩) 1 [yb] rfl SB1.out (by rw [HBL.out]; simp only [List.length_cons, List.length_nil]; omega) ?_
          intro d2 w2 hl2 happ
          have S3 : Hid (SW w.heap.size w [bufOb d2 (bs ++ [yb]), rowOb 34 1 (.slice A T.length cap) T.length (T.flatMap encB), bufsOb T] w2) := (S2.out.alloc (.cells #[.int .u8 ((yb.toNat : Nat) : Int)] 5)).appB 0 rfl happ
          have HBL2 : Hid ((bs ++ [yb]).length = i + 1) := by rw [Hid, List.length_append, HBL.out]; rfl
          generalize bs ++ [yb] = bs2 at S3 HBL2
          clear happ hl2 hrb SB1 S2
          go_wp2_with fail
          go_roundw
          case rel => exact ⟨i + 1, d2, bs2, by omega, by go_num, rfl, HBL2.out, S3.out⟩
          case measure => simp [intOf]; omega
        · obtain rfl : i = n := by omega
          obtain ⟨i1, gi, gz0, gz1, gz2⟩ := info_parts info34
          go_wp2_with (at_builtin; (refine wpList_rowS (t := 86) (e := 34) (size := 1) (bytes := 24) (i := i1) (S2.out.alloc _) 1 rfl (by rfl) (.tmp 29) (.tmp 31) (by rfl) Tryz.underlying86 gi gz0 gz1 gz2 rfl (by omega) (by rfl) ⟨wr.heap.size, 0, none⟩ 1 [.slice d.A d.len d.cap] (by rfl) rfl (fun j u hu => by rw [lit_add, Nat.zero_add, new_cell wr 34 #[.slice d.A d.len d.cap] _ rfl j]; simpa using hu) (by intro u hu; rw [List.mem_singleton.1 hu]; rfl) (by unfold maxLen; omega) (by omega) ?_); refine halt_ ?_)
          intro v4 w4 s4
          obtain ⟨g4, c4, rfl⟩ := own_some (s4.get 1 rfl) (by omega)
          have s5 : SW w.heap.size w (bufOb d bs :: rowOb 34 1 (.slice (some ⟨g4, 0, none⟩) (T ++ [(⟨d, bs⟩ : BS)]).length c4) (T ++ [(⟨d, bs⟩ : BS)]).length ((T ++ [(⟨d, bs⟩ : BS)]).flatMap encB) :: bufsOb T :: []) w4 := by
           rw [List.flatMap_append, List.length_append]
           exact s4
          have S5 := Lib.hid (SW.front (pre := [_, _]) ((SW.front (pre := [_, _, _]) s5 [0, 2, 1] (n := 3) rfl (by decide)).fuseB) [1, 0] (n := 2) rfl (by decide))
          have HB5 : Hid (∀ e ∈ T ++ [(⟨d, bs⟩ : BS)], e.bs.length ≤ 4) := fun e he => by
           rcases List.mem_append.1 he with he | he
           · exact HB.out e he
           · rw [List.mem_singleton.1 he]
             show bs.length ≤ 4
             rw [HBL.out]
             omega
          have hTl : (T ++ [(⟨d, bs⟩ : BS)]).length = T.length + 1 := by rw [List.length_append]; rfl
          have e4 : T.length + 1 = (T ++ [(⟨d, bs⟩ : BS)]).length := hTl.symm
          rw [e4]
          generalize T ++ [(⟨d, bs⟩ : BS)] = T2 at S5 HB5 hTl
          clear s4 s5 S2 e4
          go_wp2_with fail
          go_roundw
          case rel => exact ⟨v + 1, T2, some ⟨g4, 0, none⟩, c4, by omega, by go_num, rfl, by omega, HB5.out, S5.out⟩
          case measure => simp [intOf]; omega
     · have hl2 : wrap64 (2 ^ n) ≤ (v : Int) := by omega
       obtain rfl : v = M := by omega
       go_wp2_with fail
       go_roundw
       case rel => exact ⟨n + 1, T, A, cap, by omega, by omega, by go_num, rfl, by omega, HB.out, S1.out⟩
       case measure => simp [intOf]; omega
  · have hd4 : decide ((n : Int) ≤ 4) = false := decide_eq_false (by omega)
    have HL := Lib.hid S1.out.fuseL
    have HD := Lib.hid (Distinct_any (HL.out.get 0 (o := blOb A T) rfl) cap (by omega) (fun e he => by have := HB.out e he; omega))
    go_wp2_with (go_at_call 57; (with_reducible refine HD.out.mono ?_); refine halt_ ?_)
    rintro e w2 ⟨v, rfl, _, hb⟩
    have B2 := Lib.hid (HL.out.on hb).2
    clear hb HD HL S1
    go_wp2_with fail
    go_ret
    exact ⟨v, rfl, B2.out⟩
end
end Go.Proofs.YteabgcollokgjaaGreatDoor
namespace Go.Proofs.YteabgcollokgjaaGreatDoor
open Go.RowKit Go.MapKept Go.ChangeMaps Go.Shelf Go.Sort

section
variable {ns : List ByteArray} {b : Nat} {w0 w w' : World} {l : List Ob} {x : SR} {c : CR}
theorem ok_ss (h : c.ok) (f : Nat) (hf : f < c.se.length) : (c.ss f).beg = (c.ss f).hm.isSome := h _ (ses_at hf)
theorem ok_of (h : ∀ j, j < c.se.length → (c.ss j).beg = (c.ss j).hm.isSome) : c.ok := fun s hs => by
 obtain ⟨j, hj, rfl⟩ := List.mem_iff_getElem.1 hs
 have := h j hj
 have e : c.ss j = c.se[j] := by
  show c.se.getD j ses0 = _
  rw [List.getD_eq_getElem?_getD, List.getElem?_eq_getElem hj]
  rfl
 rw [e] at this
 exact this
theorem ok_start (h : c.se = List.replicate 16 ses0) : c.ok := fun s hs => by
 rw [h] at hs
 rw [List.eq_of_mem_replicate hs]
 rfl
/-- Nothing but the sessions has changed. -/
structure Same (c c' : CR) : Prop where
 cp : c'.cp = c.cp
 ps : c'.ps = c.ps
 cand : c'.cand = c.cand
 ok : c'.ok
theorem Begin_W (h : SW b w0 (coOb c :: l) w) (hok : c.ok) (N : Int) : Calls Tryz.prog 71 #[vPtr c.cp, .int .i64 N] w (fun e w' => ∃ v c', e = .returned (.int .i64 v) ∧ SW b w0 (coOb c' :: l) w' ∧ Same c c' ∧ ∀ i, heldC c' i = heldC c i) := by
 by_cases hN : N < 0
 · refine (Begin_neg h N hN).mono ?_
   rintro e w' ⟨rfl, s⟩
   exact ⟨_, c, rfl, s, ⟨rfl, rfl, rfl, hok⟩, fun _ => rfl⟩
 · cases ho : fiO pFree c.se with
   | none =>
    refine (Begin_full h N (by omega) ho).mono ?_
    rintro e w' ⟨rfl, s⟩
    exact ⟨_, c, rfl, s, ⟨rfl, rfl, rfl, hok⟩, fun _ => rfl⟩
   | some f =>
    cases hg : fiO (pNum N) c.se with
    | some g =>
     refine (Begin_twice h N (by omega) f g ho hg).mono ?_
     rintro e w' ⟨rfl, s⟩
     exact ⟨_, c, rfl, s, ⟨rfl, rfl, rfl, hok⟩, fun _ => rfl⟩
    | none =>
     refine (Begin_new h N (by omega) f ho hg).mono ?_
     rintro e w' ⟨rfl, m, s⟩
     obtain ⟨hf, hp⟩ := fiO_lt ho
     have hb : (c.ss f).beg = false := by
      have hp : (!(c.ss f).beg) = true := hp
      cases hx : (c.ss f).beg with
      | false => rfl
      | true => rw [hx] at hp; cases hp
     have hH : (c.ss f).H = [] := h.coOk.nomap _ (ses_at hf) (by
      have := ok_ss hok f hf
      rw [hb] at this
      cases hx : (c.ss f).hm with
      | none => rfl
      | some v => rw [hx] at this; cases this)
     refine ⟨_, _, rfl, s, ⟨rfl, rfl, rfl, ok_of (fun j hj => ?_)⟩, fun i => ?_⟩
     · show ((c.begun f N m).se.getD j ses0).beg = ((c.begun f N m).se.getD j ses0).hm.isSome
       rw [begun_at hf]
       split
       · rfl
       · exact ok_ss hok j (by rw [begun_len] at hj; exact hj)
     · rw [Bool.eq_iff_iff, held_iff, held_iff]
       constructor
       · rintro ⟨j, hj, hx⟩
         rw [begun_len] at hj
         refine ⟨j, hj, ?_⟩
         have hx : (asc ((c.begun f N m).se.getD j ses0).H i).isSome = true := hx
         rw [begun_at hf] at hx
         split at hx
         · cases hx
         · exact hx
       · rintro ⟨j, hj, hx⟩
         refine ⟨j, by rw [begun_len]; exact hj, ?_⟩
         show (asc ((c.begun f N m).se.getD j ses0).H i).isSome = true
         rw [begun_at hf]
         split
         · rename_i e
           subst e
           rw [hH] at hx
           cases hx
         · exact hx
theorem End_W (h : SW b w0 (coOb c :: l) w) (hok : c.ok) (N : Int) : Calls Tryz.prog 67 #[vPtr c.cp, .int .i64 N] w (fun e w' => ∃ v c', e = .returned (.int .i64 v) ∧ SW b w0 (coOb c' :: l) w' ∧ Same c c' ∧ ∀ i, heldC c' i = true → heldC c i = true) := by
 cases ho : fiO (pNum N) c.se with
 | none =>
  refine (End_none h N ho).mono ?_
  rintro e w' ⟨rfl, s⟩
  exact ⟨_, c, rfl, s, ⟨rfl, rfl, rfl, hok⟩, fun _ h => h⟩
 | some f =>
  refine (End_some h N f ho).mono ?_
  rintro e w' ⟨rfl, s⟩
  obtain ⟨hf, _⟩ := fiO_lt ho
  refine ⟨_, _, rfl, s, ⟨rfl, rfl, rfl, ok_of (fun j hj => ?_)⟩, fun i hx => ?_⟩
  · show ((c.ended f).se.getD j ses0).beg = ((c.ended f).se.getD j ses0).hm.isSome
    rw [ended_at hf]
    split
    · rfl
    · exact ok_ss hok j (by rw [ended_len] at hj; exact hj)
  · obtain ⟨j, hj, hx⟩ := held_iff.1 hx
    rw [ended_len] at hj
    refine held_iff.2 ⟨j, hj, ?_⟩
    have hx : (asc ((c.ended f).se.getD j ses0).H i).isSome = true := hx
    rw [ended_at hf] at hx
    split at hx
    · cases hx
    · exact hx
theorem hold_ok {f : Nat} {i : ID} (hf : f < c.se.length) (hok : c.ok) : Same c (c.hold f i) := ⟨rfl, rfl, rfl, ok_of (fun j hj => by
 show ((c.hold f i).se.getD j ses0).beg = ((c.hold f i).se.getD j ses0).hm.isSome
 rw [hold_at hf]
 split
 · exact ok_ss hok f hf
 · exact ok_ss hok j (by simpa [CR.hold, CR.put] using hj))⟩
theorem Touch_W (h : SW b w0 (coOb c :: x.obs l) w) (hok : c.ok) (hps : c.ps = x.ps) (N : Int) (i : ID) (hi : okID i) :
 Calls Tryz.prog 73 #[vPtr c.cp, .int .i64 N, .agg #[.int .u64 i.1, .int .i64 i.2]] w (fun e w' => ∃ (v : Bool) (code : Int) (c' : CR), e = .returned (.tuple #[.bool v, .int .i64 code]) ∧ SW b w0 (coOb c' :: x.obs l) w' ∧ Same c c' ∧ (∀ j, heldC c j = true → heldC c' j = true) ∧ (code = 0 → v = (asc x.C i).isSome) ∧ (v = true → heldC c' i = true ∧ (asc x.C i).isSome = true)) := by
 cases ho : fiO (pNum N) c.se with
 | none =>
  refine (Touch_none h N ho i).mono ?_
  rintro e w' ⟨rfl, s⟩
  exact ⟨_, _, c, rfl, s, ⟨rfl, rfl, rfl, hok⟩, fun _ h => h, (fun h => by cases h), fun h => by cases h⟩
 | some f =>
  obtain ⟨hf, hp⟩ := fiO_lt ho
  have hp : ((c.ss f).beg && ((c.ss f).num == N)) = true := hp
  rw [Bool.and_eq_true] at hp
  cases hv : (asc x.C i).isSome with
  | false =>
   refine (Touch_lost h N f ho i (HasC_of hps i hi hv)).mono ?_
   rintro e w' ⟨rfl, s⟩
   exact ⟨_, _, c, rfl, s, ⟨rfl, rfl, rfl, hok⟩, fun _ h => h, (fun _ => rfl), fun h => by cases h⟩
  | true =>
   obtain ⟨m, hm⟩ : ∃ m, (c.ss f).hm = some m := by
    have := ok_ss hok f hf
    rw [hp.1] at this
    cases hx : (c.ss f).hm with
    | none => rw [hx] at this; cases this
    | some m => exact ⟨m, rfl⟩
   refine (Touch_held h N f ho m hm i hi (HasC_of hps i hi hv)).mono ?_
   rintro e w' ⟨rfl, s⟩
   refine ⟨_, _, c.hold f i, rfl, s, hold_ok hf hok, fun j hj => ?_, (fun _ => rfl), fun _ => ⟨?_, rfl⟩⟩
   · rw [hold_held hf, hj]
     simp
   · rw [hold_held hf]
     simp
abbrev PutWP (ns : List ByteArray) (b : Nat) (w0 : World) (c : CR) (x : SR) (P : List (List UInt8)) (bs : List UInt8) (l : List Ob) (e : Ending) (w' : World) : Prop :=
 (e = .returned (.tuple #[.agg #[.int .u64 0, .int .i64 0], .int .i64 401]) ∧ SW b w0 (coOb c :: x.obs l) w') ∨
 (e = .returned (.tuple #[.agg #[.int .u64 (fpOf bs).1, .int .i64 (fpOf bs).2], .int .i64 0]) ∧ ∃ c' x', SW b w0 (coOb c' :: x'.obs l) w' ∧ Same c c' ∧ (∀ j, heldC c' j = (decide (fpOf bs = j) || heldC c j)) ∧ Cl ns x' ∧ TX x' (P ++ [bs]) ∧ x'.ps = x.ps ∧ x'.p = x.p ∧ x'.nm = x.nm ∧ x'.F = x.F)
theorem CPut_W (h : SW b w0 (coOb c :: x.obs l) w) (hok : c.ok) (hps : c.ps = x.ps) (hc : Cl ns x) {P : List (List UInt8)} (hT : TX x P) (N : Int) (A : Option Addr) (cap : Nat) (bs : List UInt8) (o : Ob) (ho : o ∈ l) (hs : ∀ w', o.holds w' → RS w' A bs) (ht : IsText bs) :
 Calls Tryz.prog 72 #[vPtr c.cp, .int .i64 N, .slice A bs.length cap] w (PutWP ns b w0 c x P bs l) := by
 cases hn : fiO (pNum N) c.se with
 | none =>
  refine (CPut_none h N hn _).mono ?_
  rintro e w' ⟨rfl, s⟩
  exact .inl ⟨rfl, s⟩
 | some f =>
  obtain ⟨hf, hp⟩ := fiO_lt hn
  have hp : ((c.ss f).beg && ((c.ss f).num == N)) = true := hp
  rw [Bool.and_eq_true] at hp
  obtain ⟨m, hm⟩ : ∃ m, (c.ss f).hm = some m := by
   have := ok_ss hok f hf
   rw [hp.1] at this
   cases hx : (c.ss f).hm with
   | none => rw [hx] at this; cases this
   | some m => exact ⟨m, rfl⟩
  have HP : PutC b w0 c (x.obs l) (fun l' => ∃ x' : SR, l' = x'.obs l ∧ Cl ns x' ∧ TX x' (P ++ [bs]) ∧ x'.ps = x.ps ∧ x'.p = x.p ∧ x'.nm = x.nm ∧ x'.F = x.F) (.slice A bs.length cap) (fpOf bs) 0 := fun o' w' s => by
   have s2 : SW b w0 (x.obs (o' :: coOb c :: l)) w' := SW.front (pre := [_, _, _, _, _, _]) (t := l) s [2, 3, 4, 5, 0, 1] (n := 6) rfl (by decide)
   have hrs : RS w' A bs := hs w' (s2.1.holds o (by simp [ho]))
   rw [hps]
   refine (PutT_L s2 hc hT A cap bs hrs ht).mono ?_
   rintro e w'' ⟨rfl, x', s3, h1, h2, h3, h4, h5, h6⟩
   exact ⟨rfl, _, ⟨x', rfl, h1, h2, h3, h4, h5, h6⟩, SW.front (pre := [_, _, _, _, _, _]) (t := l) s3 [4, 5, 0, 1, 2, 3] (n := 6) rfl (by decide)⟩
  refine (CPut_ok h N f hn m hm _ (fpOf bs) (okID_fp bs (by have := ht.hi; omega)) HP).mono ?_
  rintro e w' ⟨rfl, l', ⟨x', rfl, h1, h2, h3, h4, h5, h6⟩, s⟩
  exact .inr ⟨rfl, c.hold f (fpOf bs), x', s, hold_ok hf hok, fun j => hold_held hf j, h1, h2, h3, h4, h5, h6⟩
/-- What a step leaves of the texts. -/
theorem TX.gone {P : List (List UInt8)} (h : TX x P) {ids : List ID} {x' : SR} (hg : Gone x ids x') : TX x' (P.filter fun t => !decide (fpOf t ∈ ids)) := by
 refine ⟨fun i => ?_, fun t ht => ?_, fun t ht => h.text t (List.mem_filter.1 ht).1⟩
 · rw [hg.has i, h.has i]
   by_cases hi : i ∈ ids
   · simp only [hi, decide_true, Bool.not_true, Bool.false_and]
     symm
     rw [decide_eq_false_iff_not]
     intro hm
     obtain ⟨t, ht, e⟩ := List.mem_map.1 hm
     have := (List.mem_filter.1 ht).2
     rw [e] at this
     simp [hi] at this
   · simp only [hi, decide_false, Bool.not_false, Bool.true_and]
     congr 1
     rw [eq_iff_iff]
     constructor
     · intro hm
       obtain ⟨t, ht, e⟩ := List.mem_map.1 hm
       exact List.mem_map.2 ⟨t, List.mem_filter.2 ⟨ht, by rw [e]; simp [hi]⟩, e⟩
     · intro hm
       obtain ⟨t, ht, e⟩ := List.mem_map.1 hm
       exact List.mem_map.2 ⟨t, (List.mem_filter.1 ht).1, e⟩
 · obtain ⟨h1, h2⟩ := List.mem_filter.1 ht
   rw [hg.val, if_neg (by simpa using h2)]
   exact h.val t h1
end
end Go.Proofs.YteabgcollokgjaaGreatDoor
namespace Go.Proofs.YteabgcollokgjaaGreatDoor
open Go.RowKit Go.MapKept Go.ChangeMaps Go.Shelf Go.Sort

section
variable {c : CR}
theorem stepL_free (h : ∀ i, heldC c i = false) (n : Int) : stepL c n = c.cand.take n.toNat := by
 show (c.cand.filter fun i => !heldC c i).take n.toNat = _
 rw [List.filter_eq_self.2 (fun i _ => by rw [h i]; rfl)]
theorem lessL_mem (ids l : List ID) (i : ID) : i ∈ lessL (setI ids) l ↔ i ∈ l ∧ i ∉ ids := by
 unfold lessL
 rw [List.mem_filter]
 have h := setI_key ids i
 constructor
 · rintro ⟨h1, h2⟩
   refine ⟨h1, fun hm => ?_⟩
   rw [decide_eq_true hm] at h
   cases hx : asc (setI ids) i with
   | none => rw [hx] at h; cases h
   | some v => rw [hx] at h2; cases h2
 · rintro ⟨h1, h2⟩
   refine ⟨h1, ?_⟩
   rw [decide_eq_false h2] at h
   cases hx : asc (setI ids) i with
   | none => rfl
   | some v => rw [hx] at h; cases h
theorem lessL_nodup {ids l : List ID} (h : l.Nodup) : (lessL (setI ids) l).Nodup := h.sublist List.filter_sublist
theorem lessL_take {l : List ID} (h : l.Nodup) (n : Nat) : lessL (setI (l.take n)) l = l.drop n := by
 have hk : ∀ i, (asc (setI (l.take n)) i).isNone = !decide (i ∈ l.take n) := fun i => by
  have := setI_key (l.take n) i
  cases hx : asc (setI (l.take n)) i with
  | none => rw [hx] at this; rw [← this]; rfl
  | some v => rw [hx] at this; rw [← this]; rfl
 unfold lessL
 conv => lhs; rw [← List.take_append_drop n l]
 rw [List.filter_append]
 have hn : (l.take n ++ l.drop n).Nodup := by rw [List.take_append_drop]; exact h
 obtain ⟨_, _, h3⟩ := List.nodup_append.1 hn
 have e1 : (l.take n).filter (fun i => (asc (setI (l.take n ++ l.drop n |>.take n)) i).isNone) = [] := by
  rw [List.take_append_drop]
  refine List.filter_eq_nil_iff.2 (fun i hi => ?_)
  rw [hk]
  simp [hi]
 have e2 : (l.drop n).filter (fun i => (asc (setI (l.take n ++ l.drop n |>.take n)) i).isNone) = l.drop n := by
  rw [List.take_append_drop]
  refine List.filter_eq_self.2 (fun i hi => ?_)
  rw [hk]
  have : i ∉ l.take n := fun hm => h3 i hm i hi rfl
  simp [this]
 rw [List.take_append_drop] at e1 e2
 simp only [List.take_append_drop]
 rw [e1, e2]
 rfl
/-- Sorted IDs of a store's keys are the keys, ascending. -/
theorem ids_uniq {K1 K2 a1 a2 : List ID} (p1 : a1.Perm K1) (p2 : a2.Perm K2) (s1 : SortedI a1) (s2 : SortedI a2) (n1 : K1.Nodup) (n2 : K2.Nodup) (h : ∀ i, i ∈ K1 ↔ i ∈ K2) : a1 = a2 :=
 sorted_uniq (strict_of_sorted s1 (p1.nodup_iff.2 n1)) (strict_of_sorted s2 (p2.nodup_iff.2 n2)) (fun i => by rw [p1.mem_iff, p2.mem_iff, h])
end
end Go.Proofs.YteabgcollokgjaaGreatDoor
namespace Go.Proofs.YteabgcollokgjaaGreatDoor
open Go.RowKit Go.ChangeShapes

theorem cell_lt {W : World} {b o : Nat} {v : Value} (h : W.cell? ⟨b, o, none⟩ = some v) : b < W.heap.size := by
 rcases Nat.lt_or_ge b W.heap.size with h1 | h1
 · exact h1
 · exfalso
   simp [World.cell?, Array.getElem?_eq_none h1] at h
theorem open_nums {H : Type} {enc : TypeId × Value → H} {W : World} {base : Nat} {spare : Nat → Bool} {held : Bool} {A : Option Addr} {len cap : Nat} {d : DataW H} {p : List MemPlace}
 (h : DataW.Trod enc Tryz.prog W base spare held 47 (.slice A len cap) d p) : ∃ xs : List Int, xs.length = len ∧ RdT W W.heap.size A xs ∧ len ≤ 9223372036854775807 := by
 obtain ⟨fuel, hf⟩ := h
 rcases Go.ChangeShapes.open_ints Tryz.underlying47 Tryz.underlying3 (by kernel_rfl) hf with ⟨hcs, _⟩ | ⟨a, l, c, zs, hcs, _, hl, hm, hz, _, hx, _⟩
 · simp [Value.cells] at hcs
   obtain ⟨rfl, rfl, rfl⟩ := hcs
   exact ⟨[], rfl, fun hp => absurd hp (by simp), by omega⟩
 · simp [Value.cells] at hcs
   obtain ⟨rfl, rfl, rfl⟩ := hcs
   have hlz : len ≤ zs.length := by rw [hz]; split <;> omega
   unfold maxLen at hm
   refine ⟨zs.take len, by rw [List.length_take]; omega, fun hp => ?_, by omega⟩
   have hp' : 0 < len := by rw [List.length_take] at hp; omega
   obtain ⟨b, off, spot⟩ := a
   have h0 := hx 0 (by omega)
   have hspot : spot = none := by simpa [Addr.add] using World.cell?_spot h0
   subst hspot
   have hadd : ∀ j, (⟨b, off, none⟩ : Addr).add j = ⟨b, off + j, none⟩ := fun j => by unfold Addr.add; split <;> simp_all
   rw [hadd] at h0
   refine ⟨b, off, rfl, cell_lt h0, fun j hj => ?_⟩
   rw [List.length_take] at hj
   have := hx j (by omega)
   rw [hadd] at this
   rw [this, List.getD_eq_getElem?_getD, List.getD_eq_getElem?_getD, List.getElem?_take_of_lt (by omega)]
end Go.Proofs.YteabgcollokgjaaGreatDoor
