/- DD DE SD FP PH SS SA in one text. -/
import Derived.Test.YteabgcollokgjaaGreatDoorQ07
import Derived.Outline
import Derived.Laws.IdiomStrings
import Derived.Lib.SlBytesConst
import Derived.Lib.BufferRead
import Derived.Test.YteabgcollokgjaaGreatDoorQ01
import Derived.WalkKit
import Derived.DeepKeys4
import Derived.WalkArith
namespace Go.Proofs.YteabgcollokgjaaGreatDoor
open Go.RowKit Go.MapKept Go.ChangeMaps

/-- A byte with a bit turned. -/
def turn (b : UInt8) (k : Nat) : UInt8 := b ^^^ (UInt8.ofNat (2 ^ k))
def flipB (bs : List UInt8) (i k : Nat) : List UInt8 := bs.set i (turn (bs.getD i 0) k)
def flipBad (s : St) (nm : ByteArray) (off bit : Int) : Prop := 0 < s.ops.length ∨ off < 0 ∨ (((s.now nm).getD []).length : Int) ≤ off ∨ bit < 0 ∨ 7 < bit
instance (s : St) (nm : ByteArray) (off bit : Int) : Decidable (flipBad s nm off bit) := by unfold flipBad; exact inferInstance
def flipE (s : St) (nm : ByteArray) (off bit : Int) : Int := if nameB nm then (if (s.now nm).isSome then (if flipBad s nm off bit then 304 else 0) else 301) else 300
def flipS (s : St) (nm : ByteArray) (off bit : Int) : St := if flipE s nm off bit = 0 then { s with K := s.K.set nm (some (flipB ((s.now nm).getD []) off.toNat bit.toNat)) } else s
theorem look_ok_some {w : World} {b : Nat} {E : Files} (h : FM w b E) {nm : ByteArray} (hn : okS nm) {v : En} (hv : asc E nm = some v) : (Instr.lookup 133 (.map (some b)) (.string nm) true).run Tryz.prog w = .ok (.tuple #[.slice v.1.A v.1.len v.1.cap, .bool true]) w := by
  have := MapIs.look mkS Tryz.underlying133 (zero22 _) h.1 hn true
  rw [show (Value.string nm) = kS nm from rfl, this, hv]
  rfl
theorem look_ok_none {w : World} {b : Nat} {E : Files} (h : FM w b E) {nm : ByteArray} (hn : okS nm) (hv : asc E nm = none) : (Instr.lookup 133 (.map (some b)) (.string nm) true).run Tryz.prog w = .ok (.tuple #[.slice none 0 0, .bool false]) w := by
  have := MapIs.look mkS Tryz.underlying133 (zero22 _) h.1 hn true
  rw [show (Value.string nm) = kS nm from rfl, this, hv]
  rfl
theorem setL_mem {E : Files} {nm : ByteArray} {v : En} (hn : (E.map (·.1)).Nodup) {e : ByteArray × En} (he : e ∈ setL E nm v) : e = (nm, v) ∨ (e ∈ E ∧ e.1 ≠ nm) := by
  induction E with
  | nil => simp [setL] at he; exact .inl he
  | cons c E ih =>
    simp only [List.map_cons, List.nodup_cons] at hn
    rw [setL] at he
    split at he
    · rename_i ec
      rcases List.mem_cons.1 he with h | h
      · exact .inl h
      · exact .inr ⟨List.mem_cons_of_mem _ h, fun e2 => hn.1 (by rw [ec, ← e2]; exact List.mem_map.2 ⟨e, h, rfl⟩)⟩
    · rename_i ec
      rcases List.mem_cons.1 he with h | h
      · subst h; exact .inr ⟨List.mem_cons_self, ec⟩
      · rcases ih hn.2 h with h2 | ⟨h2, h3⟩
        · exact .inl h2
        · exact .inr ⟨List.mem_cons_of_mem _ h2, h3⟩
theorem DV.flip {w w3 w4 w5 : World} {p : Nat} {r : Rp} {s : St} (H : DV w p r s) (hL : r.L = []) (hb : Below w.heap.size w w3) {nm : ByteArray} {d : BD} {bs : List UInt8} (hd : RB w3 d bs) (hf : ∀ g, blk d = some g → w.heap.size ≤ g)
    (hm4 : MapIs okS kS vE w4 r.nb (setL r.EN nm (d, bs))) (hg4 : w3.grownBy w4 (some r.nb)) (hm5 : MapIs okS kS vE w5 r.kb (setL r.EK nm (d, bs))) (hg5 : w4.grownBy w5 (some r.kb)) (hl : bs.length ≤ 4194304) (hs : (s.now nm).isSome = true) :
    ∃ r', DV w5 p r' { s with K := s.K.set nm (some bs) } ∧ Step w w5 p r r' := by
  have D3 := H.on hb
  have hops : s.ops = [] := by rw [← H.dev.sO, hL]; rfl
  have hnow : s.now = s.K := by rw [St.now, hops]; rfl
  have F4 : FM w4 r.nb (setL r.EN nm (d, bs)) := D3.dev.now.set_ hm4 hg4 hd (fun c hc _ g h1 h2 => by
    have := (H.dev.now.2.1 c hc).lt h1
    have := hf g h2
    omega)
  have K4 : FM w4 r.kb r.EK := D3.dev.kept.kept (hg4.block _ D3.dev.kept.1.lt (fun e => H.dev.two (by injection e))) (fun e he hr => hr.grown hg4 (RB.ne_map D3.dev.now.1 hr))
  have hd4 : RB w4 d bs := hd.grown hg4 (RB.ne_map D3.dev.now.1 hd)
  have F5 : FM w5 r.kb (setL r.EK nm (d, bs)) := K4.set_ hm5 hg5 hd4 (fun c hc _ g h1 h2 => by
    have := (H.dev.kept.2.1 c hc).lt h1
    have := hf g h2
    omega)
  have N5 : FM w5 r.nb (setL r.EN nm (d, bs)) := F4.kept (hg5.block _ F4.1.lt (fun e => H.dev.two (by injection e with e; exact e.symm))) (fun e he hr => hr.grown hg5 (RB.ne_map K4.1 hr))
  have C4 := D3.dev.cells.grown hg4 (fun e => is_map D3.dev.now.1 (by injection e with e; rw [← e]; exact D3.dev.cells))
  have C5 := C4.grown hg5 (fun e => is_map K4.1 (by injection e with e; rw [← e]; exact C4))
  have rooms' : ∀ q ∈ rooms (setL r.EN nm (d, bs)), (w.heap.size ≤ q.1 ∧ blk d = some q.1 ∧ q.2 = d.len) ∨ q ∈ rooms r.EN := fun q hq => by
    obtain ⟨e, he, h1, h2, h3⟩ := mem_rooms.1 hq
    rcases setL_mem H.dev.now.1.nodup he with rfl | ⟨he, _⟩
    · exact .inl ⟨hf _ h1, h1, h2⟩
    · exact .inr (mem_rooms.2 ⟨e, he, h1, h2, h3⟩)
  have hsK : (s.K nm).isSome = true := by rw [← hnow]; exact hs
  refine ⟨{ r with EK := setL r.EK nm (d, bs), EN := setL r.EN nm (d, bs) }, ⟨?_, ⟨H.ok.f0, H.ok.f1, fun k => ?_, H.ok.ops⟩⟩, ⟨?_, fun i hi => .inl hi, fun q hq => ?_, fun d' hd' => .inr ?_⟩⟩
  · have key : ∀ (E : Files) (n : ByteArray), (∀ n, asc (plain E) n = s.K n) → asc (plain (setL E nm (d, bs))) n = (s.K.set nm (some bs)) n := fun E n h => by
      rw [plain_setL, asc_setL, h n]
      rfl
    exact {
      cells := C5
      kept := F5
      now := N5
      two := H.dev.two
      pend := own_ch (own_ch D3.dev.pend (grown_ch hg4 []) (fun i hi => ⟨fun e => by
          obtain ⟨cur, hcur⟩ := row_is D3.dev.pend hi
          exact is_map D3.dev.now.1 (by rw [← e]; exact hcur), by simp⟩)) (grown_ch hg5 []) (fun i hi => ⟨fun e => by
          obtain ⟨cur, hcur⟩ := row_is D3.dev.pend hi
          exact is_map D3.dev.kept.1 (by rw [← e]; exact hcur), by simp⟩)
      ops := by rw [hL]; simp
      safe := fun e he q hq hbe => by
        rcases rooms' q hq with ⟨h1, h2, h3⟩ | h1
        · rcases setL_mem H.dev.kept.1.nodup he with rfl | ⟨he, _⟩
          · exact Nat.le_of_eq h3.symm
          · have := (H.dev.kept.2.1 e he).lt hbe
            omega
        · rcases setL_mem H.dev.kept.1.nodup he with rfl | ⟨he, _⟩
          · obtain ⟨cur, hcur⟩ := rooms_byte H.dev.now h1
            have := hcur.lt
            have := hf _ hbe
            omega
          · exact H.dev.safe e he q h1 hbe
      sK := fun n => key r.EK n H.dev.sK
      sO := by rw [hL]; exact hops.symm
      sN := fun n => by
        have : St.now { s with K := s.K.set nm (some bs) } = s.K.set nm (some bs) := by simp [St.now, hops]
        rw [this]
        exact key r.EN n (fun m => by rw [H.dev.sN, hnow]) }
  · rw [hops]
    simp only [List.take_nil, List.foldl_nil]
    exact H.ok.kept.set nm bs hl (.inl hsK)
  · refine Ch.then (w1 := w3) (Ch.below hb _ _) (Ch.then (w1 := w4) ?_ ?_)
    · exact (grown_ch hg4 _).wider (fun i e => .inr (.inr (.inl e)))
    · exact (grown_ch hg5 _).wider (fun i e => .inr (.inl e))
  · rcases rooms' q hq with ⟨h1, _⟩ | h1
    · exact .inl h1
    · exact .inr ⟨q, h1, rfl, Nat.le_refl _⟩
  · rcases hd' with ⟨e, he, rfl⟩ | ⟨e, he, rfl⟩ | h
    · rcases setL_mem H.dev.kept.1.nodup he with rfl | ⟨he, _⟩
      · exact .inl hf
      · exact From.old (.inl ⟨e, he, rfl⟩)
    · rcases setL_mem H.dev.now.1.nodup he with rfl | ⟨he, _⟩
      · exact .inl hf
      · exact From.old (.inr (.inl ⟨e, he, rfl⟩))
    · exact From.old (.inr (.inr h))
theorem RB.flip {w : World} {g n c : Nat} {bs : List UInt8} (h : RB w ⟨some ⟨g, 0, none⟩, n, c⟩ bs) (o k : Nat) (ho : o < bs.length) : RB (w.setCell ⟨g, o, none⟩ (.int .u8 (((turn (bs.getD o 0) k).toNat : Nat) : Int))).drew ⟨some ⟨g, 0, none⟩, n, c⟩ (flipB bs o k) := by
  obtain ⟨h1, h2, h3, h4⟩ := h
  obtain ⟨g', cur, e, hb, hs, hc⟩ := h4 _ rfl
  obtain rfl : g = g' := by injection e
  refine ⟨by rw [flipB, List.length_set]; exact h1, h2, h3, fun ad e => ?_⟩
  injection e with e
  subst e
  refine ⟨g, _, rfl, (hb.set_ o _).on_drew, by rw [Array.size_setIfInBounds]; exact hs, fun j u hu => ?_⟩
  rw [flipB, List.map_set] at hu
  by_cases hj : o = j
  · subst hj
    have hlt : o < cur.size := by simp only at h1 h2 hs; omega
    rw [List.getElem?_set_self (by simpa using ho)] at hu
    rw [Array.getElem?_setIfInBounds_self_of_lt hlt]
    exact hu
  · rw [List.getElem?_set_ne hj] at hu
    rw [Array.getElem?_setIfInBounds_ne hj]
    exact hc j u hu
theorem turn_bits (b : UInt8) (k : Nat) (hk : k < 8) : bits .xor .u8 ((b.toNat : Nat) : Int) ((2 ^ k : Nat) : Int) = (((turn b k).toNat : Nat) : Int) := by
  have key : ∀ b : Fin 256, ∀ k : Fin 8, bits .xor .u8 ((b.val : Nat) : Int) ((2 ^ k.val : Nat) : Int) = (((turn (UInt8.ofNat b.val) k.val).toNat : Nat) : Int) := by decide +kernel
  have := key ⟨b.toNat, b.toNat_lt⟩ ⟨k, hk⟩
  simpa using this
theorem turn_bits' (b : UInt8) (k : Nat) (hk : k < 8) : bits .xor .u8 ((b.toNat : Nat) : Int) (2 ^ k % 256) = (((turn b k).toNat : Nat) : Int) := by
  rw [← turn_bits b k hk]
  congr 1
  rcases (by omega : k = 0 ∨ k = 1 ∨ k = 2 ∨ k = 3 ∨ k = 4 ∨ k = 5 ∨ k = 6 ∨ k = 7) with rfl | rfl | rfl | rfl | rfl | rfl | rfl | rfl <;> decide
set_option maxRecDepth 100000 in
set_option maxHeartbeats 4000000 in
theorem Flip_any (p : Nat) (r : Rp) (s : St) (nm : ByteArray) (off bit : Int) (w : World) (h : DV w p r s) (hn : okS nm) (hL : s.ops.length ≤ 1000000) : Calls Tryz.prog 39 #[.pointer (some ⟨p, 0, none⟩), .string nm, .int .i64 off, .int .i64 bit] w (Goes p r (flipS s nm off bit) (.int .i64 (flipE s nm off bit)) w) := by
  have H := Lib.hid h
  have Hn := Lib.hid hn
  have HO : Hid (r.L.length = s.ops.length) := by rw [Hid, ← h.dev.sO, List.length_map]
  have hL2 : r.L.length ≤ 1000000 := by rw [HO.out]; exact hL
  have hplt := h.dev.cells.lt
  have k0 : w.cell? ⟨p, 0, none⟩ = some (.map (some r.kb)) := (h.dev.cells.cell 0).trans rfl
  have k1 : w.cell? ⟨p, 1, none⟩ = some (.map (some r.nb)) := (h.dev.cells.cell 1).trans rfl
  have k2 : w.cell? ⟨p, 2, none⟩ = some (.slice r.A r.L.length r.c) := (h.dev.cells.cell 2).trans rfl
  have bad : ∀ v : Int, v ≠ 0 → flipE s nm off bit = v → Goes p r (flipS s nm off bit) (.int .i64 (flipE s nm off bit)) w (.returned (.int .i64 v)) w := fun v hv he => by
    rw [flipS, he, if_neg hv]
    exact ⟨rfl, r, H.out, Step.same (Below.refl _ _)⟩
  have Bad := Lib.hid bad
  clear h hn hL bad
  cases hnb : nameB nm with
  | false =>
    have E : Hid (flipE s nm off bit = 300) := by simp [Hid, flipE, hnb]
    have Hnb := Lib.hid hnb
    clear hnb
    go_enter Tryz.func39, Tryz.ntmps39
    go_wp2_with (go_at_call 98; refine (validName_any nm _ Hn.out).mono ?_; rw [Hnb.out]; rintro e w3 ⟨rfl, rfl⟩)
    go_ret
    exact Bad.out _ (by decide) E.out
  | true =>
    have Hnb := Lib.hid hnb
    clear hnb
    cases hv : asc r.EN nm with
    | none =>
      have E : Hid (flipE s nm off bit = 301) := by
        have := H.out.dev.has nm
        rw [hv] at this
        simp [Hid, flipE, Hnb.out, ← this]
      have hlook := look_ok_none H.out.dev.now Hn.out hv
      clear hv
      go_enter Tryz.func39, Tryz.ntmps39
      go_wp2_with (go_at_call 98; refine (validName_any nm _ Hn.out).mono ?_; rw [Hnb.out]; rintro e w3 ⟨rfl, rfl⟩)
      go_ret
      exact Bad.out _ (by decide) E.out
    | some v =>
      have HN : Hid (s.now nm = some v.2) := H.out.dev.at_ hv
      have HR : Hid (RB w v.1 v.2) := H.out.dev.now.at_ hv
      have hlook := look_ok_some H.out.dev.now Hn.out hv
      have hvl : v.2.length ≤ 4194304 := by
        have := H.out.ok.now.len nm
        rw [HN.out] at this
        exact this
      have HV := Lib.hid hv
      clear hv
      obtain ⟨⟨A, n, c⟩, bs⟩ := v
      obtain rfl : bs.length = n := HR.out.1
      simp only at hlook hvl
      have E : Hid (flipE s nm off bit = if 0 < r.L.length ∨ off < 0 ∨ (bs.length : Int) ≤ off ∨ bit < 0 ∨ 7 < bit then 304 else 0) := by
        have : flipBad s nm off bit ↔ (0 < r.L.length ∨ off < 0 ∨ (bs.length : Int) ≤ off ∨ bit < 0 ∨ 7 < bit) := by
          unfold flipBad
          rw [HN.out, HO.out]
          rfl
        simp only [Hid, flipE, Hnb.out, HN.out, Option.isSome_some, if_true, this]
      by_cases a1 : 0 < r.L.length
      · skip
        have E2 : Hid (flipE s nm off bit = 304) := by rw [Hid, E.out, if_pos (by omega)]
        go_enter Tryz.func39, Tryz.ntmps39
        go_wp2_with (go_at_call 98; refine (validName_any nm _ Hn.out).mono ?_; rw [Hnb.out]; rintro e w3 ⟨rfl, rfl⟩)
        go_ret
        exact Bad.out _ (by decide) E2.out
      have HL : Hid (r.L = []) := List.eq_nil_of_length_eq_zero (by omega)
      rw [show r.L.length = 0 by omega] at k2 E
      clear a1 HO hL2
      by_cases a2 : off < 0
      · skip
        have E2 : Hid (flipE s nm off bit = 304) := by rw [Hid, E.out, if_pos (by omega)]
        go_enter Tryz.func39, Tryz.ntmps39
        go_wp2_with (go_at_call 98; refine (validName_any nm _ Hn.out).mono ?_; rw [Hnb.out]; rintro e w3 ⟨rfl, rfl⟩)
        go_ret
        exact Bad.out _ (by decide) E2.out
      by_cases a3 : (bs.length : Int) ≤ off
      · skip
        have E2 : Hid (flipE s nm off bit = 304) := by rw [Hid, E.out, if_pos (by omega)]
        go_enter Tryz.func39, Tryz.ntmps39
        go_wp2_with (go_at_call 98; refine (validName_any nm _ Hn.out).mono ?_; rw [Hnb.out]; rintro e w3 ⟨rfl, rfl⟩)
        go_ret
        exact Bad.out _ (by decide) E2.out
      by_cases a4 : bit < 0
      · skip
        have E2 : Hid (flipE s nm off bit = 304) := by rw [Hid, E.out, if_pos (by omega)]
        go_enter Tryz.func39, Tryz.ntmps39
        go_wp2_with (go_at_call 98; refine (validName_any nm _ Hn.out).mono ?_; rw [Hnb.out]; rintro e w3 ⟨rfl, rfl⟩)
        go_ret
        exact Bad.out _ (by decide) E2.out
      by_cases a5 : 7 < bit
      · skip
        have E2 : Hid (flipE s nm off bit = 304) := by rw [Hid, E.out, if_pos (by omega)]
        go_enter Tryz.func39, Tryz.ntmps39
        go_wp2_with (go_at_call 98; refine (validName_any nm _ Hn.out).mono ?_; rw [Hnb.out]; rintro e w3 ⟨rfl, rfl⟩)
        go_ret
        exact Bad.out _ (by decide) E2.out
      obtain ⟨o, rfl⟩ : ∃ o : Nat, off = (o : Int) := ⟨off.toNat, by omega⟩
      obtain ⟨k, rfl⟩ : ∃ k : Nat, bit = (k : Int) := ⟨bit.toNat, by omega⟩
      have hk : k < 8 := by omega
      have ho : o < bs.length := by omega
      have E2 : Hid (flipE s nm o k = 0) := by rw [Hid, E.out, if_neg (by omega)]
      clear E Bad a2 a3 a4 a5
      go_enter Tryz.func39, Tryz.ntmps39
      go_wp2_with (first
        | (go_at_call 98; refine (validName_any nm _ Hn.out).mono ?_; rw [Hnb.out]; rintro e w3 ⟨rfl, rfl⟩)
        | (go_at_call 87; refine halt_ ?_))
      refine (CloneB_any A c bs _ HR.out.src (by omega)).mono ?_
      rintro e w2 ⟨⟨dA, dn, dc⟩, rfl, hr2, hf2, hb2⟩
      obtain rfl : bs.length = dn := hr2.1
      obtain ⟨g, cur, hga, hgb, hgc, hgd⟩ : ∃ g cur, dA = some ⟨g, 0, none⟩ ∧ IsB w2 g 5 cur ∧ dc ≤ cur.size ∧ ∀ (j : Nat) (u : Value), (bs.map encU)[j]? = some u → cur[j]? = some u := by
        cases hA : dA with
        | none => have := hr2.2.2.1 hA; have := hr2.2.1; simp only at *; omega
        | some ad =>
          obtain ⟨g, cur, rfl, h1, h2, h3⟩ := hr2.2.2.2 ad hA
          exact ⟨g, cur, rfl, h1, h2, h3⟩
      subst hga
      have hgf : w.heap.size ≤ g := hf2 g rfl
      have q0 : w2.cell? ⟨g, o, none⟩ = some (.int .u8 (((bs.getD o 0).toNat : Nat) : Int)) := by
        rw [hgb.cell, hgd o (encU (bs.getD o 0)) (by rw [List.getElem?_map, List.getD_eq_getElem?_getD, List.getElem?_eq_getElem ho]; rfl)]
        rfl
      have q1 : w2.frozen? ⟨g, o, none⟩ = false := hgb.frozen o
      have R2 := Lib.hid hr2
      have F2 := Lib.hid hf2
      have B2 := Lib.hid hb2
      have GB := Lib.hid hgb
      have k0' : w2.cell? ⟨p, 0, none⟩ = some (.map (some r.kb)) := ((H.out.on hb2).dev.cells.cell 0).trans rfl
      have k1' : w2.cell? ⟨p, 1, none⟩ = some (.map (some r.nb)) := ((H.out.on hb2).dev.cells.cell 1).trans rfl
      clear hr2 hf2 hb2 hgb hgd
      unfold vB
      go_wp2_with fail
      go_region
      have hge : bs.getD o 0 = bs[o] := by rw [List.getD_eq_getElem?_getD, List.getElem?_eq_getElem ho]; rfl
      have hw : (bits .xor .u8 ((bs[o].toNat : Nat) : Int) (2 ^ k % 256)) = (((turn (bs.getD o 0) k).toNat : Nat) : Int) := by rw [hge]; exact turn_bits' bs[o] k hk
      rw [hw]
      obtain ⟨w3, hw3⟩ : ∃ w3, w3 = (w2.setCell ⟨g, o, none⟩ (.int .u8 (((turn (bs.getD o 0) k).toNat : Nat) : Int))).drew := ⟨_, rfl⟩
      rw [← hw3]
      have hr3 : RB w3 ⟨some ⟨g, 0, none⟩, bs.length, dc⟩ (flipB bs o k) := by rw [hw3]; exact R2.out.flip o k ho
      have hb3 : Below w.heap.size w w3 := by rw [hw3]; exact bel_drew (B2.out.setCell hgf _)
      have D3 : Hid (DV w3 p r s) := H.out.on hb3
      obtain ⟨w4, hu4, hm4, hg4, hz4⟩ := MapIs.update mkS Tryz.underlying133 D3.out.dev.now.1 Hn.out (⟨some ⟨g, 0, none⟩, bs.length, dc⟩, flipB bs o k)
      have hu4' : (Instr.mapUpdate 133 (.map (some r.nb)) (.string nm) (.slice (some ⟨g, 0, none⟩) bs.length dc)).run Tryz.prog w3 = .ok () w4 := hu4
      have K4 : MapIs okS kS vE w4 r.kb r.EK := D3.out.dev.kept.1.kept hg4 (fun e => H.out.dev.two (by injection e))
      obtain ⟨w5, hu5, hm5, hg5, hz5⟩ := MapIs.update mkS Tryz.underlying133 K4 Hn.out (⟨some ⟨g, 0, none⟩, bs.length, dc⟩, flipB bs o k)
      have hu5' : (Instr.mapUpdate 133 (.map (some r.kb)) (.string nm) (.slice (some ⟨g, 0, none⟩) bs.length dc)).run Tryz.prog w4 = .ok () w5 := hu5
      have C4 : IsB w4 p 136 (vD (.map (some r.kb)) (.map (some r.nb)) r.row s.dn s.f) := D3.out.dev.cells.grown hg4 (fun e => is_map D3.out.dev.now.1 (by injection e with e; rw [← e]; exact D3.out.dev.cells))
      have y1 : w3.cell? ⟨p, 1, none⟩ = some (.map (some r.nb)) := (D3.out.dev.cells.cell 1).trans rfl
      have y0 : w4.cell? ⟨p, 0, none⟩ = some (.map (some r.kb)) := (C4.cell 0).trans rfl
      have FIN : Hid (Goes p r (flipS s nm o k) (.int .i64 (flipE s nm o k)) w (.returned (.int .i64 0)) w5) := by
        obtain ⟨r', h1, h2⟩ := H.out.flip HL.out hb3 hr3 F2.out hm4 hg4 hm5 hg5 (by rw [flipB, List.length_set]; exact hvl) (by rw [HN.out]; rfl)
        rw [Hid, flipS, E2.out, if_pos rfl, HN.out]
        exact ⟨rfl, r', h1, h2⟩
      clear hw hge hw3 hr3 hb3 hu4 hm4 hg4 hz4 K4 hu5 hm5 hg5 hz5 C4 q0 q1 k0 k1 k2 k0' k1'
      go_wp2_with fail
      go_ret
      exact FIN.out
end Go.Proofs.YteabgcollokgjaaGreatDoor
namespace Go.Proofs.YteabgcollokgjaaGreatDoor
open Go.RowKit Go.MapKept Go.ChangeMaps

/-- What leaves the device in the state s'. -/
def GetL (b p : Nat) (s' : St) (v : Value) (w : World) (R : List (BD × List UInt8)) (e : Ending) (w' : World) : Prop := e = .returned v ∧ LDev b w' p s' R ∧ Below b w w'
def ReqL (b p : Nat) (s : St) (o : POp) (w : World) (R : List (BD × List UInt8)) (e : Ending) (w' : World) : Prop := ∃ n, Cnt s.now n ∧ GetL b p (reqS s n o) (.int .i64 (reqE s n o)) w R e w'
section
variable {b p : Nat} {s : St} {w : World} {R : List (BD × List UInt8)}
theorem req_L {F : FuncId} {args : Array Value} {o : POp} (hc : ∀ r, DV w p r s → Calls Tryz.prog F args w (ReqPost p r s o w)) (h : LDev b w p s R) : Calls Tryz.prog F args w (ReqL b p s o w R) := by
  obtain ⟨h0, r, h1, h2, hR⟩ := h
  refine (hc r h1).mono ?_
  rintro e w' ⟨n, hn, he, r', hd, hs⟩
  obtain ⟨h3, h4⟩ := LDev.step h0 h2 h1 hR hd hs
  exact ⟨n, hn, he, h3, h4⟩
theorem goes_L {F : FuncId} {args : Array Value} {s' : St} {v : Value} (hc : ∀ r, DV w p r s → Calls Tryz.prog F args w (Goes p r s' v w)) (h : LDev b w p s R) : Calls Tryz.prog F args w (GetL b p s' v w R) := by
  obtain ⟨h0, r, h1, h2, hR⟩ := h
  refine (hc r h1).mono ?_
  rintro e w' ⟨he, r', hd, hs⟩
  obtain ⟨h3, h4⟩ := LDev.step h0 h2 h1 hR hd hs
  exact ⟨he, h3, h4⟩
theorem Create_L (nm : ByteArray) (A : Option Addr) (c : Nat) (bs : List UInt8) (h : LDev b w p s R) (hn : okS nm) (hs : SB w A bs) (hL : s.ops.length ≤ 1000000) (hbs : bs.length ≤ 9223372036854775807) :
    Calls Tryz.prog 238 #[.pointer (some ⟨p, 0, none⟩), .string nm, .slice A bs.length c] w (ReqL b p s ⟨.create, nm, ByteArray.empty, bs, true⟩ w R) := req_L (fun r hd => Create_any p r s nm A c bs w hd hn hs hL hbs) h
theorem Append_L (nm : ByteArray) (A : Option Addr) (c : Nat) (bs : List UInt8) (h : LDev b w p s R) (hn : okS nm) (hs : SB w A bs) (hL : s.ops.length ≤ 1000000) (hbs : bs.length ≤ 1152921504606846976) :
    Calls Tryz.prog 240 #[.pointer (some ⟨p, 0, none⟩), .string nm, .slice A bs.length c] w (ReqL b p s ⟨.add, nm, ByteArray.empty, bs, true⟩ w R) := req_L (fun r hd => Append_any p r s nm A c bs w hd hn hs hL hbs) h
theorem Delete_L (nm : ByteArray) (h : LDev b w p s R) (hn : okS nm) (hL : s.ops.length ≤ 1000000) :
    Calls Tryz.prog 180 #[.pointer (some ⟨p, 0, none⟩), .string nm] w (ReqL b p s ⟨.remove, nm, ByteArray.empty, [], false⟩ w R) := req_L (fun r hd => Delete_any p r s nm w hd hn hL) h
theorem Rename_L (nm to : ByteArray) (h : LDev b w p s R) (hn : okS nm) (ht : okS to) (hL : s.ops.length ≤ 1000000) :
    Calls Tryz.prog 239 #[.pointer (some ⟨p, 0, none⟩), .string nm, .string to] w (ReqL b p s ⟨.rename, nm, to, [], false⟩ w R) := req_L (fun r hd => Rename_any p r s nm to w hd hn ht hL) h
theorem Sync_L (h : LDev b w p s R) (hL : s.ops.length ≤ 1000000) : Calls Tryz.prog 137 #[.pointer (some ⟨p, 0, none⟩)] w (GetL b p (syncS s) (.int .i64 (syncE s)) w R) := goes_L (fun r hd => Sync_any p r s w hd hL) h
theorem Lose_L (keep torn : Int) (h : LDev b w p s R) (hL : s.ops.length ≤ 1000000) (ht : torn ≤ 9223372036854775807) : Calls Tryz.prog 51 #[.pointer (some ⟨p, 0, none⟩), .agg #[.int .i64 keep, .int .i64 torn]] w (GetL b p (loseS s keep torn) (.tuple #[]) w R) := goes_L (fun r hd => Lose_any p r s keep torn w hd hL ht) h
theorem Restart_L (h : LDev b w p s R) (hL : s.ops.length ≤ 1000000) : Calls Tryz.prog 52 #[.pointer (some ⟨p, 0, none⟩)] w (GetL b p (restartS s) (.tuple #[]) w R) := goes_L (fun r hd => Restart_any p r s w hd hL) h
theorem Fuse_L (n : Int) (h : LDev b w p s R) (hn : n ≤ 9223372036854775807) : Calls Tryz.prog 50 #[.pointer (some ⟨p, 0, none⟩), .int .i64 n] w (GetL b p { s with f := max n 0 } (.tuple #[]) w R) := goes_L (fun r hd => Fuse_any p r s n w hd hn) h
theorem Flip_L (nm : ByteArray) (off bit : Int) (h : LDev b w p s R) (hn : okS nm) (hL : s.ops.length ≤ 1000000) : Calls Tryz.prog 39 #[.pointer (some ⟨p, 0, none⟩), .string nm, .int .i64 off, .int .i64 bit] w (GetL b p (flipS s nm off bit) (.int .i64 (flipE s nm off bit)) w R) := goes_L (fun r hd => Flip_any p r s nm off bit w hd hn hL) h
theorem Read_L (nm : ByteArray) (h : LDev b w p s R) (hn : okS nm) : Calls Tryz.prog 38 #[.pointer (some ⟨p, 0, none⟩), .string nm] w (ReadPost s nm w) := by
  obtain ⟨_, r, h1, _⟩ := h
  exact Read_any p r s nm w h1 hn
theorem Down_L (h : LDev b w p s R) : Calls Tryz.prog 82 #[.pointer (some ⟨p, 0, none⟩)] w (fun e w' => e = .returned (.bool s.dn) ∧ w = w') := by
  obtain ⟨_, r, h1, _⟩ := h
  exact Down_any p r s w h1
end
/-- 'string(b)'. -/
theorem conv_str {w : World} {A : Option Addr} {bs : List UInt8} (h : SB w A bs) (c : Nat) : (convert 34 9 (.slice A bs.length c)).run Tryz.prog w = .ok (.string ⟨bs.toArray⟩) w := by
  cases A with
  | none =>
    obtain rfl : bs = [] := List.eq_nil_of_length_eq_zero (h.1 rfl)
    exact Lib.run_convert_nil_bytes w 34 9 5 c Tryz.underlying34 Tryz.underlying5 Tryz.underlying9
  | some ad =>
    exact run_convert_bytes_back w 34 9 5 ad c bs Tryz.underlying34 Tryz.underlying5 Tryz.underlying9 (fun j hj => h.2 ad rfl j _ (by rw [List.getElem?_map, List.getElem?_eq_getElem hj]; rfl))
theorem conv_rb {w : World} {d : BD} {bs : List UInt8} (h : RB w d bs) : (convert 34 9 (.slice d.A d.len d.cap)).run Tryz.prog w = .ok (.string ⟨bs.toArray⟩) w := by
  have := conv_str h.src d.cap
  rwa [h.1] at this
/-- A request that is carried out. -/
theorem req_ok {s : St} {n : Nat} {o : POp} (hg : gate s n o = 0) (hf : s.f = 0) : reqE s n o = 0 ∧ reqS s n o = { s with ops := s.ops ++ [o] } := by
  simp [reqE, reqS, hg, hf, St.did, burnD, burnF]
theorem gate_create {s : St} {n : Nat} {nm : ByteArray} {bs : List UInt8} (hd : s.dn = false) (hn : nameB nm = true) (hl : bs.length ≤ 4194304) (hc : (s.now nm).isSome = true ∨ n < 256) : gate s n ⟨.create, nm, ByteArray.empty, bs, true⟩ = 0 := by
  simp only [gate, hd, hn]
  rw [if_neg (by simp), if_pos trivial, if_neg]
  rintro (h | ⟨h1, h2⟩)
  · omega
  · rcases hc with h3 | h3
    · rw [h1] at h3; cases h3
    · omega
theorem gate_add {s : St} {n : Nat} {nm : ByteArray} {bs v : List UInt8} (hd : s.dn = false) (hn : nameB nm = true) (hv : s.now nm = some v) (hl : v.length + bs.length ≤ 4194304) : gate s n ⟨.add, nm, ByteArray.empty, bs, true⟩ = 0 := by
  simp only [gate, hd, hn, hv]
  rw [if_neg (by simp), if_pos trivial, if_pos (by simp), if_neg]
  simp only [Option.getD_some]
  omega
theorem Cnt.none : Cnt (fun _ => none) 0 := ⟨[], by simp, by simp, rfl⟩
theorem readE_ok {s : St} {nm : ByteArray} {v : List UInt8} (hd : s.dn = false) (hn : nameB nm = true) (hv : s.now nm = some v) : readE s nm = 0 ∧ readB s nm = v := by
  have : readE s nm = 0 := by simp [readE, checkP, hd, hn, hv]
  exact ⟨this, by rw [readB, if_pos this, hv]; rfl⟩
end Go.Proofs.YteabgcollokgjaaGreatDoor
namespace Go.Proofs.YteabgcollokgjaaGreatDoor
open Go.RowKit Go.MapKept Go.ChangeMaps

def devOwn (p : Nat) (r : Rp) (i : Nat) : Prop := r.own p i ∨ ∃ q ∈ rooms r.EN, q.1 = i
def devRd (r : Rp) (i : Nat) : Prop := ∃ d, r.reads d ∧ blk d = some i
def devOb (p : Nat) (r : Rp) (s : St) : Ob where
  own := devOwn p r
  rd := devRd r
  holds := fun w => DV w p r s
  stable := fun w w' h hs hk => by
    have hc : Ch w w' (fun i => ¬ (devOwn p r i ∨ devRd r i)) [] := ⟨hs.1, hs.2.1, hs.2.2.1, hs.2.2.2, fun i _ hn _ => hk i (Classical.not_not.1 hn), by simp⟩
    exact ⟨h.dev.ch hc (fun i hi => ⟨fun hn => hn (.inl (.inl hi)), by simp⟩) (fun d hd => ⟨fun g hg hn => hn (.inr ⟨d, hd, hg⟩), by simp⟩), h.ok⟩
theorem DV.reads_lt {w : World} {p : Nat} {r : Rp} {s : St} (h : DV w p r s) {i : Nat} (hi : devRd r i) : i < w.heap.size := by
  obtain ⟨d, hd, hg⟩ := hi
  rcases hd with ⟨e, he, rfl⟩ | ⟨e, he, rfl⟩ | ⟨e, he, rfl⟩
  · exact (h.dev.kept.2.1 e he).lt hg
  · exact (h.dev.now.2.1 e he).lt hg
  · exact (h.dev.ops e he).1.lt hg
theorem DV.own_lt {w : World} {p : Nat} {r : Rp} {s : St} (h : DV w p r s) {i : Nat} (hi : devOwn p r i) : i < w.heap.size := by
  rcases hi with hi | ⟨q, hq, rfl⟩
  · rcases hi with rfl | rfl | rfl | e
    · exact h.dev.cells.lt
    · exact h.dev.kept.1.lt
    · exact h.dev.now.1.lt
    · obtain ⟨cur, hcur⟩ := row_is h.dev.pend e
      exact hcur.lt
  · obtain ⟨cur, hcur⟩ := rooms_byte h.dev.now hq
    exact hcur.lt
theorem Step.fr {w w' : World} {p : Nat} {r r' : Rp} (h : Step w w' p r r') : Fr w w' (devOwn p r) (devOwn p r') :=
  ⟨h.ch.os, h.ch.tape, h.ch.output, h.ch.size, fun i hi hn => h.ch.block i hi (fun ho => hn (.inl ho)) (fun q hq e => hn (.inr ⟨q, hq, e⟩)), fun i hi => by
    rcases hi with hi | ⟨q, hq, rfl⟩
    · rcases h.own i hi with h1 | h1
      · exact .inl (.inl h1)
      · exact .inr h1
    · rcases h.rooms q hq with h1 | ⟨q0, h1, h2, _⟩
      · exact .inr h1
      · exact .inl (.inr ⟨q0, h1, h2⟩)⟩
theorem Step.rds {w w' : World} {p : Nat} {r r' : Rp} (h : Step w w' p r r') : ∀ i, devRd r' i → devOwn p r i ∨ devRd r i ∨ w.heap.size ≤ i := by
  rintro i ⟨d, hd, hg⟩
  rcases h.reads d hd with h1 | h1 | ⟨d0, h1, h2, _⟩ | ⟨q, h1, h2⟩
  · exact h1.elim
  · exact .inr (.inr (h1 i hg))
  · exact .inr (.inl ⟨d0, h1, by rw [h2, hg]⟩)
  · rw [hg] at h2
    injection h2 with h2
    exact .inl (.inr ⟨q, h1, h2.symm⟩)
theorem Sep.dev {b : Nat} {w w' : World} {p : Nat} {r r' : Rp} {s s' : St} {l : List Ob} {k : Nat} (h : Sep b w l) (hk : l[k]? = some (devOb p r s)) (hd : DV w' p r' s') (hs : Step w w' p r r') : Sep b w' (l.set k (devOb p r' s')) ∧ Below b w w' :=
  h.stepAt k hk hs.fr hs.rds hd (fun i hi => by
    rcases hi with hi | hi
    · exact hd.own_lt hi
    · exact hd.reads_lt hi)
/-- What leaves the device in the state s'. -/
def GoesS (b p k : Nat) (s' : St) (v : Value) (l : List Ob) (w : World) (e : Ending) (w' : World) : Prop := e = .returned v ∧ ∃ r', Sep b w' (l.set k (devOb p r' s')) ∧ Below b w w'
def ReqS (b p k : Nat) (s : St) (o : POp) (l : List Ob) (w : World) (e : Ending) (w' : World) : Prop := ∃ n, Cnt s.now n ∧ GoesS b p k (reqS s n o) (.int .i64 (reqE s n o)) l w e w'
section
variable {b p k : Nat} {r : Rp} {s : St} {w : World} {l : List Ob}
theorem Sep.dv (h : Sep b w l) (hk : l[k]? = some (devOb p r s)) : DV w p r s := h.get hk
theorem goes_S {F : FuncId} {args : Array Value} {s' : St} {v : Value} (hc : Calls Tryz.prog F args w (Goes p r s' v w)) (h : Sep b w l) (hk : l[k]? = some (devOb p r s)) : Calls Tryz.prog F args w (GoesS b p k s' v l w) := by
  refine hc.mono ?_
  rintro e w' ⟨he, r', hd, hs⟩
  exact ⟨he, r', h.dev hk hd hs⟩
theorem req_S {F : FuncId} {args : Array Value} {o : POp} (hc : Calls Tryz.prog F args w (ReqPost p r s o w)) (h : Sep b w l) (hk : l[k]? = some (devOb p r s)) : Calls Tryz.prog F args w (ReqS b p k s o l w) := by
  refine hc.mono ?_
  rintro e w' ⟨n, hn, he, r', hd, hs⟩
  exact ⟨n, hn, he, r', h.dev hk hd hs⟩
end
end Go.Proofs.YteabgcollokgjaaGreatDoor
namespace Go.Proofs.YteabgcollokgjaaGreatDoor

def pP : Nat := 2305843009213693951
def pB : Nat := 747382712868975713
def fpStep (s : Nat) (x : UInt8) : Nat := (s * pB + (x.toNat + 1)) % pP
def fpSum (bs : List UInt8) : Nat := bs.foldl fpStep 0
theorem fpSum_snoc (bs : List UInt8) (x : UInt8) : fpSum (bs ++ [x]) = fpStep (fpSum bs) x := by
  unfold fpSum
  rw [List.foldl_append, List.foldl_cons, List.foldl_nil]
theorem fpSum_nil : fpSum [] = 0 := by
  unfold fpSum
  rw [List.foldl_nil]
theorem pP_pos : 0 < pP := by unfold pP; omega
theorem fpStep_lt (s : Nat) (x : UInt8) : fpStep s x < pP := by
  unfold fpStep
  exact Nat.mod_lt _ pP_pos
theorem fpSum_lt (bs : List UInt8) : fpSum bs < pP := by
  have h : ∀ (l : List UInt8) (s : Nat), s < pP → l.foldl fpStep s < pP := by
    intro l
    induction l with
    | nil => intro s h; rw [List.foldl_nil]; exact h
    | cons x l ih => intro s _; rw [List.foldl_cons]; exact ih _ (fpStep_lt s x)
  unfold fpSum
  exact h bs 0 pP_pos
/-- The product, by its two words. -/
theorem mul_words (m : Nat) (_h : m < pP * pP) : (m % 18446744073709551616 % 2305843009213693952 + (m / 18446744073709551616 * 8 + m % 18446744073709551616 / 2305843009213693952)) % pP = m % pP := by
  have e : m = (m / 18446744073709551616 * 8 + m % 18446744073709551616 / 2305843009213693952) * 2305843009213693952 + m % 18446744073709551616 % 2305843009213693952 := by omega
  generalize ha : m / 18446744073709551616 * 8 + m % 18446744073709551616 / 2305843009213693952 = a at *
  generalize hb : m % 18446744073709551616 % 2305843009213693952 = b at *
  have e2 : m = a * pP + (b + a) := by rw [e]; unfold pP; omega
  rw [e2, Nat.mul_comm, Nat.mul_add_mod]
theorem mul_high (m : Nat) (h : m < pP * pP) : m / 18446744073709551616 < 288230376151711744 := by
  have : pP * pP < 288230376151711744 * 18446744073709551616 := by unfold pP; omega
  exact Nat.div_lt_of_lt_mul (by rw [Nat.mul_comm]; omega)
end Go.Proofs.YteabgcollokgjaaGreatDoor
namespace Go.Proofs.YteabgcollokgjaaGreatDoor

abbrev ID := Int × Int
def fpOf (bs : List UInt8) : ID := ((fpSum bs : Nat), (bs.length : Nat))
/-- Eight bytes, the least first. -/
def le8 (v : Nat) : List UInt8 := (List.range 8).map (fun i => UInt8.ofNat (v / 2 ^ (8 * i)))
theorem le8_len (v : Nat) : (le8 v).length = 8 := by simp [le8]
def u64 (z : Int) : Nat := (z % 18446744073709551616).toNat
/-- A number in groups of seven bits. -/
def putU (v : Nat) : List UInt8 := if h : v < 128 then [UInt8.ofNat v] else UInt8.ofNat (v % 128 + 128) :: putU (v / 128)
termination_by v
decreasing_by omega
theorem putU_pos (v : Nat) : 0 < (putU v).length := by
  rw [putU]
  split <;> simp
theorem putU_len {v k : Nat} (h : v < 128 ^ (k + 1)) : (putU v).length ≤ k + 1 := by
  induction k generalizing v with
  | zero =>
    rw [putU, dif_pos (by simpa using h)]
    simp
  | succ k ih =>
    rw [putU]
    split
    · simp
    · simp only [List.length_cons]
      have : v / 128 < 128 ^ (k + 1) := by
        rw [Nat.div_lt_iff_lt_mul (by omega)]
        rw [Nat.pow_succ] at h
        exact h
      have := ih this
      omega
def markB : List UInt8 := [83, 89, 67, 83]
/-- The first part of a head. -/
def headA (id : ID) : List UInt8 := markB ++ le8 (u64 id.2) ++ le8 (u64 id.1)
def headB (id : ID) (file off : Nat) : List UInt8 := headA id ++ le8 (fpSum (headA id ++ putU (2 * file) ++ putU (2 * off)))
theorem headA_len (id : ID) : (headA id).length = 20 := by simp [headA, markB, le8_len]
theorem headB_len (id : ID) (file off : Nat) : (headB id file off).length = 28 := by simp [headB, headA_len, le8_len]
/-- The bytes of the chunk whose frame is at an offset. -/
def cutB (bs : List UInt8) (id : ID) (off : Nat) : List UInt8 := (bs.drop (off + 28)).take id.2.toNat
def cutOk (bs : List UInt8) (id : ID) (off : Nat) : Bool := decide (id.2 ≤ (bs.length : Int) - (off + 28)) && decide (fpOf (cutB bs id off) = id)
/-- A frame. -/
def frameB (c : ID × List UInt8) (off : Nat) : List UInt8 := headB c.1 1 off ++ c.2
end Go.Proofs.YteabgcollokgjaaGreatDoor
namespace Go.Proofs.YteabgcollokgjaaGreatDoor
open Go.RowKit Go.MapKept Go.ChangeMaps
open Go.Maps (Keyed)

abbrev vID (i : ID) : Value := .agg #[.int .u64 i.1, .int .i64 i.2]
def encID (i : ID) : List Value := [.int .u64 i.1, .int .i64 i.2]
def okID (i : ID) : Prop := (Lit.int .u64 i.1).wf = true ∧ (Lit.int .i64 i.2).wf = true
theorem laidOutC : laidOutB Tryz.prog = true := by kernel_rfl
theorem row31 : (31 : TypeId) < Tryz.prog.types.size := of_decide_eq_true (by kernel_rfl)
theorem kta31 : Tryz.prog.keyTypeAt 2 31 = true := by kernel_rfl
theorem keyed31 : Keyed Tryz.prog 31 := Keyed.of_law (deep_law_laid laidOutC (m := 2) (by omega) row31 kta31 (by rw [Tryz.underlying31]))
theorem typesC : ∃ m, Tryz.prog.types.size = m + 1 := ⟨Tryz.prog.types.size - 1, by have h : (31 : Nat) < Tryz.prog.types.size := row31; omega⟩
theorem kt31 : Tryz.prog.keyType 31 = true := by kernel_rfl
theorem cellsOf31 : Tryz.prog.cellsOf 31 = 2 := by kernel_rfl
theorem cellsOf29 : Tryz.prog.cellsOf 29 = 1 := by kernel_rfl
theorem cellsOf3 : Tryz.prog.cellsOf 3 = 1 := by kernel_rfl
theorem keyOf31 (i : ID) (h : okID i) : keyOf Tryz.prog 31 (vID i) = some (.string (keyBytes [.int .u64 i.1, .int .i64 i.2])) := by
  obtain ⟨wa, wb⟩ := h
  obtain ⟨m, hm⟩ := typesC
  have hkt := kt31
  unfold keyOf
  simp only [Tryz.underlying31]
  rw [if_pos (by simp [hkt, Value.formed, Tryz.underlying31, cellsOf31]), hm]
  unfold Program.keyLits
  simp only [Tryz.underlying31, Value.cells]
  rw [if_pos (by rw [cellsOf31]; exact ⟨rfl, by simp⟩)]
  simp [cellsOf29, cellsOf3, Program.keyLits, Tryz.underlying29, Tryz.underlying3, wa, wb]
theorem mkI : MK Tryz.prog 31 okID vID := ⟨keyed31, fun i h => ⟨_, keyOf31 i h⟩, fun a b h => by
  simp [vID] at h
  exact Prod.ext h.1 h.2⟩
abbrev vN (n : Int) : Value := .int .i64 n
def okN (n : Int) : Prop := (Lit.int .i64 n).wf = true
theorem mkN : MK Tryz.prog 3 okN vN := ⟨Maps.int_keyed Tryz.underlying3, fun n h => ⟨.int .i64 n, by simp only [okN] at h; simp [keyOf, Tryz.underlying3, mapKey, h]⟩, fun a b h => by injection h⟩
theorem okID_of {i : ID} (h0 : 0 ≤ i.1) (h1 : i.1 < 18446744073709551616) (h2 : -9223372036854775808 ≤ i.2) (h3 : i.2 ≤ 9223372036854775807) : okID i := by
  exact ⟨WalkArith.wf_u64 ⟨h0, by omega⟩, WalkArith.wf_i64 ⟨h2, h3⟩⟩
theorem okID_fp (bs : List UInt8) (h : bs.length ≤ 9223372036854775807) : okID (fpOf bs) := by
  have := fpSum_lt bs
  unfold pP at this
  exact okID_of (by simp [fpOf]) (by simp only [fpOf]; omega) (by simp only [fpOf]; omega) (by simp only [fpOf]; omega)
/-- Where a chunk is. -/
inductive Pl where
  | pend (d : BD) (bs : List UInt8)
  | at (o : Nat)
def Pl.A : Pl → Option Addr | .pend d _ => d.A | .at _ => none
def Pl.len : Pl → Nat | .pend d _ => d.len | .at _ => 0
def Pl.cap : Pl → Nat | .pend d _ => d.cap | .at _ => 0
def Pl.f : Pl → Int | .pend _ _ => 0 | .at _ => 1
def Pl.o : Pl → Int | .pend _ _ => 0 | .at o => o
def Pl.isP : Pl → Bool | .pend _ _ => true | .at _ => false
abbrev vPl (p : Pl) : Value := .agg #[.slice p.A p.len p.cap, .int .i64 p.f, .int .i64 p.o]
abbrev Chs := List (ID × Pl)
/-- The chunks of a store. -/
def chOb (cm : Nat) (C : Chs) : Ob where
  own := fun i => i = cm
  rd := fun i => ∃ id d bs, (id, Pl.pend d bs) ∈ C ∧ blk d = some i
  holds := fun w => MapIs okID vID vPl w cm C ∧ ∀ id d bs, (id, Pl.pend d bs) ∈ C → RB w d bs ∧ 0 < bs.length
  stable := fun w w' h hs hk => ⟨h.1.same (hk cm (.inl rfl)), fun id d bs hm => by
    have h1 := h.2 id d bs hm
    have hc : Ch w w' (fun i => ¬ blk d = some i) [] := ⟨hs.1, hs.2.1, hs.2.2.1, hs.2.2.2, fun i _ hn _ => hk i (.inr ⟨id, d, bs, hm, Classical.not_not.1 hn⟩), by simp⟩
    exact ⟨h1.1.ch hc (fun g hg hn => hn hg) (by simp), h1.2⟩⟩
/-- The file of a store. -/
structure FR where
  fb : Nat
  sb : Nat
  len : Nat
  clean : Bool
  T : List (ID × Bool)
abbrev vPtr (g : Nat) : Value := .pointer (some ⟨g, 0, none⟩)
abbrev vBl (b : Bool) : Value := .bool b
abbrev FR.cells (f : FR) : Array Value := #[.int .i64 f.len, .bool f.clean, .map (some f.sb)]
def fL (F : Option FR) : List (Int × Nat) := match F with | none => [] | some f => [(1, f.fb)]
def flOb (fm : Nat) (F : Option FR) : Ob where
  own := fun i => i = fm ∨ ∃ f, F = some f ∧ (i = f.fb ∨ i = f.sb)
  rd := fun _ => False
  holds := fun w => MapIs okN vN vPtr w fm (fL F) ∧ ∀ f, F = some f → IsB w f.fb 145 f.cells ∧ MapIs okID vID vBl w f.sb f.T ∧ f.sb ≠ fm
  stable := fun w w' h hs hk => ⟨h.1.same (hk fm (.inl (.inl rfl))), fun f hf => by
    obtain ⟨h1, h2, h3⟩ := h.2 f hf
    exact ⟨(hk f.fb (.inl (.inr ⟨f, hf, .inl rfl⟩))).trans h1, h2.same (hk f.sb (.inl (.inr ⟨f, hf, .inr rfl⟩))), h3⟩⟩
/-- A store. -/
structure SR where
  p : Nat
  ps : Nat
  cm : Nat
  fm : Nat
  r : Rp
  s : St
  nm : ByteArray
  C : Chs
  F : Option FR
  wait : Int
  bytes : Int
  dead : Bool
abbrev SR.cells (x : SR) : Array Value := #[.pointer (some ⟨x.p, 0, none⟩), .string x.nm, .map (some x.cm), .map (some x.fm), .int .i64 x.wait, .int .i64 x.bytes, .bool x.dead]
abbrev SR.obs (x : SR) (l : List Ob) : List Ob := devOb x.p x.r x.s :: cellOb x.ps 131 x.cells :: chOb x.cm x.C :: flOb x.fm x.F :: l
/-- A store beside other things. -/
abbrev Sto (b : Nat) (w : World) (x : SR) (l : List Ob) : Prop := Sep b w (x.obs l)
section
variable {b : Nat} {w : World} {x : SR} {l : List Ob}
theorem Sep.sdv (h : Sto b w x l) : DV w x.p x.r x.s := h.get (k := 0) rfl
theorem Sep.scell (h : Sto b w x l) : IsB w x.ps 131 x.cells := h.get (k := 1) (o := cellOb x.ps 131 x.cells) rfl
theorem Sep.sch (h : Sto b w x l) : MapIs okID vID vPl w x.cm x.C := (h.get (k := 2) (o := chOb x.cm x.C) rfl).1
theorem Sep.spend (h : Sto b w x l) {id : ID} {d : BD} {bs : List UInt8} (hm : (id, Pl.pend d bs) ∈ x.C) : RB w d bs ∧ 0 < bs.length := (h.get (k := 2) (o := chOb x.cm x.C) rfl).2 id d bs hm
theorem Sep.sfl (h : Sto b w x l) : MapIs okN vN vPtr w x.fm (fL x.F) := (h.get (k := 3) (o := flOb x.fm x.F) rfl).1
theorem Sep.sfile (h : Sto b w x l) {f : FR} (hf : x.F = some f) : IsB w f.fb 145 f.cells ∧ MapIs okID vID vBl w f.sb f.T ∧ f.sb ≠ x.fm := (h.get (k := 3) (o := flOb x.fm x.F) rfl).2 f hf
end
end Go.Proofs.YteabgcollokgjaaGreatDoor
namespace Go.Proofs.YteabgcollokgjaaGreatDoor
open Go.RowKit Go.MapKept Go.ChangeMaps

section
variable {b : Nat} {w : World} {x : SR} {l : List Ob}
theorem SR.cell_at (h : Sto b w x l) (j : Nat) : w.cell? ⟨x.ps, j, none⟩ = x.cells[j]? := h.scell.cell j
set_option maxRecDepth 100000 in
theorem Pending_any (h : Sto b w x l) : Calls Tryz.prog 29 #[vPtr x.ps] w (fun e w' => e = .returned (.int .i64 x.wait) ∧ w = w') := by
  have k4 : w.cell? ⟨x.ps, 4, none⟩ = some (.int .i64 x.wait) := h.scell.cell 4
  clear h
  go_enter Tryz.func29, Tryz.ntmps29
  go_wp2_with fail
  go_ret
  exact ⟨rfl, rfl⟩
set_option maxRecDepth 100000 in
theorem Bytes_any_ (h : Sto b w x l) : Calls Tryz.prog 26 #[vPtr x.ps] w (fun e w' => e = .returned (.int .i64 x.bytes) ∧ w = w') := by
  have k5 : w.cell? ⟨x.ps, 5, none⟩ = some (.int .i64 x.bytes) := h.scell.cell 5
  clear h
  go_enter Tryz.func26, Tryz.ntmps26
  go_wp2_with fail
  go_ret
  exact ⟨rfl, rfl⟩
set_option maxRecDepth 100000 in
theorem Dead_any (h : Sto b w x l) : Calls Tryz.prog 47 #[vPtr x.ps] w (fun e w' => e = .returned (.bool x.dead) ∧ w = w') := by
  have k6 : w.cell? ⟨x.ps, 6, none⟩ = some (.bool x.dead) := h.scell.cell 6
  clear h
  go_enter Tryz.func47, Tryz.ntmps47
  go_wp2_with fail
  go_ret
  exact ⟨rfl, rfl⟩
/-- What ready returns, and leaves. -/
def readyE (x : SR) : Int := if x.dead then 335 else if x.s.dn then 303 else 0
def SR.readied (x : SR) : SR := { x with dead := x.dead || x.s.dn }
def StoPost (b : Nat) (v : Value) (x' : SR) (l : List Ob) (w : World) (e : Ending) (w' : World) : Prop := e = .returned v ∧ Sto b w' x' l ∧ Below b w w'
set_option maxRecDepth 100000 in
set_option maxHeartbeats 1000000 in
theorem ready_any (h : Sto b w x l) : Calls Tryz.prog 84 #[vPtr x.ps] w (StoPost b (.int .i64 (readyE x)) x.readied l w) := by
  have k0 : w.cell? ⟨x.ps, 0, none⟩ = some (vPtr x.p) := h.scell.cell 0
  have k6 : w.cell? ⟨x.ps, 6, none⟩ = some (.bool x.dead) := h.scell.cell 6
  have f6 : w.frozen? ⟨x.ps, 6, none⟩ = false := h.scell.frozen 6
  have H := Lib.hid h
  clear h
  obtain ⟨p, ps, cm, fm, r, s, nm, C, F, wait, bytes, dead⟩ := x
  cases dead with
  | true =>
    go_enter Tryz.func84, Tryz.ntmps84
    go_wp2_with fail
    go_ret
    exact ⟨rfl, H.out, Below.refl _ _⟩
  | false =>
    cases hd : s.dn with
    | true =>
      have Hd := Lib.hid hd
      clear hd
      go_enter Tryz.func84, Tryz.ntmps84
      go_wp2_with (go_at_call 82; refine (Down_any p r s _ H.out.sdv).mono ?_; rw [Hd.out]; rintro e w1 ⟨rfl, rfl⟩)
      go_ret
      have e1 : readyE ⟨p, ps, cm, fm, r, s, nm, C, F, wait, bytes, false⟩ = 303 := by simp [readyE, Hd.out]
      have e2 : SR.readied ⟨p, ps, cm, fm, r, s, nm, C, F, wait, bytes, false⟩ = ⟨p, ps, cm, fm, r, s, nm, C, F, wait, bytes, true⟩ := by simp [SR.readied, Hd.out]
      rw [e1, e2]
      exact ⟨rfl, H.out.setAt 1 rfl 6 (.bool true)⟩
    | false =>
      have Hd := Lib.hid hd
      clear hd
      go_enter Tryz.func84, Tryz.ntmps84
      go_wp2_with (go_at_call 82; refine (Down_any p r s _ H.out.sdv).mono ?_; rw [Hd.out]; rintro e w1 ⟨rfl, rfl⟩)
      go_ret
      have e1 : readyE ⟨p, ps, cm, fm, r, s, nm, C, F, wait, bytes, false⟩ = 0 := by simp [readyE, Hd.out]
      have e2 : SR.readied ⟨p, ps, cm, fm, r, s, nm, C, F, wait, bytes, false⟩ = ⟨p, ps, cm, fm, r, s, nm, C, F, wait, bytes, false⟩ := by simp [SR.readied, Hd.out]
      rw [e1, e2]
      exact ⟨rfl, H.out, Below.refl _ _⟩
end
end Go.Proofs.YteabgcollokgjaaGreatDoor
