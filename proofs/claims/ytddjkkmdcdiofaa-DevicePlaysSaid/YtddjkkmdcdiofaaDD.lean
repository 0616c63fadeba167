/- Contracts: Flip. -/
import Derived.Test.YtddjkkmdcdiofaaDC
import Derived.Outline
namespace Go.Proofs.Ytddjkkmdcdiofaa
open Go.RowKit Go.MapKept Go.ChangeMaps

/-- A byte with a bit turned. -/
def turn (b : UInt8) (k : Nat) : UInt8 := b ^^^ (UInt8.ofNat (2 ^ k))
def flipB (bs : List UInt8) (i k : Nat) : List UInt8 := bs.set i (turn (bs.getD i 0) k)
def flipBad (s : St) (nm : ByteArray) (off bit : Int) : Prop := 0 < s.ops.length ∨ off < 0 ∨ (((s.now nm).getD []).length : Int) ≤ off ∨ bit < 0 ∨ 7 < bit
instance (s : St) (nm : ByteArray) (off bit : Int) : Decidable (flipBad s nm off bit) := by unfold flipBad; exact inferInstance
def flipE (s : St) (nm : ByteArray) (off bit : Int) : Int := if nameB nm then (if (s.now nm).isSome then (if flipBad s nm off bit then 304 else 0) else 301) else 300
def flipS (s : St) (nm : ByteArray) (off bit : Int) : St := if flipE s nm off bit = 0 then { s with K := s.K.set nm (some (flipB ((s.now nm).getD []) off.toNat bit.toNat)) } else s
theorem look_ok_some {w : World} {b : Nat} {E : Files} (h : FM w b E) {nm : ByteArray} (hn : okS nm) {v : En} (hv : asc E nm = some v) : (Instr.lookup 78 (.map (some b)) (.string nm) true).run Try.prog w = .ok (.tuple #[.slice v.1.A v.1.len v.1.cap, .bool true]) w := by
  have := MapIs.look mkS Try.underlying78 (zero22 _) h.1 hn true
  rw [show (Value.string nm) = kS nm from rfl, this, hv]
  rfl
theorem look_ok_none {w : World} {b : Nat} {E : Files} (h : FM w b E) {nm : ByteArray} (hn : okS nm) (hv : asc E nm = none) : (Instr.lookup 78 (.map (some b)) (.string nm) true).run Try.prog w = .ok (.tuple #[.slice none 0 0, .bool false]) w := by
  have := MapIs.look mkS Try.underlying78 (zero22 _) h.1 hn true
  rw [show (Value.string nm) = kS nm from rfl, this, hv]
  rfl
theorem setL_mem {E : Files} {nm : ByteArray} {v : En} (hn : (E.map (·.1)).Nodup) {e : ByteArray × En} (he : e ∈ setL E nm v) : e = (nm, v) ∨ (e ∈ E ∧ e.1 ≠ nm) := by
  induction E with
  | nil => simp [setL] at he; exact .inl he
  | cons c E ih =>
    simp only [List.map_cons, List.nodup_cons] at hn
    rw [setL] at he
    split at he
    · rename_i ec
      rcases List.mem_cons.1 he with h | h
      · exact .inl h
      · exact .inr ⟨List.mem_cons_of_mem _ h, fun e2 => hn.1 (by rw [ec, ← e2]; exact List.mem_map.2 ⟨e, h, rfl⟩)⟩
    · rename_i ec
      rcases List.mem_cons.1 he with h | h
      · subst h; exact .inr ⟨List.mem_cons_self, ec⟩
      · rcases ih hn.2 h with h2 | ⟨h2, h3⟩
        · exact .inl h2
        · exact .inr ⟨List.mem_cons_of_mem _ h2, h3⟩
theorem DV.flip {w w3 w4 w5 : World} {p : Nat} {r : Rp} {s : St} (H : DV w p r s) (hL : r.L = []) (hb : Below w.heap.size w w3) {nm : ByteArray} {d : BD} {bs : List UInt8} (hd : RB w3 d bs) (hf : ∀ g, blk d = some g → w.heap.size ≤ g)
    (hm4 : MapIs okS kS vE w4 r.nb (setL r.EN nm (d, bs))) (hg4 : w3.grownBy w4 (some r.nb)) (hm5 : MapIs okS kS vE w5 r.kb (setL r.EK nm (d, bs))) (hg5 : w4.grownBy w5 (some r.kb)) (hl : bs.length ≤ 4194304) (hs : (s.now nm).isSome = true) :
    ∃ r', DV w5 p r' { s with K := s.K.set nm (some bs) } ∧ Step w w5 p r r' := by
  have D3 := H.on hb
  have hops : s.ops = [] := by rw [← H.dev.sO, hL]; rfl
  have hnow : s.now = s.K := by rw [St.now, hops]; rfl
  have F4 : FM w4 r.nb (setL r.EN nm (d, bs)) := D3.dev.now.set_ hm4 hg4 hd (fun c hc _ g h1 h2 => by
    have := (H.dev.now.2.1 c hc).lt h1
    have := hf g h2
    omega)
  have K4 : FM w4 r.kb r.EK := D3.dev.kept.kept (hg4.block _ D3.dev.kept.1.lt (fun e => H.dev.two (by injection e))) (fun e he hr => hr.grown hg4 (RB.ne_map D3.dev.now.1 hr))
  have hd4 : RB w4 d bs := hd.grown hg4 (RB.ne_map D3.dev.now.1 hd)
  have F5 : FM w5 r.kb (setL r.EK nm (d, bs)) := K4.set_ hm5 hg5 hd4 (fun c hc _ g h1 h2 => by
    have := (H.dev.kept.2.1 c hc).lt h1
    have := hf g h2
    omega)
  have N5 : FM w5 r.nb (setL r.EN nm (d, bs)) := F4.kept (hg5.block _ F4.1.lt (fun e => H.dev.two (by injection e with e; exact e.symm))) (fun e he hr => hr.grown hg5 (RB.ne_map K4.1 hr))
  have C4 := D3.dev.cells.grown hg4 (fun e => is_map D3.dev.now.1 (by injection e with e; rw [← e]; exact D3.dev.cells))
  have C5 := C4.grown hg5 (fun e => is_map K4.1 (by injection e with e; rw [← e]; exact C4))
  have rooms' : ∀ q ∈ rooms (setL r.EN nm (d, bs)), (w.heap.size ≤ q.1 ∧ blk d = some q.1 ∧ q.2 = d.len) ∨ q ∈ rooms r.EN := fun q hq => by
    obtain ⟨e, he, h1, h2, h3⟩ := mem_rooms.1 hq
    rcases setL_mem H.dev.now.1.nodup he with rfl | ⟨he, _⟩
    · exact .inl ⟨hf _ h1, h1, h2⟩
    · exact .inr (mem_rooms.2 ⟨e, he, h1, h2, h3⟩)
  have hsK : (s.K nm).isSome = true := by rw [← hnow]; exact hs
  refine ⟨{ r with EK := setL r.EK nm (d, bs), EN := setL r.EN nm (d, bs) }, ⟨?_, ⟨H.ok.f0, H.ok.f1, fun k => ?_, H.ok.ops⟩⟩, ⟨?_, fun i hi => .inl hi, fun q hq => ?_, fun d' hd' => .inr ?_⟩⟩
  · have key : ∀ (E : Files) (n : ByteArray), (∀ n, asc (plain E) n = s.K n) → asc (plain (setL E nm (d, bs))) n = (s.K.set nm (some bs)) n := fun E n h => by
      rw [plain_setL, asc_setL, h n]
      rfl
    exact {
      cells := C5
      kept := F5
      now := N5
      two := H.dev.two
      pend := own_ch (own_ch D3.dev.pend (grown_ch hg4 []) (fun i hi => ⟨fun e => by
          obtain ⟨cur, hcur⟩ := row_is D3.dev.pend hi
          exact is_map D3.dev.now.1 (by rw [← e]; exact hcur), by simp⟩)) (grown_ch hg5 []) (fun i hi => ⟨fun e => by
          obtain ⟨cur, hcur⟩ := row_is D3.dev.pend hi
          exact is_map D3.dev.kept.1 (by rw [← e]; exact hcur), by simp⟩)
      ops := by rw [hL]; simp
      safe := fun e he q hq hbe => by
        rcases rooms' q hq with ⟨h1, h2, h3⟩ | h1
        · rcases setL_mem H.dev.kept.1.nodup he with rfl | ⟨he, _⟩
          · exact Nat.le_of_eq h3.symm
          · have := (H.dev.kept.2.1 e he).lt hbe
            omega
        · rcases setL_mem H.dev.kept.1.nodup he with rfl | ⟨he, _⟩
          · obtain ⟨cur, hcur⟩ := rooms_byte H.dev.now h1
            have := hcur.lt
            have := hf _ hbe
            omega
          · exact H.dev.safe e he q h1 hbe
      sK := fun n => key r.EK n H.dev.sK
      sO := by rw [hL]; exact hops.symm
      sN := fun n => by
        have : St.now { s with K := s.K.set nm (some bs) } = s.K.set nm (some bs) := by simp [St.now, hops]
        rw [this]
        exact key r.EN n (fun m => by rw [H.dev.sN, hnow]) }
  · rw [hops]
    simp only [List.take_nil, List.foldl_nil]
    exact H.ok.kept.set nm bs hl (.inl hsK)
  · refine Ch.then (w1 := w3) (Ch.below hb _ _) (Ch.then (w1 := w4) ?_ ?_)
    · exact (grown_ch hg4 _).wider (fun i e => .inr (.inr (.inl e)))
    · exact (grown_ch hg5 _).wider (fun i e => .inr (.inl e))
  · rcases rooms' q hq with ⟨h1, _⟩ | h1
    · exact .inl h1
    · exact .inr ⟨q, h1, rfl, Nat.le_refl _⟩
  · rcases hd' with ⟨e, he, rfl⟩ | ⟨e, he, rfl⟩ | h
    · rcases setL_mem H.dev.kept.1.nodup he with rfl | ⟨he, _⟩
      · exact .inl hf
      · exact From.old (.inl ⟨e, he, rfl⟩)
    · rcases setL_mem H.dev.now.1.nodup he with rfl | ⟨he, _⟩
      · exact .inl hf
      · exact From.old (.inr (.inl ⟨e, he, rfl⟩))
    · exact From.old (.inr (.inr h))
theorem RB.flip {w : World} {g n c : Nat} {bs : List UInt8} (h : RB w ⟨some ⟨g, 0, none⟩, n, c⟩ bs) (o k : Nat) (ho : o < bs.length) : RB (w.setCell ⟨g, o, none⟩ (.int .u8 (((turn (bs.getD o 0) k).toNat : Nat) : Int))).drew ⟨some ⟨g, 0, none⟩, n, c⟩ (flipB bs o k) := by
  obtain ⟨h1, h2, h3, h4⟩ := h
  obtain ⟨g', cur, e, hb, hs, hc⟩ := h4 _ rfl
  obtain rfl : g = g' := by injection e
  refine ⟨by rw [flipB, List.length_set]; exact h1, h2, h3, fun ad e => ?_⟩
  injection e with e
  subst e
  refine ⟨g, _, rfl, (hb.set_ o _).on_drew, by rw [Array.size_setIfInBounds]; exact hs, fun j u hu => ?_⟩
  rw [flipB, List.map_set] at hu
  by_cases hj : o = j
  · subst hj
    have hlt : o < cur.size := by simp only at h1 h2 hs; omega
    rw [List.getElem?_set_self (by simpa using ho)] at hu
    rw [Array.getElem?_setIfInBounds_self_of_lt hlt]
    exact hu
  · rw [List.getElem?_set_ne hj] at hu
    rw [Array.getElem?_setIfInBounds_ne hj]
    exact hc j u hu
theorem turn_bits (b : UInt8) (k : Nat) (hk : k < 8) : bits .xor .u8 ((b.toNat : Nat) : Int) ((2 ^ k : Nat) : Int) = (((turn b k).toNat : Nat) : Int) := by
  have key : ∀ b : Fin 256, ∀ k : Fin 8, bits .xor .u8 ((b.val : Nat) : Int) ((2 ^ k.val : Nat) : Int) = (((turn (UInt8.ofNat b.val) k.val).toNat : Nat) : Int) := by decide +kernel
  have := key ⟨b.toNat, b.toNat_lt⟩ ⟨k, hk⟩
  simpa using this
theorem turn_bits' (b : UInt8) (k : Nat) (hk : k < 8) : bits .xor .u8 ((b.toNat : Nat) : Int) (2 ^ k % 256) = (((turn b k).toNat : Nat) : Int) := by
  rw [← turn_bits b k hk]
  congr 1
  rcases (by omega : k = 0 ∨ k = 1 ∨ k = 2 ∨ k = 3 ∨ k = 4 ∨ k = 5 ∨ k = 6 ∨ k = 7) with rfl | rfl | rfl | rfl | rfl | rfl | rfl | rfl <;> decide
set_option maxRecDepth 100000 in
set_option maxHeartbeats 4000000 in
theorem Flip_any (p : Nat) (r : Rp) (s : St) (nm : ByteArray) (off bit : Int) (w : World) (h : DV w p r s) (hn : okS nm) (hL : s.ops.length ≤ 1000000) : Calls Try.prog 28 #[.pointer (some ⟨p, 0, none⟩), .string nm, .int .i64 off, .int .i64 bit] w (Goes p r (flipS s nm off bit) (.int .i64 (flipE s nm off bit)) w) := by
  have H := Lib.hid h
  have Hn := Lib.hid hn
  have HO : Hid (r.L.length = s.ops.length) := by rw [Hid, ← h.dev.sO, List.length_map]
  have hL2 : r.L.length ≤ 1000000 := by rw [HO.out]; exact hL
  have hplt := h.dev.cells.lt
  have k0 : w.cell? ⟨p, 0, none⟩ = some (.map (some r.kb)) := (h.dev.cells.cell 0).trans rfl
  have k1 : w.cell? ⟨p, 1, none⟩ = some (.map (some r.nb)) := (h.dev.cells.cell 1).trans rfl
  have k2 : w.cell? ⟨p, 2, none⟩ = some (.slice r.A r.L.length r.c) := (h.dev.cells.cell 2).trans rfl
  have bad : ∀ v : Int, v ≠ 0 → flipE s nm off bit = v → Goes p r (flipS s nm off bit) (.int .i64 (flipE s nm off bit)) w (.returned (.int .i64 v)) w := fun v hv he => by
    rw [flipS, he, if_neg hv]
    exact ⟨rfl, r, H.out, Step.same (Below.refl _ _)⟩
  have Bad := Lib.hid bad
  clear h hn hL bad
  cases hnb : nameB nm with
  | false =>
    have E : Hid (flipE s nm off bit = 300) := by simp [Hid, flipE, hnb]
    have Hnb := Lib.hid hnb
    clear hnb
    go_enter Try.func28, Try.ntmps28
    go_wp2_with (go_at_call 55; refine (validName_any nm _ Hn.out).mono ?_; rw [Hnb.out]; rintro e w3 ⟨rfl, rfl⟩)
    go_ret
    exact Bad.out _ (by decide) E.out
  | true =>
    have Hnb := Lib.hid hnb
    clear hnb
    cases hv : asc r.EN nm with
    | none =>
      have E : Hid (flipE s nm off bit = 301) := by
        have := H.out.dev.has nm
        rw [hv] at this
        simp [Hid, flipE, Hnb.out, ← this]
      have hlook := look_ok_none H.out.dev.now Hn.out hv
      clear hv
      go_enter Try.func28, Try.ntmps28
      go_wp2_with (go_at_call 55; refine (validName_any nm _ Hn.out).mono ?_; rw [Hnb.out]; rintro e w3 ⟨rfl, rfl⟩)
      go_ret
      exact Bad.out _ (by decide) E.out
    | some v =>
      have HN : Hid (s.now nm = some v.2) := H.out.dev.at_ hv
      have HR : Hid (RB w v.1 v.2) := H.out.dev.now.at_ hv
      have hlook := look_ok_some H.out.dev.now Hn.out hv
      have hvl : v.2.length ≤ 4194304 := by
        have := H.out.ok.now.len nm
        rw [HN.out] at this
        exact this
      have HV := Lib.hid hv
      clear hv
      obtain ⟨⟨A, n, c⟩, bs⟩ := v
      obtain rfl : bs.length = n := HR.out.1
      simp only at hlook hvl
      have E : Hid (flipE s nm off bit = if 0 < r.L.length ∨ off < 0 ∨ (bs.length : Int) ≤ off ∨ bit < 0 ∨ 7 < bit then 304 else 0) := by
        have : flipBad s nm off bit ↔ (0 < r.L.length ∨ off < 0 ∨ (bs.length : Int) ≤ off ∨ bit < 0 ∨ 7 < bit) := by
          unfold flipBad
          rw [HN.out, HO.out]
          rfl
        simp only [Hid, flipE, Hnb.out, HN.out, Option.isSome_some, if_true, this]
      by_cases a1 : 0 < r.L.length
      · skip
        have E2 : Hid (flipE s nm off bit = 304) := by rw [Hid, E.out, if_pos (by omega)]
        go_enter Try.func28, Try.ntmps28
        go_wp2_with (go_at_call 55; refine (validName_any nm _ Hn.out).mono ?_; rw [Hnb.out]; rintro e w3 ⟨rfl, rfl⟩)
        go_ret
        exact Bad.out _ (by decide) E2.out
      have HL : Hid (r.L = []) := List.eq_nil_of_length_eq_zero (by omega)
      rw [show r.L.length = 0 by omega] at k2 E
      clear a1 HO hL2
      by_cases a2 : off < 0
      · skip
        have E2 : Hid (flipE s nm off bit = 304) := by rw [Hid, E.out, if_pos (by omega)]
        go_enter Try.func28, Try.ntmps28
        go_wp2_with (go_at_call 55; refine (validName_any nm _ Hn.out).mono ?_; rw [Hnb.out]; rintro e w3 ⟨rfl, rfl⟩)
        go_ret
        exact Bad.out _ (by decide) E2.out
      by_cases a3 : (bs.length : Int) ≤ off
      · skip
        have E2 : Hid (flipE s nm off bit = 304) := by rw [Hid, E.out, if_pos (by omega)]
        go_enter Try.func28, Try.ntmps28
        go_wp2_with (go_at_call 55; refine (validName_any nm _ Hn.out).mono ?_; rw [Hnb.out]; rintro e w3 ⟨rfl, rfl⟩)
        go_ret
        exact Bad.out _ (by decide) E2.out
      by_cases a4 : bit < 0
      · skip
        have E2 : Hid (flipE s nm off bit = 304) := by rw [Hid, E.out, if_pos (by omega)]
        go_enter Try.func28, Try.ntmps28
        go_wp2_with (go_at_call 55; refine (validName_any nm _ Hn.out).mono ?_; rw [Hnb.out]; rintro e w3 ⟨rfl, rfl⟩)
        go_ret
        exact Bad.out _ (by decide) E2.out
      by_cases a5 : 7 < bit
      · skip
        have E2 : Hid (flipE s nm off bit = 304) := by rw [Hid, E.out, if_pos (by omega)]
        go_enter Try.func28, Try.ntmps28
        go_wp2_with (go_at_call 55; refine (validName_any nm _ Hn.out).mono ?_; rw [Hnb.out]; rintro e w3 ⟨rfl, rfl⟩)
        go_ret
        exact Bad.out _ (by decide) E2.out
      obtain ⟨o, rfl⟩ : ∃ o : Nat, off = (o : Int) := ⟨off.toNat, by omega⟩
      obtain ⟨k, rfl⟩ : ∃ k : Nat, bit = (k : Int) := ⟨bit.toNat, by omega⟩
      have hk : k < 8 := by omega
      have ho : o < bs.length := by omega
      have E2 : Hid (flipE s nm o k = 0) := by rw [Hid, E.out, if_neg (by omega)]
      clear E Bad a2 a3 a4 a5
      go_enter Try.func28, Try.ntmps28
      go_wp2_with (first
        | (go_at_call 55; refine (validName_any nm _ Hn.out).mono ?_; rw [Hnb.out]; rintro e w3 ⟨rfl, rfl⟩)
        | (go_at_call 50; refine halt_ ?_))
      refine (CloneB_any A c bs _ HR.out.src (by omega)).mono ?_
      rintro e w2 ⟨⟨dA, dn, dc⟩, rfl, hr2, hf2, hb2⟩
      obtain rfl : bs.length = dn := hr2.1
      obtain ⟨g, cur, hga, hgb, hgc, hgd⟩ : ∃ g cur, dA = some ⟨g, 0, none⟩ ∧ IsB w2 g 5 cur ∧ dc ≤ cur.size ∧ ∀ (j : Nat) (u : Value), (bs.map encU)[j]? = some u → cur[j]? = some u := by
        cases hA : dA with
        | none => have := hr2.2.2.1 hA; have := hr2.2.1; simp only at *; omega
        | some ad =>
          obtain ⟨g, cur, rfl, h1, h2, h3⟩ := hr2.2.2.2 ad hA
          exact ⟨g, cur, rfl, h1, h2, h3⟩
      subst hga
      have hgf : w.heap.size ≤ g := hf2 g rfl
      have q0 : w2.cell? ⟨g, o, none⟩ = some (.int .u8 (((bs.getD o 0).toNat : Nat) : Int)) := by
        rw [hgb.cell, hgd o (encU (bs.getD o 0)) (by rw [List.getElem?_map, List.getD_eq_getElem?_getD, List.getElem?_eq_getElem ho]; rfl)]
        rfl
      have q1 : w2.frozen? ⟨g, o, none⟩ = false := hgb.frozen o
      have R2 := Lib.hid hr2
      have F2 := Lib.hid hf2
      have B2 := Lib.hid hb2
      have GB := Lib.hid hgb
      have k0' : w2.cell? ⟨p, 0, none⟩ = some (.map (some r.kb)) := ((H.out.on hb2).dev.cells.cell 0).trans rfl
      have k1' : w2.cell? ⟨p, 1, none⟩ = some (.map (some r.nb)) := ((H.out.on hb2).dev.cells.cell 1).trans rfl
      clear hr2 hf2 hb2 hgb hgd
      unfold vB
      go_wp2_with fail
      go_region
      have hge : bs.getD o 0 = bs[o] := by rw [List.getD_eq_getElem?_getD, List.getElem?_eq_getElem ho]; rfl
      have hw : (bits .xor .u8 ((bs[o].toNat : Nat) : Int) (2 ^ k % 256)) = (((turn (bs.getD o 0) k).toNat : Nat) : Int) := by rw [hge]; exact turn_bits' bs[o] k hk
      rw [hw]
      obtain ⟨w3, hw3⟩ : ∃ w3, w3 = (w2.setCell ⟨g, o, none⟩ (.int .u8 (((turn (bs.getD o 0) k).toNat : Nat) : Int))).drew := ⟨_, rfl⟩
      rw [← hw3]
      have hr3 : RB w3 ⟨some ⟨g, 0, none⟩, bs.length, dc⟩ (flipB bs o k) := by rw [hw3]; exact R2.out.flip o k ho
      have hb3 : Below w.heap.size w w3 := by rw [hw3]; exact bel_drew (B2.out.setCell hgf _)
      have D3 : Hid (DV w3 p r s) := H.out.on hb3
      obtain ⟨w4, hu4, hm4, hg4, hz4⟩ := MapIs.update mkS Try.underlying78 D3.out.dev.now.1 Hn.out (⟨some ⟨g, 0, none⟩, bs.length, dc⟩, flipB bs o k)
      have hu4' : (Instr.mapUpdate 78 (.map (some r.nb)) (.string nm) (.slice (some ⟨g, 0, none⟩) bs.length dc)).run Try.prog w3 = .ok () w4 := hu4
      have K4 : MapIs okS kS vE w4 r.kb r.EK := D3.out.dev.kept.1.kept hg4 (fun e => H.out.dev.two (by injection e))
      obtain ⟨w5, hu5, hm5, hg5, hz5⟩ := MapIs.update mkS Try.underlying78 K4 Hn.out (⟨some ⟨g, 0, none⟩, bs.length, dc⟩, flipB bs o k)
      have hu5' : (Instr.mapUpdate 78 (.map (some r.kb)) (.string nm) (.slice (some ⟨g, 0, none⟩) bs.length dc)).run Try.prog w4 = .ok () w5 := hu5
      have C4 : IsB w4 p 81 (vD (.map (some r.kb)) (.map (some r.nb)) r.row s.dn s.f) := D3.out.dev.cells.grown hg4 (fun e => is_map D3.out.dev.now.1 (by injection e with e; rw [← e]; exact D3.out.dev.cells))
      have y1 : w3.cell? ⟨p, 1, none⟩ = some (.map (some r.nb)) := (D3.out.dev.cells.cell 1).trans rfl
      have y0 : w4.cell? ⟨p, 0, none⟩ = some (.map (some r.kb)) := (C4.cell 0).trans rfl
      have FIN : Hid (Goes p r (flipS s nm o k) (.int .i64 (flipE s nm o k)) w (.returned (.int .i64 0)) w5) := by
        obtain ⟨r', h1, h2⟩ := H.out.flip HL.out hb3 hr3 F2.out hm4 hg4 hm5 hg5 (by rw [flipB, List.length_set]; exact hvl) (by rw [HN.out]; rfl)
        rw [Hid, flipS, E2.out, if_pos rfl, HN.out]
        exact ⟨rfl, r', h1, h2⟩
      clear hw hge hw3 hr3 hb3 hu4 hm4 hg4 hz4 K4 hu5 hm5 hg5 hz5 C4 q0 q1 k0 k1 k2 k0' k1'
      go_wp2_with fail
      go_ret
      exact FIN.out
end Go.Proofs.Ytddjkkmdcdiofaa
