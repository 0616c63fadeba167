/- Walks of laws: Flips. -/
import Derived.Test.YtddjkkmdcdiofaaLB
namespace Go.Proofs.Ytddjkkmdcdiofaa
open Go.RowKit Go.MapKept Go.ChangeMaps

theorem turn_turn (b : UInt8) (k : Nat) : turn (turn b k) k = b := by
  unfold turn
  rw [UInt8.xor_assoc, UInt8.xor_self, UInt8.xor_zero]
theorem flip_flip (bs : List UInt8) (i k : Nat) (hi : i < bs.length) : flipB (flipB bs i k) i k = bs := by
  unfold flipB
  rw [List.set_set]
  have : (bs.set i (turn (bs.getD i 0) k)).getD i 0 = turn (bs.getD i 0) k := by
    rw [List.getD_eq_getElem?_getD, List.getElem?_set_self hi]; rfl
  rw [this, turn_turn, List.getD_eq_getElem?_getD, List.getElem?_eq_getElem hi]
  exact List.set_getElem_self hi
theorem flip_len (bs : List UInt8) (i k : Nat) : (flipB bs i k).length = bs.length := by rw [flipB, List.length_set]
theorem tn1_set (a b : List UInt8) : ({ tn1 a with K := (tn1 a).K.set nA (some b) } : St) = tn1 b := by
  unfold tn1
  simp only [St.mk.injEq, and_true]
  funext m
  unfold FF.set
  split <;> rfl
theorem fl_ok (a : List UInt8) (o k : Nat) (ho : o < a.length) (hk : k < 8) : flipE (tn1 a) nA o k = 0 ∧ flipS (tn1 a) nA o k = tn1 (flipB a o k) := by
  have e : flipE (tn1 a) nA o k = 0 := by
    unfold flipE
    rw [if_pos (by decide +kernel), if_pos (by rw [tn1_now]; rfl), if_neg]
    unfold flipBad
    rw [tn1_now]
    simp only [Option.getD_some]
    rintro (h | h | h | h | h)
    · simp [tn1] at h
    all_goals omega
  refine ⟨e, ?_⟩
  rw [flipS, if_pos e, tn1_now]
  exact tn1_set a _
/-- The same without power. -/
def td1 (a : List UInt8) : St := ⟨(tn1 a).K, [], true, 0⟩
theorem td1_now (a : List UInt8) : (td1 a).now nA = some a := tn1_now a
theorem fl_bad (a : List UInt8) (o k : Int) (h : (a.length : Int) ≤ o ∨ 7 < k) : flipE (td1 a) nA o k = 304 := by
  unfold flipE
  rw [if_pos (by decide +kernel), if_pos (by rw [td1_now]; rfl), if_pos]
  unfold flipBad
  rw [td1_now]
  simp only [Option.getD_some]
  rcases h with h | h
  · exact .inr (.inr (.inl h))
  · exact .inr (.inr (.inr (.inr h)))
theorem fl_none (a : List UInt8) (o k : Int) : flipE (td1 a) nB o k = 301 := by
  have : (td1 a).now nB = none := by
    show FF.set (fun _ => none) nA (some a) nB = none
    unfold FF.set
    rw [if_neg (by decide +kernel)]
  unfold flipE
  rw [this, if_pos (by decide +kernel)]
  rfl
theorem fl_pend (s : St) (v : List UInt8) (o k : Int) (hn : s.now nA = some v) (hs : 0 < s.ops.length) : flipE s nA o k = 304 := by
  unfold flipE
  rw [if_pos (by decide +kernel), if_pos (by rw [hn]; rfl), if_pos (.inl hs)]
theorem flipS_bad {s : St} {nm : ByteArray} {o k v : Int} (h : flipE s nm o k = v) (hv : v ≠ 0) : flipS s nm o k = s := by
  rw [flipS, h, if_neg hv]
theorem lose_tn1 (a : List UInt8) : loseS (tn1 a) 0 0 = td1 a := by
  show (⟨lossF (tn1 a).cut 0 0, [], true, 0⟩ : St) = _
  rw [loss_none _ _ _ rfl]
  rfl
theorem restart_td1 (a : List UInt8) : restartS (td1 a) = tn1 a := by
  show ({ decideS (td1 a) 0 (-1) with dn := false } : St) = _
  rw [decideS, loss_none _ _ _ rfl]
  rfl
set_option maxRecDepth 100000 in
set_option maxHeartbeats 8000000 in
theorem law5 (A : Option Addr) (c : Nat) (b : List UInt8) (at0 bit0 : Int) (w : World) (h0 : SB w A b) (hl : b.length ≤ 9223372036854775807) :
    Calls Try.prog 5 #[.slice A b.length c, .int .i64 at0, .int .i64 bit0] w (Gives (.bool true) w) := by
  have H0 := Lib.hid h0
  clear h0
  by_cases hz : b.length = 0
  · obtain rfl : b = [] := List.eq_nil_of_length_eq_zero hz
    go_enter Try.func5, Try.ntmps5
    go_wp2_with fail
    go_ret
    exact ⟨rfl, Below.refl _ _⟩
  have hzb : ((b.length : Int) == 0) = false := by rw [beq_eq_false_iff_ne]; omega
  by_cases hb0 : 65536 < b.length
  · go_enter Try.func5, Try.ntmps5
    go_wp2_with fail
    go_ret
    exact ⟨rfl, Below.refl _ _⟩
  go_enter Try.func5, Try.ntmps5
  go_wp2_with fail
  refine (Fold_any at0 b.length _ (by omega)).mono ?_
  rintro e w0 ⟨x, hx, rfl, rfl⟩
  obtain ⟨o, rfl⟩ : ∃ o : Nat, x = (o : Int) := ⟨x.toNat, by have := hx.1; omega⟩
  have ho : o < b.length := by
    by_cases h1 : 1 < (b.length : Int)
    · have := hx.2.1 h1; omega
    · have := hx.2.2 (by omega); omega
  clear hx
  go_wp2_with fail
  refine (Fold_any bit0 8 _ (by omega)).mono ?_
  rintro e w0 ⟨x, hx, rfl, rfl⟩
  obtain ⟨k, rfl⟩ : ∃ k : Nat, x = (k : Int) := ⟨x.toNat, by have := hx.1; omega⟩
  have hk : k < 8 := by have := hx.2.1 (by omega); omega
  clear hx
  go_wp2_with fail
  refine (New_any _).mono ?_
  rintro e w1 ⟨rfl, hd, hb⟩
  have D_w1 : Hid (LDev w.heap.size w1 (w.heap.size + 2) St.new) := LDev.new hd hb
  have B_w1 : Hid (Below w.heap.size w w1) := (Below.refl w.heap.size w).trans (hb.mono (Below.refl w.heap.size w).size)
  clear hd hb
  go_wp2_with fail
  refine (known_any _).mono ?_
  rintro e w2 ⟨rfl, hb⟩
  have D_w2 : Hid (LDev w.heap.size w2 (w.heap.size + 2) (St.new) []) := D_w1.out.on hb
  have B_w2 : Hid (Below w.heap.size w w2) := B_w1.out.trans (hb.mono B_w1.out.size)
  clear hb
  go_wp2_with fail
  refine (Create_L nA A c b D_w2.out okA (H0.out.on_lt B_w2.out) (by decide) (by omega)).mono ?_
  rintro e w3 ⟨n, hn, he, hd, hb⟩
  obtain ⟨e1, e2⟩ := req_ok (s := St.new) (n := n) (o := ⟨.create, nA, ByteArray.empty, b, true⟩) (gate_create (nm := nA) (bs := b) rfl (by decide +kernel) (by omega) (.inr (by have := hn.uniq Cnt.none; omega))) rfl
  rw [e1] at he; rw [e2] at hd; subst he
  have D_w3 : Hid (LDev w.heap.size w3 (w.heap.size + 2) ({ (St.new : St) with ops := (St.new : St).ops ++ [⟨.create, nA, ByteArray.empty, b, true⟩] }) []) := hd
  have B_w3 : Hid (Below w.heap.size w w3) := B_w2.out.trans hb
  clear hd hb e1 e2 hn
  go_wp2_with fail
  refine (Flip_L nA o k D_w3.out okA (by simp [St.new])).mono ?_
  rintro e w4 ⟨he, hd, hb⟩
  have e1 : flipE ({ (St.new : St) with ops := (St.new : St).ops ++ [⟨.create, nA, ByteArray.empty, b, true⟩] }) nA o k = 304 := fl_pend _ b o k (by simp [St.now, St.new, applyF, FF.set]) (by simp [St.new])
  rw [e1] at he; rw [flipS_bad e1 (by decide)] at hd; clear e1
  subst he
  have D_w4 : Hid (LDev w.heap.size w4 (w.heap.size + 2) ({ (St.new : St) with ops := (St.new : St).ops ++ [⟨.create, nA, ByteArray.empty, b, true⟩] }) []) := hd
  have B_w4 : Hid (Below w.heap.size w w4) := B_w3.out.trans hb
  clear hd hb
  go_wp2_with fail
  refine (Sync_L D_w4.out (by simp [St.new])).mono ?_
  rintro e w5 ⟨he, hd, hb⟩
  rw [show syncE _ = 0 from rfl] at he
  subst he
  have D_w5 : Hid (LDev w.heap.size w5 (w.heap.size + 2) (tn1 b) []) := hd
  have B_w5 : Hid (Below w.heap.size w w5) := B_w4.out.trans hb
  clear hd hb
  go_wp2_with fail
  refine (Flip_L nA o k D_w5.out okA (by simp [tn1])).mono ?_
  rintro e w6 ⟨he, hd, hb⟩
  rw [(fl_ok b o k ho hk).1] at he; rw [(fl_ok b o k ho hk).2] at hd
  subst he
  have D_w6 : Hid (LDev w.heap.size w6 (w.heap.size + 2) (tn1 (flipB b o k)) []) := hd
  have B_w6 : Hid (Below w.heap.size w w6) := B_w5.out.trans hb
  clear hd hb
  go_wp2_with fail
  refine (Lose_L 0 0 D_w6.out (by simp [tn1]) (by omega)).mono ?_
  rintro e w7 ⟨he, hd, hb⟩
  rw [lose_tn1] at hd
  subst he
  have D_w7 : Hid (LDev w.heap.size w7 (w.heap.size + 2) (td1 (flipB b o k)) []) := hd
  have B_w7 : Hid (Below w.heap.size w w7) := B_w6.out.trans hb
  clear hd hb
  go_wp2_with fail
  refine (Flip_L nA (b.length : Int) 0 D_w7.out okA (by simp [td1])).mono ?_
  rintro e w8 ⟨he, hd, hb⟩
  have e1 := fl_bad (flipB b o k) (b.length : Int) 0 (.inl (by rw [flip_len]; omega))
  rw [e1] at he; rw [flipS_bad e1 (by decide)] at hd; clear e1
  subst he
  have D_w8 : Hid (LDev w.heap.size w8 (w.heap.size + 2) (td1 (flipB b o k)) []) := hd
  have B_w8 : Hid (Below w.heap.size w w8) := B_w7.out.trans hb
  clear hd hb
  go_wp2_with fail
  refine (Flip_L nA o 8 D_w8.out okA (by simp [td1])).mono ?_
  rintro e w9 ⟨he, hd, hb⟩
  have e1 := fl_bad (flipB b o k) o 8 (.inr (by decide))
  rw [e1] at he; rw [flipS_bad e1 (by decide)] at hd; clear e1
  subst he
  have D_w9 : Hid (LDev w.heap.size w9 (w.heap.size + 2) (td1 (flipB b o k)) []) := hd
  have B_w9 : Hid (Below w.heap.size w w9) := B_w8.out.trans hb
  clear hd hb
  go_wp2_with fail
  refine (Flip_L nB 0 0 D_w9.out okB (by simp [td1])).mono ?_
  rintro e w10 ⟨he, hd, hb⟩
  have e1 := fl_none (flipB b o k) 0 0
  rw [e1] at he; rw [flipS_bad e1 (by decide)] at hd; clear e1
  subst he
  have D_w10 : Hid (LDev w.heap.size w10 (w.heap.size + 2) (td1 (flipB b o k)) []) := hd
  have B_w10 : Hid (Below w.heap.size w w10) := B_w9.out.trans hb
  clear hd hb
  go_wp2_with fail
  refine (Restart_L D_w10.out (by simp [td1])).mono ?_
  rintro e w11 ⟨he, hd, hb⟩
  rw [restart_td1] at hd
  subst he
  have D_w11 : Hid (LDev w.heap.size w11 (w.heap.size + 2) (tn1 (flipB b o k)) []) := hd
  have B_w11 : Hid (Below w.heap.size w w11) := B_w10.out.trans hb
  clear hd hb
  go_wp2_with fail
  refine (Read_L nA D_w11.out okA).mono ?_
  rintro e w12 ⟨dra, he, hr, _, hb⟩
  rw [(readE_ok (s := tn1 (flipB b o k)) (nm := nA) (v := flipB b o k) rfl (by decide +kernel) (tn1_now _)).1] at he; rw [(readE_ok (s := tn1 (flipB b o k)) (nm := nA) (v := flipB b o k) rfl (by decide +kernel) (tn1_now _)).2] at hr; subst he
  have ra_w12 : Hid (RB w12 dra (flipB b o k)) := hr
  have D_w12 : Hid (LDev w.heap.size w12 (w.heap.size + 2) (tn1 (flipB b o k)) []) := D_w11.out.on hb
  have B_w12 : Hid (Below w.heap.size w w12) := B_w11.out.trans (hb.mono B_w11.out.size)
  clear hr hb
  unfold vB
  go_wp2_with fail
  have HJ : Calls Try.prog 16 #[.slice (some ⟨w12.heap.size, 0, none⟩) 1 1] (w12.alloc (.cells #[.slice A b.length c] 22)) (NewB b (w12.alloc (.cells #[.slice A b.length c] 22))) := by
    have := Joined_any w12.heap.size 1 [⟨A, c, b⟩] (w12.alloc (.cells #[.slice A b.length c] 22)) (by simp) (one_cells w12 ⟨A, c, b⟩ (H0.out.on_lt B_w12.out)) (by simp) (by simp [cat]; omega)
    have ec : cat [⟨A, c, b⟩] = b := by simp [cat]
    rw [ec] at this
    exact this
  refine HJ.mono ?_
  rintro e w13 ⟨⟨dA, dn, dc⟩, rfl, hr, hf, hb⟩
  have hf0 : ∀ g, blk ⟨dA, dn, dc⟩ = some g → w12.heap.size ≤ g := fun g hg => Nat.le_trans (by simp) (hf g hg)
  have D_w13 : Hid (LDev w.heap.size w13 (w.heap.size + 2) (tn1 (flipB b o k)) []) := (D_w12.out.on (bel1 _ _)).on hb
  have ra_w13 : Hid (RB w13 dra (flipB b o k)) := (ra_w12.out.on (bel1 _ _)).on hb
  have B_w13 : Hid (Below w.heap.size w w13) := (bAl B_w12.out _).trans (hb.mono (bAl B_w12.out _).size)
  obtain rfl : b.length = dn := hr.1
  obtain ⟨g, cur, hga, hgb, hgc, hgd⟩ : ∃ g cur, dA = some ⟨g, 0, none⟩ ∧ IsB w13 g 5 cur ∧ dc ≤ cur.size ∧ ∀ (j : Nat) (u : Value), (b.map encU)[j]? = some u → cur[j]? = some u := by
    cases hA : dA with
    | none => have := hr.2.2.1 hA; have := hr.2.1; simp only at *; omega
    | some ad =>
      obtain ⟨g, cur, rfl, h1, h2, h3⟩ := hr.2.2.2 ad hA
      exact ⟨g, cur, rfl, h1, h2, h3⟩
  subst hga
  have hgf : w12.heap.size ≤ g := hf0 g rfl
  have q0 : w13.cell? ⟨g, o, none⟩ = some (.int .u8 (((b.getD o 0).toNat : Nat) : Int)) := by
    rw [hgb.cell, hgd o (encU (b.getD o 0)) (by rw [List.getElem?_map, List.getD_eq_getElem?_getD, List.getElem?_eq_getElem ho]; rfl)]
    rfl
  have q1 : w13.frozen? ⟨g, o, none⟩ = false := hgb.frozen o
  have R_w13 := Lib.hid hr
  have HB0 : Hid (Below w12.heap.size w12 w13) := (bel1 _ _).trans (hb.mono (by simp))
  clear HJ hr hf hf0 hb hgb hgc hgd
  unfold vB
  go_wp2_with fail
  go_region
  have hge : b.getD o 0 = b[o] := by rw [List.getD_eq_getElem?_getD, List.getElem?_eq_getElem ho]; rfl
  have hw : (bits .xor .u8 ((b[o].toNat : Nat) : Int) (2 ^ k % 256)) = (((turn (b.getD o 0) k).toNat : Nat) : Int) := by rw [hge]; exact turn_bits' b[o] k hk
  rw [hw]
  obtain ⟨wX, hwX⟩ : ∃ wX, wX = (w13.setCell ⟨g, o, none⟩ (.int .u8 (((turn (b.getD o 0) k).toNat : Nat) : Int))).drew := ⟨_, rfl⟩
  rw [← hwX]
  have hbX : Below w12.heap.size w12 wX := by rw [hwX]; exact bel_drew (HB0.out.setCell hgf _)
  have J_wX : Hid (RB wX ⟨some ⟨g, 0, none⟩, b.length, dc⟩ (flipB b o k)) := by rw [hwX]; exact R_w13.out.flip o k ho
  have D_wX : Hid (LDev w.heap.size wX (w.heap.size + 2) (tn1 (flipB b o k)) []) := D_w12.out.on hbX
  have ra_wX : Hid (RB wX dra (flipB b o k)) := ra_w12.out.on hbX
  have B_wX : Hid (Below w.heap.size w wX) := B_w12.out.trans (hbX.mono B_w12.out.size)
  clear hw hge hwX hbX q0 q1
  have v1 := conv_rb ra_wX.out
  have v2 := conv_rb J_wX.out
  go_wp2_with fail
  refine (Flip_L nA o k D_wX.out okA (by simp [tn1])).mono ?_
  rintro e w14 ⟨he, hd, hb⟩
  rw [(fl_ok _ o k (by rw [flip_len]; exact ho) hk).1] at he; rw [(fl_ok _ o k (by rw [flip_len]; exact ho) hk).2, flip_flip b o k ho] at hd
  subst he
  have D_w14 : Hid (LDev w.heap.size w14 (w.heap.size + 2) (tn1 b) []) := hd
  have B_w14 : Hid (Below w.heap.size w w14) := B_wX.out.trans hb
  clear hd hb
  clear v1 v2
  go_wp2_with fail
  refine (Read_L nA D_w14.out okA).mono ?_
  rintro e w15 ⟨drc, he, hr, _, hb⟩
  rw [(readE_ok (s := tn1 b) (nm := nA) (v := b) rfl (by decide +kernel) (tn1_now _)).1] at he; rw [(readE_ok (s := tn1 b) (nm := nA) (v := b) rfl (by decide +kernel) (tn1_now _)).2] at hr; subst he
  have rc_w15 : Hid (RB w15 drc (b)) := hr
  have D_w15 : Hid (LDev w.heap.size w15 (w.heap.size + 2) (tn1 b) []) := D_w14.out.on hb
  have B_w15 : Hid (Below w.heap.size w w15) := B_w14.out.trans (hb.mono B_w14.out.size)
  clear hr hb
  unfold vB
  have v3 := conv_rb rc_w15.out
  have v4 := conv_str (H0.out.on_lt B_w15.out) c
  go_wp2_with fail
  go_ret
  exact ⟨rfl, B_w15.out⟩
theorem law5F (A : Option Addr) (len c : Nat) (b : List UInt8) (e : b.length = len) (at0 bit0 : Int) (w : World) (h0 : SB w A b) (hl : len ≤ 9223372036854775807) :
    Calls Try.prog 5 #[.slice A len c, .int .i64 at0, .int .i64 bit0] w (Gives (.bool true) w) := by
  subst e
  exact law5 A c b at0 bit0 w h0 hl
end Go.Proofs.Ytddjkkmdcdiofaa
