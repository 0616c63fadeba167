/- Contracts: known. -/
import Derived.Test.YtddjkkmdcdiofaaDE
import Derived.Outline
namespace Go.Proofs.Ytddjkkmdcdiofaa
open Go.RowKit Go.MapKept Go.ChangeMaps

abbrev nA : ByteArray := ⟨#[97]⟩
abbrev nB : ByteArray := ⟨#[98]⟩
theorem okA : okS nA := by simp [okS, maxLen, ByteArray.size]
theorem okB : okS nB := by simp [okS, maxLen, ByteArray.size]
def kn1 : St := { St.new with ops := St.new.ops ++ [⟨.create, nA, ByteArray.empty, [120, 121], true⟩] }
def kn2 : St := syncS kn1
def kn3 : St := { kn2 with ops := kn2.ops ++ [⟨.add, nA, ByteArray.empty, [122], true⟩] }
def kn4 : St := { kn3 with ops := kn3.ops ++ [⟨.create, nB, ByteArray.empty, [117, 118], true⟩] }
def kn5 : St := loseS kn4 1 1
def kn6 : St := restartS kn5
theorem kn_a : kn6.now nA = some [120, 121, 122] := by decide +kernel
theorem kn_b : kn6.now nB = some [117] := by decide +kernel
theorem kn_d : kn6.dn = false := by decide +kernel
theorem kn3_cnt {n : Nat} (h : Cnt kn3.now n) : n < 256 := by
  have h1 : kn3.now = ((FF.set (fun _ => none) nA (some [120, 121])).set nA (some [120, 121, 122])) := rfl
  have h2 := (Cnt.none.put nA [120, 121]).put nA [120, 121, 122]
  rw [← h1] at h2
  have := h.uniq h2
  split at this <;> simp at this <;> omega
/-- Bytes of a constant, as they lie. -/
theorem sb_const (w : World) (g : Nat) (hg : g = w.heap.size) (bs : List UInt8) (fr : Nat × Nat) : SB (w.alloc (.cells (bs.map encU).toArray 5 fr)) (some ⟨g, 0, none⟩) bs := by
  subst hg
  refine ⟨(fun e => by cases e), fun ad e j u hu => ?_⟩
  injection e with e
  subst e
  rw [lit_add, Nat.zero_add]
  have : (w.alloc (.cells (bs.map encU).toArray 5 fr)).heap[w.heap.size]? = some (.cells (bs.map encU).toArray 5 fr) := heap_alloc_new w _
  rw [cell_of_row _ _ j _ _ _ this, List.getElem?_toArray]
  exact hu
theorem bAl {b : Nat} {w w1 : World} (h : Below b w w1) (o : Obj) (hb : b ≤ w.heap.size := by first | exact Nat.le_refl _ | assumption) : Below b w (w1.alloc o) := h.alloc (Nat.le_trans hb h.size) o
theorem LDev.low {b b' p : Nat} {w : World} {s : St} {R : List (BD × List UInt8)} (h : LDev b w p s R) (hb : b' ≤ b) : LDev b' w p s R := by
  obtain ⟨h0, r, h1, ⟨h2, h3⟩, h4⟩ := h
  exact ⟨by omega, r, h1, ⟨fun i hi => by have := h2 i hi; omega, fun q hq => by have := h3 q hq; omega⟩, h4⟩
set_option maxRecDepth 100000 in
set_option maxHeartbeats 8000000 in
theorem known_any (w : World) : Calls Try.prog 13 #[] w (fun e w' => e = .returned (.bool true) ∧ Below w.heap.size w w') := by
  have kc := fun (w : World) (C : Array Value) (n c : Nat) => Lib.run_convert_bytes_const (P := Try.prog) w 22 5 C n c Try.underlying22 Try.underlying5
  go_enter Try.func13, Try.ntmps13
  go_wp2_with fail
  refine (New_any _).mono ?_
  rintro e w1 ⟨rfl, hd, hb⟩
  have D_w1 : Hid (LDev w.heap.size w1 (w.heap.size + 2) St.new) := LDev.new hd hb
  have B_w1 : Hid (Below w.heap.size w w1) := (Below.refl w.heap.size w).trans (hb.mono (Below.refl w.heap.size w).size)
  clear hd hb
  go_wp2_with fail
  have hs1 : Hid (SB (w1.alloc (.cells #[.int .u8 120, .int .u8 121] 5 (2, 3))) (some ⟨w1.heap.size, 0, none⟩) [120, 121]) := sb_const w1 _ rfl [120, 121] (2, 3)
  go_wp2_with fail
  refine (Create_L nA _ 2 [120, 121] (D_w1.out.on (bel1 _ _)) okA hs1.out (by decide) (by decide)).mono ?_
  rintro e w2 ⟨n, hn, he, hd, hb⟩
  obtain ⟨e1, e2⟩ := req_ok (s := St.new) (n := n) (o := ⟨.create, nA, ByteArray.empty, [120, 121], true⟩) (gate_create (nm := nA) (bs := [120, 121]) rfl (by decide +kernel) (by decide) (.inr (by have := hn.uniq Cnt.none; omega))) rfl
  rw [e1] at he; rw [e2] at hd; subst he
  have D_w2 : Hid (LDev w.heap.size w2 (w.heap.size + 2) ({ (St.new : St) with ops := (St.new : St).ops ++ [⟨.create, nA, ByteArray.empty, [120, 121], true⟩] }) []) := hd
  have B_w2 : Hid (Below w.heap.size w w2) := (bAl B_w1.out _).trans hb
  clear hd hb e1 e2 hn
  have K_w2 : Hid (LDev w.heap.size w2 (w.heap.size + 2) kn1) := D_w2.out
  clear D_w2
  go_wp2_with fail
  refine (Sync_L K_w2.out (by decide)).mono ?_
  rintro e w3 ⟨he, hd, hb⟩
  subst he
  have K_w3 : Hid (LDev w.heap.size w3 (w.heap.size + 2) (kn2) []) := hd
  have B_w3 : Hid (Below w.heap.size w w3) := B_w2.out.trans hb
  clear hd hb
  go_wp2_with fail
  have hs2 : Hid (SB (w3.alloc (.cells #[.int .u8 122] 5 (1, 2))) (some ⟨w3.heap.size, 0, none⟩) [122]) := sb_const w3 _ rfl [122] (1, 2)
  go_wp2_with fail
  refine (Append_L nA _ 1 [122] (K_w3.out.on (bel1 _ _)) okA hs2.out (by decide +kernel) (by decide)).mono ?_
  rintro e w4 ⟨n, hn, he, hd, hb⟩
  obtain ⟨e1, e2⟩ := req_ok (s := kn2) (n := n) (o := ⟨.add, nA, ByteArray.empty, [122], true⟩) (gate_add (nm := nA) (bs := [122]) (v := [120, 121]) rfl (by decide +kernel) (by decide +kernel) (by decide)) rfl
  rw [e1] at he; rw [e2] at hd; subst he
  have K_w4 : Hid (LDev w.heap.size w4 (w.heap.size + 2) ({ (kn2 : St) with ops := (kn2 : St).ops ++ [⟨.add, nA, ByteArray.empty, [122], true⟩] }) []) := hd
  have B_w4 : Hid (Below w.heap.size w w4) := (bAl B_w3.out _).trans hb
  clear hd hb e1 e2 hn
  have J_w4 : Hid (LDev w.heap.size w4 (w.heap.size + 2) kn3) := K_w4.out
  clear K_w4
  go_wp2_with fail
  have hs3 : Hid (SB (w4.alloc (.cells #[.int .u8 117, .int .u8 118] 5 (2, 3))) (some ⟨w4.heap.size, 0, none⟩) [117, 118]) := sb_const w4 _ rfl [117, 118] (2, 3)
  go_wp2_with fail
  refine (Create_L nB _ 2 [117, 118] (J_w4.out.on (bel1 _ _)) okB hs3.out (by decide +kernel) (by decide)).mono ?_
  rintro e w5 ⟨n, hn, he, hd, hb⟩
  obtain ⟨e1, e2⟩ := req_ok (s := kn3) (n := n) (o := ⟨.create, nB, ByteArray.empty, [117, 118], true⟩) (gate_create (nm := nB) (bs := [117, 118]) rfl (by decide +kernel) (by decide) (.inr (kn3_cnt hn))) rfl
  rw [e1] at he; rw [e2] at hd; subst he
  have J_w5 : Hid (LDev w.heap.size w5 (w.heap.size + 2) ({ (kn3 : St) with ops := (kn3 : St).ops ++ [⟨.create, nB, ByteArray.empty, [117, 118], true⟩] }) []) := hd
  have B_w5 : Hid (Below w.heap.size w w5) := (bAl B_w4.out _).trans hb
  clear hd hb e1 e2 hn
  have K_w5 : Hid (LDev w.heap.size w5 (w.heap.size + 2) kn4) := J_w5.out
  clear J_w5
  go_wp2_with fail
  refine (Lose_L 1 1 K_w5.out (by decide +kernel) (by decide)).mono ?_
  rintro e w6 ⟨he, hd, hb⟩
  subst he
  have K_w6 : Hid (LDev w.heap.size w6 (w.heap.size + 2) (kn5) []) := hd
  have B_w6 : Hid (Below w.heap.size w w6) := B_w5.out.trans hb
  clear hd hb
  go_wp2_with fail
  refine (Down_L K_w6.out).mono ?_
  rintro e w0 ⟨he, hw⟩
  rw [show kn5.dn = true by decide +kernel] at he
  subst hw; subst he
  go_wp2_with fail
  refine (Pending_L K_w6.out (by decide +kernel)).mono ?_
  rintro e w0 ⟨he, hw⟩
  rw [show ((kn5.ops.length : Nat) : Int) = 0 by decide +kernel] at he
  subst hw; subst he
  go_wp2_with fail
  refine (Restart_L K_w6.out (by decide +kernel)).mono ?_
  rintro e w7 ⟨he, hd, hb⟩
  subst he
  have K_w7 : Hid (LDev w.heap.size w7 (w.heap.size + 2) (kn6) []) := hd
  have B_w7 : Hid (Below w.heap.size w w7) := B_w6.out.trans hb
  clear hd hb
  go_wp2_with fail
  refine (Read_L nA K_w7.out okA).mono ?_
  rintro e w8 ⟨dra, he, hr, _, hb⟩
  rw [(readE_ok (s := kn6) (nm := nA) (v := [120, 121, 122]) kn_d (by decide +kernel) kn_a).1] at he; rw [(readE_ok (s := kn6) (nm := nA) (v := [120, 121, 122]) kn_d (by decide +kernel) kn_a).2] at hr; subst he
  have ra_w8 : Hid (RB w8 dra ([120, 121, 122])) := hr
  have K_w8 : Hid (LDev w.heap.size w8 (w.heap.size + 2) (kn6) []) := K_w7.out.on hb
  have B_w8 : Hid (Below w.heap.size w w8) := B_w7.out.trans (hb.mono B_w7.out.size)
  clear hr hb
  unfold vB
  go_wp2_with fail
  refine (Read_L nB K_w8.out okB).mono ?_
  rintro e w9 ⟨drb, he, hr, _, hb⟩
  rw [(readE_ok (s := kn6) (nm := nB) (v := [117]) kn_d (by decide +kernel) kn_b).1] at he; rw [(readE_ok (s := kn6) (nm := nB) (v := [117]) kn_d (by decide +kernel) kn_b).2] at hr; subst he
  have rb_w9 : Hid (RB w9 drb ([117])) := hr
  have K_w9 : Hid (LDev w.heap.size w9 (w.heap.size + 2) (kn6) []) := K_w8.out.on hb
  have ra_w9 : Hid (RB w9 dra ([120, 121, 122])) := ra_w8.out.on hb
  have B_w9 : Hid (Below w.heap.size w w9) := B_w8.out.trans (hb.mono B_w8.out.size)
  clear hr hb
  unfold vB
  have v1 := conv_rb ra_w9.out
  have v2 := conv_rb rb_w9.out
  go_wp2_with fail
  go_ret
  exact ⟨rfl, B_w9.out⟩
end Go.Proofs.Ytddjkkmdcdiofaa
