/- Walks of laws: Torn. -/
import Derived.Test.YtddjkkmdcdiofaaLA
import Derived.Test.YtddjkkmdcdiofaaJN
namespace Go.Proofs.Ytddjkkmdcdiofaa
open Go.RowKit Go.MapKept Go.ChangeMaps

theorem restart_lose (s : St) (k t : Int) : restartS (loseS s k t) = ⟨lossF s k t, [], false, 0⟩ := by
  have e : loseS s k t = ⟨lossF s k t, [], true, 0⟩ := rfl
  rw [e]
  show ({ decideS ⟨lossF s k t, [], true, 0⟩ 0 (-1) with dn := false } : St) = _
  rw [decideS, loss_none _ _ _ rfl]
/-- The device with the file a, durable. -/
def tn1 (a : List UInt8) : St := ⟨FF.set (fun _ => none) nA (some a), [], false, 0⟩
def tn2 (a : List UInt8) (k : Kd) (b : List UInt8) : St := { tn1 a with ops := [⟨k, nA, ByteArray.empty, b, true⟩] }
theorem tn1_now (a : List UInt8) : (tn1 a).now nA = some a := by simp [tn1, St.now, FF.set]
theorem tn_neg (a : List UInt8) (k : Kd) (b : List UInt8) (t : Int) (ht : t < 0) : lossF (tn2 a k b) 0 t nA = some a := by
  rw [loss_stop (tn2 a k b) 0 t 0 (o := ⟨k, nA, ByteArray.empty, b, true⟩) rfl (by omega) (.inl rfl) (by rintro ⟨_, _, h⟩; omega)]
  show (tn1 a).K nA = some a
  simp [tn1, FF.set]
theorem tn_create (a b : List UInt8) (t : Int) (ht : 0 ≤ t) : lossF (tn2 a .create b) 0 t nA = some (b.take t.toNat) := by
  rw [loss_torn (tn2 a .create b) 0 t 0 (o := ⟨.create, nA, ByteArray.empty, b, true⟩) rfl rfl rfl ht]
  show FF.set _ nA (some (b.take t.toNat)) nA = _
  simp [FF.set]
theorem tn_add (a b : List UInt8) (t : Int) (ht : 0 ≤ t) : lossF (tn2 a .add b) 0 t nA = some (a ++ b.take t.toNat) := by
  rw [loss_torn (tn2 a .add b) 0 t 0 (o := ⟨.add, nA, ByteArray.empty, b, true⟩) rfl rfl rfl ht]
  show FF.set _ nA (some (((tn1 a).K nA).getD [] ++ b.take t.toNat)) nA = _
  simp [FF.set, tn1]
theorem SB.take {w : World} {A : Option Addr} {bs : List UInt8} (h : SB w A bs) (k : Nat) : SB w A (bs.take k) := by
  refine ⟨fun e => by have := h.1 e; rw [List.length_take]; omega, fun ad e j u hu => h.2 ad e j u ?_⟩
  rw [List.map_take] at hu
  have hj := (List.getElem?_eq_some_iff.1 hu).1
  rw [List.length_take] at hj
  rw [List.getElem?_take_of_lt (by omega)] at hu
  exact hu
theorem wf_max {n : Int} (h : (Lit.int .i64 n).wf = true) : n ≤ 9223372036854775807 := by
  rw [Lit.wf, Bool.and_eq_true, decide_eq_true_eq, decide_eq_true_eq, show IntKind.i64.max = 9223372036854775807 from rfl] at h
  exact h.2
theorem two_cells (w : World) (x y : Src) (hx : SB w x.A x.bs) (hy : SB w y.A y.bs) : ∀ k z, [x, y][k]? = some z → (w.alloc (.cells #[.slice x.A x.bs.length x.c, .slice y.A y.bs.length y.c] 22)).cell? ⟨w.heap.size, k, none⟩ = some (.slice z.A z.bs.length z.c) ∧ SB (w.alloc (.cells #[.slice x.A x.bs.length x.c, .slice y.A y.bs.length y.c] 22)) z.A z.bs := by
  intro k z hz
  rw [new_cell _ _ _ _ rfl]
  match k, hz with
  | 0, hz => simp at hz; subst hz; exact ⟨rfl, hx.on_lt (bel1 _ _)⟩
  | 1, hz => simp at hz; subst hz; exact ⟨rfl, hy.on_lt (bel1 _ _)⟩
  | k + 2, hz => simp at hz
theorem one_cells (w : World) (x : Src) (hx : SB w x.A x.bs) : ∀ k z, [x][k]? = some z → (w.alloc (.cells #[.slice x.A x.bs.length x.c] 22)).cell? ⟨w.heap.size, k, none⟩ = some (.slice z.A z.bs.length z.c) ∧ SB (w.alloc (.cells #[.slice x.A x.bs.length x.c] 22)) z.A z.bs := by
  intro k z hz
  rw [new_cell _ _ _ _ rfl]
  match k, hz with
  | 0, hz => simp at hz; subst hz; exact ⟨rfl, hx.on_lt (bel1 _ _)⟩
  | k + 1, hz => simp at hz
set_option maxRecDepth 100000 in
set_option maxHeartbeats 8000000 in
theorem law3 (A0 A1 : Option Addr) (c0 c1 : Nat) (a b : List UInt8) (torn : Int) (add : Bool) (w : World) (h0 : SB w A0 a) (h1 : SB w A1 b) (hc1 : b.length ≤ c1) (hl0 : a.length ≤ 9223372036854775807) (hl1 : b.length ≤ 9223372036854775807) (ht : torn ≤ 9223372036854775807) :
    Calls Try.prog 3 #[.slice A0 a.length c0, .slice A1 b.length c1, .int .i64 torn, .bool add] w (Gives (.bool true) w) := by
  have H0 := Lib.hid h0
  have H1 := Lib.hid h1
  clear h0 h1
  by_cases hb0 : 65536 < a.length
  · go_enter Try.func3, Try.ntmps3
    go_wp2_with fail
    go_ret
    exact ⟨rfl, Below.refl _ _⟩
  by_cases hb1 : 65536 < b.length
  · go_enter Try.func3, Try.ntmps3
    go_wp2_with fail
    go_ret
    exact ⟨rfl, Below.refl _ _⟩
  cases add with
  | true =>
    by_cases hn : torn < 0
    · have hm : min torn (b.length : Int) = torn := by omega
      have hx : max 0 torn = 0 := by omega
      go_enter Try.func3, Try.ntmps3
      go_wp2_with fail
      refine (New_any _).mono ?_
      rintro e w1 ⟨rfl, hd, hb⟩
      have D_w1 : Hid (LDev w.heap.size w1 (w.heap.size + 2) St.new) := LDev.new hd hb
      have B_w1 : Hid (Below w.heap.size w w1) := (Below.refl w.heap.size w).trans (hb.mono (Below.refl w.heap.size w).size)
      clear hd hb
      go_wp2_with fail
      refine (known_any _).mono ?_
      rintro e w2 ⟨rfl, hb⟩
      have D_w2 : Hid (LDev w.heap.size w2 (w.heap.size + 2) (St.new) []) := D_w1.out.on hb
      have B_w2 : Hid (Below w.heap.size w w2) := B_w1.out.trans (hb.mono B_w1.out.size)
      clear hb
      go_wp2_with fail
      refine (Create_L nA A0 c0 a D_w2.out okA (H0.out.on_lt B_w2.out) (by decide) (by omega)).mono ?_
      rintro e w3 ⟨n, hn, he, hd, hb⟩
      obtain ⟨e1, e2⟩ := req_ok (s := St.new) (n := n) (o := ⟨.create, nA, ByteArray.empty, a, true⟩) (gate_create (nm := nA) (bs := a) rfl (by decide +kernel) (by omega) (.inr (by have := hn.uniq Cnt.none; omega))) rfl
      rw [e1] at he; rw [e2] at hd; subst he
      have D_w3 : Hid (LDev w.heap.size w3 (w.heap.size + 2) ({ (St.new : St) with ops := (St.new : St).ops ++ [⟨.create, nA, ByteArray.empty, a, true⟩] }) []) := hd
      have B_w3 : Hid (Below w.heap.size w w3) := B_w2.out.trans hb
      clear hd hb e1 e2 hn
      go_wp2_with fail
      refine (Sync_L D_w3.out (by simp [St.new])).mono ?_
      rintro e w4 ⟨he, hd, hb⟩
      rw [show syncE _ = 0 from rfl] at he
      subst he
      have D_w4 : Hid (LDev w.heap.size w4 (w.heap.size + 2) (tn1 a) []) := hd
      have B_w4 : Hid (Below w.heap.size w w4) := B_w3.out.trans hb
      clear hd hb
      go_wp2_with fail
      have HSl : Hid (SB w4 A1 (b.take (0))) := (H1.out.on_lt B_w4.out).take _
      have hKl : (b.take (0)).length = 0 := by rw [List.length_take]; omega
      have HJ : Calls Try.prog 16 #[.slice (some ⟨w4.heap.size, 0, none⟩) 2 2] (w4.alloc (.cells #[.slice A0 a.length c0, .slice A1 (0) c1] 22)) (NewB (a ++ b.take (0)) (w4.alloc (.cells #[.slice A0 a.length c0, .slice A1 (0) c1] 22))) := by
        have := Joined_any w4.heap.size 2 [⟨A0, c0, a⟩, ⟨A1, c1, b.take (0)⟩] (w4.alloc (.cells #[.slice A0 a.length c0, .slice A1 (b.take (0)).length c1] 22)) (by simp) (two_cells w4 ⟨A0, c0, a⟩ ⟨A1, c1, b.take (0)⟩ (H0.out.on_lt B_w4.out) HSl.out) (by simp) (by simp [cat]; omega)
        rw [hKl] at this
        have ec : cat [⟨A0, c0, a⟩, ⟨A1, c1, b.take (0)⟩] = a ++ b.take (0) := by simp [cat]
        rw [ec] at this
        exact this
      clear hKl
      refine HJ.mono ?_
      rintro e w5 ⟨dj, rfl, hr, hf, hb⟩
      have D_w5 : Hid (LDev w.heap.size w5 (w.heap.size + 2) (tn1 a) ([(dj, a ++ b.take (0))])) := (D_w4.out.on (bel1 _ _)).add hb hr hf
      have B_w5 : Hid (Below w.heap.size w w5) := (bAl B_w4.out _).trans (hb.mono (bAl B_w4.out _).size)
      clear HJ hr hb hf
      unfold vB
      go_wp2_with fail
      refine (Append_L nA A1 c1 b D_w5.out okA (H1.out.on_lt B_w5.out) (by simp [tn1]) (by omega)).mono ?_
      rintro e w6 ⟨n, hn, he, hd, hb⟩
      obtain ⟨e1, e2⟩ := req_ok (s := tn1 a) (n := n) (o := ⟨.add, nA, ByteArray.empty, b, true⟩) (gate_add (nm := nA) (bs := b) (v := a) rfl (by decide +kernel) (tn1_now a) (by omega)) rfl
      rw [e1] at he; rw [e2] at hd; subst he
      have D_w6 : Hid (LDev w.heap.size w6 (w.heap.size + 2) ({ (tn1 a : St) with ops := (tn1 a : St).ops ++ [⟨.add, nA, ByteArray.empty, b, true⟩] }) ([(dj, a ++ b.take (0))])) := hd
      have B_w6 : Hid (Below w.heap.size w w6) := B_w5.out.trans hb
      clear hd hb e1 e2 hn
      have E_w6 : Hid (LDev w.heap.size w6 (w.heap.size + 2) (tn2 a .add b) ([(dj, a ++ b.take (0))])) := D_w6.out
      clear D_w6
      go_wp2_with fail
      refine (Lose_L 0 torn E_w6.out (by simp [tn2]) (by omega)).mono ?_
      rintro e w7 ⟨he, hd, hb⟩
      subst he
      have E_w7 : Hid (LDev w.heap.size w7 (w.heap.size + 2) (loseS (tn2 a .add b) 0 torn) ([(dj, a ++ b.take (0))])) := hd
      have B_w7 : Hid (Below w.heap.size w w7) := B_w6.out.trans hb
      clear hd hb
      go_wp2_with fail
      refine (Restart_L E_w7.out (by simp [loseS, decideS])).mono ?_
      rintro e w8 ⟨he, hd, hb⟩
      rw [restart_lose] at hd
      subst he
      have E_w8 : Hid (LDev w.heap.size w8 (w.heap.size + 2) (⟨lossF (tn2 a .add b) 0 torn, [], false, 0⟩) ([(dj, a ++ b.take (0))])) := hd
      have B_w8 : Hid (Below w.heap.size w w8) := B_w7.out.trans hb
      clear hd hb
      go_wp2_with fail
      refine (Read_L nA E_w8.out okA).mono ?_
      rintro e w9 ⟨dra, he, hr, _, hb⟩
      rw [(readE_ok (s := ⟨lossF (tn2 a .add b) 0 torn, [], false, 0⟩) (nm := nA) (v := a) rfl (by decide +kernel) (by show lossF (tn2 a .add b) 0 torn nA = some (a); exact tn_neg a .add b torn (by omega))).1] at he; rw [(readE_ok (s := ⟨lossF (tn2 a .add b) 0 torn, [], false, 0⟩) (nm := nA) (v := a) rfl (by decide +kernel) (by show lossF (tn2 a .add b) 0 torn nA = some (a); exact tn_neg a .add b torn (by omega))).2] at hr; subst he
      have ra_w9 : Hid (RB w9 dra (a)) := hr
      have E_w9 : Hid (LDev w.heap.size w9 (w.heap.size + 2) (⟨lossF (tn2 a .add b) 0 torn, [], false, 0⟩) ([(dj, a ++ b.take (0))])) := E_w8.out.on hb
      have B_w9 : Hid (Below w.heap.size w w9) := B_w8.out.trans (hb.mono B_w8.out.size)
      clear hr hb
      unfold vB
      have v1 := conv_rb ra_w9.out
      have v2 := conv_rb (E_w9.out.rb (d := dj) (bs := a ++ b.take (0)) (by simp))
      rw [List.take_zero, List.append_nil] at v2
      go_wp2_with fail
      go_ret
      exact ⟨rfl, B_w9.out⟩
    · by_cases hz1 : torn = 0
      · subst hz1
        go_enter Try.func3, Try.ntmps3
        go_wp2_with fail
        refine (New_any _).mono ?_
        rintro e w1 ⟨rfl, hd, hb⟩
        have D_w1 : Hid (LDev w.heap.size w1 (w.heap.size + 2) St.new) := LDev.new hd hb
        have B_w1 : Hid (Below w.heap.size w w1) := (Below.refl w.heap.size w).trans (hb.mono (Below.refl w.heap.size w).size)
        clear hd hb
        go_wp2_with fail
        refine (known_any _).mono ?_
        rintro e w2 ⟨rfl, hb⟩
        have D_w2 : Hid (LDev w.heap.size w2 (w.heap.size + 2) (St.new) []) := D_w1.out.on hb
        have B_w2 : Hid (Below w.heap.size w w2) := B_w1.out.trans (hb.mono B_w1.out.size)
        clear hb
        go_wp2_with fail
        refine (Create_L nA A0 c0 a D_w2.out okA (H0.out.on_lt B_w2.out) (by decide) (by omega)).mono ?_
        rintro e w3 ⟨n, hn, he, hd, hb⟩
        obtain ⟨e1, e2⟩ := req_ok (s := St.new) (n := n) (o := ⟨.create, nA, ByteArray.empty, a, true⟩) (gate_create (nm := nA) (bs := a) rfl (by decide +kernel) (by omega) (.inr (by have := hn.uniq Cnt.none; omega))) rfl
        rw [e1] at he; rw [e2] at hd; subst he
        have D_w3 : Hid (LDev w.heap.size w3 (w.heap.size + 2) ({ (St.new : St) with ops := (St.new : St).ops ++ [⟨.create, nA, ByteArray.empty, a, true⟩] }) []) := hd
        have B_w3 : Hid (Below w.heap.size w w3) := B_w2.out.trans hb
        clear hd hb e1 e2 hn
        go_wp2_with fail
        refine (Sync_L D_w3.out (by simp [St.new])).mono ?_
        rintro e w4 ⟨he, hd, hb⟩
        rw [show syncE _ = 0 from rfl] at he
        subst he
        have D_w4 : Hid (LDev w.heap.size w4 (w.heap.size + 2) (tn1 a) []) := hd
        have B_w4 : Hid (Below w.heap.size w w4) := B_w3.out.trans hb
        clear hd hb
        go_wp2_with fail
        have HSl : Hid (SB w4 A1 (b.take (0))) := (H1.out.on_lt B_w4.out).take _
        have hKl : (b.take (0)).length = 0 := by rw [List.length_take]; omega
        have HJ : Calls Try.prog 16 #[.slice (some ⟨w4.heap.size, 0, none⟩) 2 2] (w4.alloc (.cells #[.slice A0 a.length c0, .slice A1 (0) c1] 22)) (NewB (a ++ b.take (0)) (w4.alloc (.cells #[.slice A0 a.length c0, .slice A1 (0) c1] 22))) := by
          have := Joined_any w4.heap.size 2 [⟨A0, c0, a⟩, ⟨A1, c1, b.take (0)⟩] (w4.alloc (.cells #[.slice A0 a.length c0, .slice A1 (b.take (0)).length c1] 22)) (by simp) (two_cells w4 ⟨A0, c0, a⟩ ⟨A1, c1, b.take (0)⟩ (H0.out.on_lt B_w4.out) HSl.out) (by simp) (by simp [cat]; omega)
          rw [hKl] at this
          have ec : cat [⟨A0, c0, a⟩, ⟨A1, c1, b.take (0)⟩] = a ++ b.take (0) := by simp [cat]
          rw [ec] at this
          exact this
        clear hKl
        refine HJ.mono ?_
        rintro e w5 ⟨dj, rfl, hr, hf, hb⟩
        have D_w5 : Hid (LDev w.heap.size w5 (w.heap.size + 2) (tn1 a) ([(dj, a ++ b.take (0))])) := (D_w4.out.on (bel1 _ _)).add hb hr hf
        have B_w5 : Hid (Below w.heap.size w w5) := (bAl B_w4.out _).trans (hb.mono (bAl B_w4.out _).size)
        clear HJ hr hb hf
        unfold vB
        go_wp2_with fail
        refine (Append_L nA A1 c1 b D_w5.out okA (H1.out.on_lt B_w5.out) (by simp [tn1]) (by omega)).mono ?_
        rintro e w6 ⟨n, hn, he, hd, hb⟩
        obtain ⟨e1, e2⟩ := req_ok (s := tn1 a) (n := n) (o := ⟨.add, nA, ByteArray.empty, b, true⟩) (gate_add (nm := nA) (bs := b) (v := a) rfl (by decide +kernel) (tn1_now a) (by omega)) rfl
        rw [e1] at he; rw [e2] at hd; subst he
        have D_w6 : Hid (LDev w.heap.size w6 (w.heap.size + 2) ({ (tn1 a : St) with ops := (tn1 a : St).ops ++ [⟨.add, nA, ByteArray.empty, b, true⟩] }) ([(dj, a ++ b.take (0))])) := hd
        have B_w6 : Hid (Below w.heap.size w w6) := B_w5.out.trans hb
        clear hd hb e1 e2 hn
        have E_w6 : Hid (LDev w.heap.size w6 (w.heap.size + 2) (tn2 a .add b) ([(dj, a ++ b.take (0))])) := D_w6.out
        clear D_w6
        go_wp2_with fail
        refine (Lose_L 0 0 E_w6.out (by simp [tn2]) (by omega)).mono ?_
        rintro e w7 ⟨he, hd, hb⟩
        subst he
        have E_w7 : Hid (LDev w.heap.size w7 (w.heap.size + 2) (loseS (tn2 a .add b) 0 0) ([(dj, a ++ b.take (0))])) := hd
        have B_w7 : Hid (Below w.heap.size w w7) := B_w6.out.trans hb
        clear hd hb
        go_wp2_with fail
        refine (Restart_L E_w7.out (by simp [loseS, decideS])).mono ?_
        rintro e w8 ⟨he, hd, hb⟩
        rw [restart_lose] at hd
        subst he
        have E_w8 : Hid (LDev w.heap.size w8 (w.heap.size + 2) (⟨lossF (tn2 a .add b) 0 0, [], false, 0⟩) ([(dj, a ++ b.take (0))])) := hd
        have B_w8 : Hid (Below w.heap.size w w8) := B_w7.out.trans hb
        clear hd hb
        go_wp2_with fail
        refine (Read_L nA E_w8.out okA).mono ?_
        rintro e w9 ⟨dra, he, hr, _, hb⟩
        rw [(readE_ok (s := ⟨lossF (tn2 a .add b) 0 0, [], false, 0⟩) (nm := nA) (v := a ++ b.take 0) rfl (by decide +kernel) (by show lossF (tn2 a .add b) 0 0 nA = some (a ++ b.take 0); rw [tn_add a b 0 (by omega)]; rfl)).1] at he; rw [(readE_ok (s := ⟨lossF (tn2 a .add b) 0 0, [], false, 0⟩) (nm := nA) (v := a ++ b.take 0) rfl (by decide +kernel) (by show lossF (tn2 a .add b) 0 0 nA = some (a ++ b.take 0); rw [tn_add a b 0 (by omega)]; rfl)).2] at hr; subst he
        have ra_w9 : Hid (RB w9 dra (a ++ b.take 0)) := hr
        have E_w9 : Hid (LDev w.heap.size w9 (w.heap.size + 2) (⟨lossF (tn2 a .add b) 0 0, [], false, 0⟩) ([(dj, a ++ b.take (0))])) := E_w8.out.on hb
        have B_w9 : Hid (Below w.heap.size w w9) := B_w8.out.trans (hb.mono B_w8.out.size)
        clear hr hb
        unfold vB
        have v1 := conv_rb ra_w9.out
        have v2 := conv_rb (E_w9.out.rb (d := dj) (bs := a ++ b.take (0)) (by simp))
        go_wp2_with fail
        go_ret
        exact ⟨rfl, B_w9.out⟩
      by_cases hz2 : b.length = 0
      · obtain rfl : b = [] := List.eq_nil_of_length_eq_zero hz2
        have htp : 0 < torn := by omega
        go_enter Try.func3, Try.ntmps3
        go_wp2_with fail
        refine (New_any _).mono ?_
        rintro e w1 ⟨rfl, hd, hb⟩
        have D_w1 : Hid (LDev w.heap.size w1 (w.heap.size + 2) St.new) := LDev.new hd hb
        have B_w1 : Hid (Below w.heap.size w w1) := (Below.refl w.heap.size w).trans (hb.mono (Below.refl w.heap.size w).size)
        clear hd hb
        go_wp2_with fail
        refine (known_any _).mono ?_
        rintro e w2 ⟨rfl, hb⟩
        have D_w2 : Hid (LDev w.heap.size w2 (w.heap.size + 2) (St.new) []) := D_w1.out.on hb
        have B_w2 : Hid (Below w.heap.size w w2) := B_w1.out.trans (hb.mono B_w1.out.size)
        clear hb
        go_wp2_with fail
        refine (Create_L nA A0 c0 a D_w2.out okA (H0.out.on_lt B_w2.out) (by decide) (by omega)).mono ?_
        rintro e w3 ⟨n, hn, he, hd, hb⟩
        obtain ⟨e1, e2⟩ := req_ok (s := St.new) (n := n) (o := ⟨.create, nA, ByteArray.empty, a, true⟩) (gate_create (nm := nA) (bs := a) rfl (by decide +kernel) (by omega) (.inr (by have := hn.uniq Cnt.none; omega))) rfl
        rw [e1] at he; rw [e2] at hd; subst he
        have D_w3 : Hid (LDev w.heap.size w3 (w.heap.size + 2) ({ (St.new : St) with ops := (St.new : St).ops ++ [⟨.create, nA, ByteArray.empty, a, true⟩] }) []) := hd
        have B_w3 : Hid (Below w.heap.size w w3) := B_w2.out.trans hb
        clear hd hb e1 e2 hn
        go_wp2_with fail
        refine (Sync_L D_w3.out (by simp [St.new])).mono ?_
        rintro e w4 ⟨he, hd, hb⟩
        rw [show syncE _ = 0 from rfl] at he
        subst he
        have D_w4 : Hid (LDev w.heap.size w4 (w.heap.size + 2) (tn1 a) []) := hd
        have B_w4 : Hid (Below w.heap.size w w4) := B_w3.out.trans hb
        clear hd hb
        go_wp2_with fail
        have HSl : Hid (SB w4 A1 (([] : List UInt8).take (0))) := (H1.out.on_lt B_w4.out).take _
        have hKl : (([] : List UInt8).take (0)).length = 0 := by rw [List.length_take]; omega
        have HJ : Calls Try.prog 16 #[.slice (some ⟨w4.heap.size, 0, none⟩) 2 2] (w4.alloc (.cells #[.slice A0 a.length c0, .slice A1 (0) c1] 22)) (NewB (a ++ ([] : List UInt8).take (0)) (w4.alloc (.cells #[.slice A0 a.length c0, .slice A1 (0) c1] 22))) := by
          have := Joined_any w4.heap.size 2 [⟨A0, c0, a⟩, ⟨A1, c1, ([] : List UInt8).take (0)⟩] (w4.alloc (.cells #[.slice A0 a.length c0, .slice A1 (([] : List UInt8).take (0)).length c1] 22)) (by simp) (two_cells w4 ⟨A0, c0, a⟩ ⟨A1, c1, ([] : List UInt8).take (0)⟩ (H0.out.on_lt B_w4.out) HSl.out) (by simp) (by simp [cat]; omega)
          rw [hKl] at this
          have ec : cat [⟨A0, c0, a⟩, ⟨A1, c1, ([] : List UInt8).take (0)⟩] = a ++ ([] : List UInt8).take (0) := by simp [cat]
          rw [ec] at this
          exact this
        clear hKl
        refine HJ.mono ?_
        rintro e w5 ⟨dj, rfl, hr, hf, hb⟩
        have D_w5 : Hid (LDev w.heap.size w5 (w.heap.size + 2) (tn1 a) ([(dj, a ++ ([] : List UInt8).take (0))])) := (D_w4.out.on (bel1 _ _)).add hb hr hf
        have B_w5 : Hid (Below w.heap.size w w5) := (bAl B_w4.out _).trans (hb.mono (bAl B_w4.out _).size)
        clear HJ hr hb hf
        unfold vB
        go_wp2_with fail
        refine (Append_L nA A1 c1 ([] : List UInt8) D_w5.out okA (H1.out.on_lt B_w5.out) (by simp [tn1]) (by omega)).mono ?_
        rintro e w6 ⟨n, hn, he, hd, hb⟩
        obtain ⟨e1, e2⟩ := req_ok (s := tn1 a) (n := n) (o := ⟨.add, nA, ByteArray.empty, ([] : List UInt8), true⟩) (gate_add (nm := nA) (bs := ([] : List UInt8)) (v := a) rfl (by decide +kernel) (tn1_now a) (by omega)) rfl
        rw [e1] at he; rw [e2] at hd; subst he
        have D_w6 : Hid (LDev w.heap.size w6 (w.heap.size + 2) ({ (tn1 a : St) with ops := (tn1 a : St).ops ++ [⟨.add, nA, ByteArray.empty, ([] : List UInt8), true⟩] }) ([(dj, a ++ ([] : List UInt8).take (0))])) := hd
        have B_w6 : Hid (Below w.heap.size w w6) := B_w5.out.trans hb
        clear hd hb e1 e2 hn
        have E_w6 : Hid (LDev w.heap.size w6 (w.heap.size + 2) (tn2 a .add ([] : List UInt8)) ([(dj, a ++ ([] : List UInt8).take (0))])) := D_w6.out
        clear D_w6
        go_wp2_with fail
        refine (Lose_L 0 torn E_w6.out (by simp [tn2]) (by omega)).mono ?_
        rintro e w7 ⟨he, hd, hb⟩
        subst he
        have E_w7 : Hid (LDev w.heap.size w7 (w.heap.size + 2) (loseS (tn2 a .add ([] : List UInt8)) 0 torn) ([(dj, a ++ ([] : List UInt8).take (0))])) := hd
        have B_w7 : Hid (Below w.heap.size w w7) := B_w6.out.trans hb
        clear hd hb
        go_wp2_with fail
        refine (Restart_L E_w7.out (by simp [loseS, decideS])).mono ?_
        rintro e w8 ⟨he, hd, hb⟩
        rw [restart_lose] at hd
        subst he
        have E_w8 : Hid (LDev w.heap.size w8 (w.heap.size + 2) (⟨lossF (tn2 a .add ([] : List UInt8)) 0 torn, [], false, 0⟩) ([(dj, a ++ ([] : List UInt8).take (0))])) := hd
        have B_w8 : Hid (Below w.heap.size w w8) := B_w7.out.trans hb
        clear hd hb
        go_wp2_with fail
        refine (Read_L nA E_w8.out okA).mono ?_
        rintro e w9 ⟨dra, he, hr, _, hb⟩
        rw [(readE_ok (s := ⟨lossF (tn2 a .add ([] : List UInt8)) 0 torn, [], false, 0⟩) (nm := nA) (v := a ++ ([] : List UInt8).take 0) rfl (by decide +kernel) (by show lossF (tn2 a .add ([] : List UInt8)) 0 torn nA = some (a ++ ([] : List UInt8).take 0); rw [tn_add a ([] : List UInt8) torn (by omega)]; simp)).1] at he; rw [(readE_ok (s := ⟨lossF (tn2 a .add ([] : List UInt8)) 0 torn, [], false, 0⟩) (nm := nA) (v := a ++ ([] : List UInt8).take 0) rfl (by decide +kernel) (by show lossF (tn2 a .add ([] : List UInt8)) 0 torn nA = some (a ++ ([] : List UInt8).take 0); rw [tn_add a ([] : List UInt8) torn (by omega)]; simp)).2] at hr; subst he
        have ra_w9 : Hid (RB w9 dra (a ++ ([] : List UInt8).take 0)) := hr
        have E_w9 : Hid (LDev w.heap.size w9 (w.heap.size + 2) (⟨lossF (tn2 a .add ([] : List UInt8)) 0 torn, [], false, 0⟩) ([(dj, a ++ ([] : List UInt8).take (0))])) := E_w8.out.on hb
        have B_w9 : Hid (Below w.heap.size w w9) := B_w8.out.trans (hb.mono B_w8.out.size)
        clear hr hb
        unfold vB
        have v1 := conv_rb ra_w9.out
        have v2 := conv_rb (E_w9.out.rb (d := dj) (bs := a ++ ([] : List UInt8).take (0)) (by simp))
        go_wp2_with fail
        go_ret
        exact ⟨rfl, B_w9.out⟩
      by_cases hbg : (b.length : Int) < torn
      · have hm : min torn (b.length : Int) = b.length := by omega
        have hx : max 0 (b.length : Int) = b.length := by omega
        have hlp : 0 < b.length := by omega
        go_enter Try.func3, Try.ntmps3
        go_wp2_with fail
        refine (New_any _).mono ?_
        rintro e w1 ⟨rfl, hd, hb⟩
        have D_w1 : Hid (LDev w.heap.size w1 (w.heap.size + 2) St.new) := LDev.new hd hb
        have B_w1 : Hid (Below w.heap.size w w1) := (Below.refl w.heap.size w).trans (hb.mono (Below.refl w.heap.size w).size)
        clear hd hb
        go_wp2_with fail
        refine (known_any _).mono ?_
        rintro e w2 ⟨rfl, hb⟩
        have D_w2 : Hid (LDev w.heap.size w2 (w.heap.size + 2) (St.new) []) := D_w1.out.on hb
        have B_w2 : Hid (Below w.heap.size w w2) := B_w1.out.trans (hb.mono B_w1.out.size)
        clear hb
        go_wp2_with fail
        refine (Create_L nA A0 c0 a D_w2.out okA (H0.out.on_lt B_w2.out) (by decide) (by omega)).mono ?_
        rintro e w3 ⟨n, hn, he, hd, hb⟩
        obtain ⟨e1, e2⟩ := req_ok (s := St.new) (n := n) (o := ⟨.create, nA, ByteArray.empty, a, true⟩) (gate_create (nm := nA) (bs := a) rfl (by decide +kernel) (by omega) (.inr (by have := hn.uniq Cnt.none; omega))) rfl
        rw [e1] at he; rw [e2] at hd; subst he
        have D_w3 : Hid (LDev w.heap.size w3 (w.heap.size + 2) ({ (St.new : St) with ops := (St.new : St).ops ++ [⟨.create, nA, ByteArray.empty, a, true⟩] }) []) := hd
        have B_w3 : Hid (Below w.heap.size w w3) := B_w2.out.trans hb
        clear hd hb e1 e2 hn
        go_wp2_with fail
        refine (Sync_L D_w3.out (by simp [St.new])).mono ?_
        rintro e w4 ⟨he, hd, hb⟩
        rw [show syncE _ = 0 from rfl] at he
        subst he
        have D_w4 : Hid (LDev w.heap.size w4 (w.heap.size + 2) (tn1 a) []) := hd
        have B_w4 : Hid (Below w.heap.size w w4) := B_w3.out.trans hb
        clear hd hb
        go_wp2_with fail
        have HSl : Hid (SB w4 A1 (b.take (b.length))) := (H1.out.on_lt B_w4.out).take _
        have hKl : (b.take (b.length)).length = b.length := by rw [List.length_take]; omega
        have HJ : Calls Try.prog 16 #[.slice (some ⟨w4.heap.size, 0, none⟩) 2 2] (w4.alloc (.cells #[.slice A0 a.length c0, .slice A1 (b.length) c1] 22)) (NewB (a ++ b.take (b.length)) (w4.alloc (.cells #[.slice A0 a.length c0, .slice A1 (b.length) c1] 22))) := by
          have := Joined_any w4.heap.size 2 [⟨A0, c0, a⟩, ⟨A1, c1, b.take (b.length)⟩] (w4.alloc (.cells #[.slice A0 a.length c0, .slice A1 (b.take (b.length)).length c1] 22)) (by simp) (two_cells w4 ⟨A0, c0, a⟩ ⟨A1, c1, b.take (b.length)⟩ (H0.out.on_lt B_w4.out) HSl.out) (by simp) (by simp [cat]; omega)
          rw [hKl] at this
          have ec : cat [⟨A0, c0, a⟩, ⟨A1, c1, b.take (b.length)⟩] = a ++ b.take (b.length) := by simp [cat]
          rw [ec] at this
          exact this
        clear hKl
        refine HJ.mono ?_
        rintro e w5 ⟨dj, rfl, hr, hf, hb⟩
        have D_w5 : Hid (LDev w.heap.size w5 (w.heap.size + 2) (tn1 a) ([(dj, a ++ b.take (b.length))])) := (D_w4.out.on (bel1 _ _)).add hb hr hf
        have B_w5 : Hid (Below w.heap.size w w5) := (bAl B_w4.out _).trans (hb.mono (bAl B_w4.out _).size)
        clear HJ hr hb hf
        unfold vB
        go_wp2_with fail
        refine (Append_L nA A1 c1 b D_w5.out okA (H1.out.on_lt B_w5.out) (by simp [tn1]) (by omega)).mono ?_
        rintro e w6 ⟨n, hn, he, hd, hb⟩
        obtain ⟨e1, e2⟩ := req_ok (s := tn1 a) (n := n) (o := ⟨.add, nA, ByteArray.empty, b, true⟩) (gate_add (nm := nA) (bs := b) (v := a) rfl (by decide +kernel) (tn1_now a) (by omega)) rfl
        rw [e1] at he; rw [e2] at hd; subst he
        have D_w6 : Hid (LDev w.heap.size w6 (w.heap.size + 2) ({ (tn1 a : St) with ops := (tn1 a : St).ops ++ [⟨.add, nA, ByteArray.empty, b, true⟩] }) ([(dj, a ++ b.take (b.length))])) := hd
        have B_w6 : Hid (Below w.heap.size w w6) := B_w5.out.trans hb
        clear hd hb e1 e2 hn
        have E_w6 : Hid (LDev w.heap.size w6 (w.heap.size + 2) (tn2 a .add b) ([(dj, a ++ b.take (b.length))])) := D_w6.out
        clear D_w6
        go_wp2_with fail
        refine (Lose_L 0 torn E_w6.out (by simp [tn2]) (by omega)).mono ?_
        rintro e w7 ⟨he, hd, hb⟩
        subst he
        have E_w7 : Hid (LDev w.heap.size w7 (w.heap.size + 2) (loseS (tn2 a .add b) 0 torn) ([(dj, a ++ b.take (b.length))])) := hd
        have B_w7 : Hid (Below w.heap.size w w7) := B_w6.out.trans hb
        clear hd hb
        go_wp2_with fail
        refine (Restart_L E_w7.out (by simp [loseS, decideS])).mono ?_
        rintro e w8 ⟨he, hd, hb⟩
        rw [restart_lose] at hd
        subst he
        have E_w8 : Hid (LDev w.heap.size w8 (w.heap.size + 2) (⟨lossF (tn2 a .add b) 0 torn, [], false, 0⟩) ([(dj, a ++ b.take (b.length))])) := hd
        have B_w8 : Hid (Below w.heap.size w w8) := B_w7.out.trans hb
        clear hd hb
        go_wp2_with fail
        refine (Read_L nA E_w8.out okA).mono ?_
        rintro e w9 ⟨dra, he, hr, _, hb⟩
        rw [(readE_ok (s := ⟨lossF (tn2 a .add b) 0 torn, [], false, 0⟩) (nm := nA) (v := a ++ b.take b.length) rfl (by decide +kernel) (by show lossF (tn2 a .add b) 0 torn nA = some (a ++ b.take b.length); rw [tn_add a b torn (by omega), List.take_of_length_le (show b.length ≤ torn.toNat by omega), List.take_length])).1] at he; rw [(readE_ok (s := ⟨lossF (tn2 a .add b) 0 torn, [], false, 0⟩) (nm := nA) (v := a ++ b.take b.length) rfl (by decide +kernel) (by show lossF (tn2 a .add b) 0 torn nA = some (a ++ b.take b.length); rw [tn_add a b torn (by omega), List.take_of_length_le (show b.length ≤ torn.toNat by omega), List.take_length])).2] at hr; subst he
        have ra_w9 : Hid (RB w9 dra (a ++ b.take b.length)) := hr
        have E_w9 : Hid (LDev w.heap.size w9 (w.heap.size + 2) (⟨lossF (tn2 a .add b) 0 torn, [], false, 0⟩) ([(dj, a ++ b.take (b.length))])) := E_w8.out.on hb
        have B_w9 : Hid (Below w.heap.size w w9) := B_w8.out.trans (hb.mono B_w8.out.size)
        clear hr hb
        unfold vB
        have v1 := conv_rb ra_w9.out
        have v2 := conv_rb (E_w9.out.rb (d := dj) (bs := a ++ b.take (b.length)) (by simp))
        go_wp2_with fail
        go_ret
        exact ⟨rfl, B_w9.out⟩
      · obtain ⟨t, rfl⟩ : ∃ t : Nat, torn = (t : Int) := ⟨torn.toNat, by omega⟩
        have hm : min (t : Int) (b.length : Int) = t := by omega
        have hx : max 0 (t : Int) = t := by omega
        have htl : t ≤ b.length := by omega
        have htp : 0 < t := by omega
        go_enter Try.func3, Try.ntmps3
        go_wp2_with fail
        refine (New_any _).mono ?_
        rintro e w1 ⟨rfl, hd, hb⟩
        have D_w1 : Hid (LDev w.heap.size w1 (w.heap.size + 2) St.new) := LDev.new hd hb
        have B_w1 : Hid (Below w.heap.size w w1) := (Below.refl w.heap.size w).trans (hb.mono (Below.refl w.heap.size w).size)
        clear hd hb
        go_wp2_with fail
        refine (known_any _).mono ?_
        rintro e w2 ⟨rfl, hb⟩
        have D_w2 : Hid (LDev w.heap.size w2 (w.heap.size + 2) (St.new) []) := D_w1.out.on hb
        have B_w2 : Hid (Below w.heap.size w w2) := B_w1.out.trans (hb.mono B_w1.out.size)
        clear hb
        go_wp2_with fail
        refine (Create_L nA A0 c0 a D_w2.out okA (H0.out.on_lt B_w2.out) (by decide) (by omega)).mono ?_
        rintro e w3 ⟨n, hn, he, hd, hb⟩
        obtain ⟨e1, e2⟩ := req_ok (s := St.new) (n := n) (o := ⟨.create, nA, ByteArray.empty, a, true⟩) (gate_create (nm := nA) (bs := a) rfl (by decide +kernel) (by omega) (.inr (by have := hn.uniq Cnt.none; omega))) rfl
        rw [e1] at he; rw [e2] at hd; subst he
        have D_w3 : Hid (LDev w.heap.size w3 (w.heap.size + 2) ({ (St.new : St) with ops := (St.new : St).ops ++ [⟨.create, nA, ByteArray.empty, a, true⟩] }) []) := hd
        have B_w3 : Hid (Below w.heap.size w w3) := B_w2.out.trans hb
        clear hd hb e1 e2 hn
        go_wp2_with fail
        refine (Sync_L D_w3.out (by simp [St.new])).mono ?_
        rintro e w4 ⟨he, hd, hb⟩
        rw [show syncE _ = 0 from rfl] at he
        subst he
        have D_w4 : Hid (LDev w.heap.size w4 (w.heap.size + 2) (tn1 a) []) := hd
        have B_w4 : Hid (Below w.heap.size w w4) := B_w3.out.trans hb
        clear hd hb
        go_wp2_with fail
        have HSl : Hid (SB w4 A1 (b.take (t))) := (H1.out.on_lt B_w4.out).take _
        have hKl : (b.take (t)).length = t := by rw [List.length_take]; omega
        have HJ : Calls Try.prog 16 #[.slice (some ⟨w4.heap.size, 0, none⟩) 2 2] (w4.alloc (.cells #[.slice A0 a.length c0, .slice A1 (t) c1] 22)) (NewB (a ++ b.take (t)) (w4.alloc (.cells #[.slice A0 a.length c0, .slice A1 (t) c1] 22))) := by
          have := Joined_any w4.heap.size 2 [⟨A0, c0, a⟩, ⟨A1, c1, b.take (t)⟩] (w4.alloc (.cells #[.slice A0 a.length c0, .slice A1 (b.take (t)).length c1] 22)) (by simp) (two_cells w4 ⟨A0, c0, a⟩ ⟨A1, c1, b.take (t)⟩ (H0.out.on_lt B_w4.out) HSl.out) (by simp) (by simp [cat]; omega)
          rw [hKl] at this
          have ec : cat [⟨A0, c0, a⟩, ⟨A1, c1, b.take (t)⟩] = a ++ b.take (t) := by simp [cat]
          rw [ec] at this
          exact this
        clear hKl
        refine HJ.mono ?_
        rintro e w5 ⟨dj, rfl, hr, hf, hb⟩
        have D_w5 : Hid (LDev w.heap.size w5 (w.heap.size + 2) (tn1 a) ([(dj, a ++ b.take (t))])) := (D_w4.out.on (bel1 _ _)).add hb hr hf
        have B_w5 : Hid (Below w.heap.size w w5) := (bAl B_w4.out _).trans (hb.mono (bAl B_w4.out _).size)
        clear HJ hr hb hf
        unfold vB
        go_wp2_with fail
        refine (Append_L nA A1 c1 b D_w5.out okA (H1.out.on_lt B_w5.out) (by simp [tn1]) (by omega)).mono ?_
        rintro e w6 ⟨n, hn, he, hd, hb⟩
        obtain ⟨e1, e2⟩ := req_ok (s := tn1 a) (n := n) (o := ⟨.add, nA, ByteArray.empty, b, true⟩) (gate_add (nm := nA) (bs := b) (v := a) rfl (by decide +kernel) (tn1_now a) (by omega)) rfl
        rw [e1] at he; rw [e2] at hd; subst he
        have D_w6 : Hid (LDev w.heap.size w6 (w.heap.size + 2) ({ (tn1 a : St) with ops := (tn1 a : St).ops ++ [⟨.add, nA, ByteArray.empty, b, true⟩] }) ([(dj, a ++ b.take (t))])) := hd
        have B_w6 : Hid (Below w.heap.size w w6) := B_w5.out.trans hb
        clear hd hb e1 e2 hn
        have E_w6 : Hid (LDev w.heap.size w6 (w.heap.size + 2) (tn2 a .add b) ([(dj, a ++ b.take (t))])) := D_w6.out
        clear D_w6
        go_wp2_with fail
        refine (Lose_L 0 (t : Int) E_w6.out (by simp [tn2]) (by omega)).mono ?_
        rintro e w7 ⟨he, hd, hb⟩
        subst he
        have E_w7 : Hid (LDev w.heap.size w7 (w.heap.size + 2) (loseS (tn2 a .add b) 0 (t : Int)) ([(dj, a ++ b.take (t))])) := hd
        have B_w7 : Hid (Below w.heap.size w w7) := B_w6.out.trans hb
        clear hd hb
        go_wp2_with fail
        refine (Restart_L E_w7.out (by simp [loseS, decideS])).mono ?_
        rintro e w8 ⟨he, hd, hb⟩
        rw [restart_lose] at hd
        subst he
        have E_w8 : Hid (LDev w.heap.size w8 (w.heap.size + 2) (⟨lossF (tn2 a .add b) 0 (t : Int), [], false, 0⟩) ([(dj, a ++ b.take (t))])) := hd
        have B_w8 : Hid (Below w.heap.size w w8) := B_w7.out.trans hb
        clear hd hb
        go_wp2_with fail
        refine (Read_L nA E_w8.out okA).mono ?_
        rintro e w9 ⟨dra, he, hr, _, hb⟩
        rw [(readE_ok (s := ⟨lossF (tn2 a .add b) 0 (t : Int), [], false, 0⟩) (nm := nA) (v := a ++ b.take t) rfl (by decide +kernel) (by show lossF (tn2 a .add b) 0 (t : Int) nA = some (a ++ b.take t); rw [tn_add a b (t : Int) (by omega)]; rfl)).1] at he; rw [(readE_ok (s := ⟨lossF (tn2 a .add b) 0 (t : Int), [], false, 0⟩) (nm := nA) (v := a ++ b.take t) rfl (by decide +kernel) (by show lossF (tn2 a .add b) 0 (t : Int) nA = some (a ++ b.take t); rw [tn_add a b (t : Int) (by omega)]; rfl)).2] at hr; subst he
        have ra_w9 : Hid (RB w9 dra (a ++ b.take t)) := hr
        have E_w9 : Hid (LDev w.heap.size w9 (w.heap.size + 2) (⟨lossF (tn2 a .add b) 0 (t : Int), [], false, 0⟩) ([(dj, a ++ b.take (t))])) := E_w8.out.on hb
        have B_w9 : Hid (Below w.heap.size w w9) := B_w8.out.trans (hb.mono B_w8.out.size)
        clear hr hb
        unfold vB
        have v1 := conv_rb ra_w9.out
        have v2 := conv_rb (E_w9.out.rb (d := dj) (bs := a ++ b.take (t)) (by simp))
        go_wp2_with fail
        go_ret
        exact ⟨rfl, B_w9.out⟩
  | false =>
    by_cases hn : torn < 0
    · have hm : min torn (b.length : Int) = torn := by omega
      have hx : max 0 torn = 0 := by omega
      go_enter Try.func3, Try.ntmps3
      go_wp2_with fail
      refine (New_any _).mono ?_
      rintro e w1 ⟨rfl, hd, hb⟩
      have D_w1 : Hid (LDev w.heap.size w1 (w.heap.size + 2) St.new) := LDev.new hd hb
      have B_w1 : Hid (Below w.heap.size w w1) := (Below.refl w.heap.size w).trans (hb.mono (Below.refl w.heap.size w).size)
      clear hd hb
      go_wp2_with fail
      refine (known_any _).mono ?_
      rintro e w2 ⟨rfl, hb⟩
      have D_w2 : Hid (LDev w.heap.size w2 (w.heap.size + 2) (St.new) []) := D_w1.out.on hb
      have B_w2 : Hid (Below w.heap.size w w2) := B_w1.out.trans (hb.mono B_w1.out.size)
      clear hb
      go_wp2_with fail
      refine (Create_L nA A0 c0 a D_w2.out okA (H0.out.on_lt B_w2.out) (by decide) (by omega)).mono ?_
      rintro e w3 ⟨n, hn, he, hd, hb⟩
      obtain ⟨e1, e2⟩ := req_ok (s := St.new) (n := n) (o := ⟨.create, nA, ByteArray.empty, a, true⟩) (gate_create (nm := nA) (bs := a) rfl (by decide +kernel) (by omega) (.inr (by have := hn.uniq Cnt.none; omega))) rfl
      rw [e1] at he; rw [e2] at hd; subst he
      have D_w3 : Hid (LDev w.heap.size w3 (w.heap.size + 2) ({ (St.new : St) with ops := (St.new : St).ops ++ [⟨.create, nA, ByteArray.empty, a, true⟩] }) []) := hd
      have B_w3 : Hid (Below w.heap.size w w3) := B_w2.out.trans hb
      clear hd hb e1 e2 hn
      go_wp2_with fail
      refine (Sync_L D_w3.out (by simp [St.new])).mono ?_
      rintro e w4 ⟨he, hd, hb⟩
      rw [show syncE _ = 0 from rfl] at he
      subst he
      have D_w4 : Hid (LDev w.heap.size w4 (w.heap.size + 2) (tn1 a) []) := hd
      have B_w4 : Hid (Below w.heap.size w w4) := B_w3.out.trans hb
      clear hd hb
      go_wp2_with fail
      refine (Create_L nA A1 c1 b D_w4.out okA (H1.out.on_lt B_w4.out) (by simp [tn1]) (by omega)).mono ?_
      rintro e w5 ⟨n, hn, he, hd, hb⟩
      obtain ⟨e1, e2⟩ := req_ok (s := tn1 a) (n := n) (o := ⟨.create, nA, ByteArray.empty, b, true⟩) (gate_create (nm := nA) (bs := b) rfl (by decide +kernel) (by omega) (.inl (by rw [tn1_now]; rfl))) rfl
      rw [e1] at he; rw [e2] at hd; subst he
      have D_w5 : Hid (LDev w.heap.size w5 (w.heap.size + 2) ({ (tn1 a : St) with ops := (tn1 a : St).ops ++ [⟨.create, nA, ByteArray.empty, b, true⟩] }) []) := hd
      have B_w5 : Hid (Below w.heap.size w w5) := B_w4.out.trans hb
      clear hd hb e1 e2 hn
      have E_w5 : Hid (LDev w.heap.size w5 (w.heap.size + 2) (tn2 a .create b) []) := D_w5.out
      clear D_w5
      go_wp2_with fail
      refine (Lose_L 0 torn E_w5.out (by simp [tn2]) (by omega)).mono ?_
      rintro e w6 ⟨he, hd, hb⟩
      subst he
      have E_w6 : Hid (LDev w.heap.size w6 (w.heap.size + 2) (loseS (tn2 a .create b) 0 torn) []) := hd
      have B_w6 : Hid (Below w.heap.size w w6) := B_w5.out.trans hb
      clear hd hb
      go_wp2_with fail
      refine (Restart_L E_w6.out (by simp [loseS, decideS])).mono ?_
      rintro e w7 ⟨he, hd, hb⟩
      rw [restart_lose] at hd
      subst he
      have E_w7 : Hid (LDev w.heap.size w7 (w.heap.size + 2) (⟨lossF (tn2 a .create b) 0 torn, [], false, 0⟩) []) := hd
      have B_w7 : Hid (Below w.heap.size w w7) := B_w6.out.trans hb
      clear hd hb
      go_wp2_with fail
      refine (Read_L nA E_w7.out okA).mono ?_
      rintro e w8 ⟨dra, he, hr, _, hb⟩
      rw [(readE_ok (s := ⟨lossF (tn2 a .create b) 0 torn, [], false, 0⟩) (nm := nA) (v := a) rfl (by decide +kernel) (by show lossF (tn2 a .create b) 0 torn nA = some (a); exact tn_neg a .create b torn (by omega))).1] at he; rw [(readE_ok (s := ⟨lossF (tn2 a .create b) 0 torn, [], false, 0⟩) (nm := nA) (v := a) rfl (by decide +kernel) (by show lossF (tn2 a .create b) 0 torn nA = some (a); exact tn_neg a .create b torn (by omega))).2] at hr; subst he
      have ra_w8 : Hid (RB w8 dra (a)) := hr
      have E_w8 : Hid (LDev w.heap.size w8 (w.heap.size + 2) (⟨lossF (tn2 a .create b) 0 torn, [], false, 0⟩) []) := E_w7.out.on hb
      have B_w8 : Hid (Below w.heap.size w w8) := B_w7.out.trans (hb.mono B_w7.out.size)
      clear hr hb
      unfold vB
      have v1 := conv_rb ra_w8.out
      have v2 := conv_str (H0.out.on_lt B_w8.out) c0
      go_wp2_with fail
      go_ret
      exact ⟨rfl, B_w8.out⟩
    · by_cases hz1 : torn = 0
      · subst hz1
        go_enter Try.func3, Try.ntmps3
        go_wp2_with fail
        refine (New_any _).mono ?_
        rintro e w1 ⟨rfl, hd, hb⟩
        have D_w1 : Hid (LDev w.heap.size w1 (w.heap.size + 2) St.new) := LDev.new hd hb
        have B_w1 : Hid (Below w.heap.size w w1) := (Below.refl w.heap.size w).trans (hb.mono (Below.refl w.heap.size w).size)
        clear hd hb
        go_wp2_with fail
        refine (known_any _).mono ?_
        rintro e w2 ⟨rfl, hb⟩
        have D_w2 : Hid (LDev w.heap.size w2 (w.heap.size + 2) (St.new) []) := D_w1.out.on hb
        have B_w2 : Hid (Below w.heap.size w w2) := B_w1.out.trans (hb.mono B_w1.out.size)
        clear hb
        go_wp2_with fail
        refine (Create_L nA A0 c0 a D_w2.out okA (H0.out.on_lt B_w2.out) (by decide) (by omega)).mono ?_
        rintro e w3 ⟨n, hn, he, hd, hb⟩
        obtain ⟨e1, e2⟩ := req_ok (s := St.new) (n := n) (o := ⟨.create, nA, ByteArray.empty, a, true⟩) (gate_create (nm := nA) (bs := a) rfl (by decide +kernel) (by omega) (.inr (by have := hn.uniq Cnt.none; omega))) rfl
        rw [e1] at he; rw [e2] at hd; subst he
        have D_w3 : Hid (LDev w.heap.size w3 (w.heap.size + 2) ({ (St.new : St) with ops := (St.new : St).ops ++ [⟨.create, nA, ByteArray.empty, a, true⟩] }) []) := hd
        have B_w3 : Hid (Below w.heap.size w w3) := B_w2.out.trans hb
        clear hd hb e1 e2 hn
        go_wp2_with fail
        refine (Sync_L D_w3.out (by simp [St.new])).mono ?_
        rintro e w4 ⟨he, hd, hb⟩
        rw [show syncE _ = 0 from rfl] at he
        subst he
        have D_w4 : Hid (LDev w.heap.size w4 (w.heap.size + 2) (tn1 a) []) := hd
        have B_w4 : Hid (Below w.heap.size w w4) := B_w3.out.trans hb
        clear hd hb
        go_wp2_with fail
        refine (Create_L nA A1 c1 b D_w4.out okA (H1.out.on_lt B_w4.out) (by simp [tn1]) (by omega)).mono ?_
        rintro e w5 ⟨n, hn, he, hd, hb⟩
        obtain ⟨e1, e2⟩ := req_ok (s := tn1 a) (n := n) (o := ⟨.create, nA, ByteArray.empty, b, true⟩) (gate_create (nm := nA) (bs := b) rfl (by decide +kernel) (by omega) (.inl (by rw [tn1_now]; rfl))) rfl
        rw [e1] at he; rw [e2] at hd; subst he
        have D_w5 : Hid (LDev w.heap.size w5 (w.heap.size + 2) ({ (tn1 a : St) with ops := (tn1 a : St).ops ++ [⟨.create, nA, ByteArray.empty, b, true⟩] }) []) := hd
        have B_w5 : Hid (Below w.heap.size w w5) := B_w4.out.trans hb
        clear hd hb e1 e2 hn
        have E_w5 : Hid (LDev w.heap.size w5 (w.heap.size + 2) (tn2 a .create b) []) := D_w5.out
        clear D_w5
        go_wp2_with fail
        refine (Lose_L 0 0 E_w5.out (by simp [tn2]) (by omega)).mono ?_
        rintro e w6 ⟨he, hd, hb⟩
        subst he
        have E_w6 : Hid (LDev w.heap.size w6 (w.heap.size + 2) (loseS (tn2 a .create b) 0 0) []) := hd
        have B_w6 : Hid (Below w.heap.size w w6) := B_w5.out.trans hb
        clear hd hb
        go_wp2_with fail
        refine (Restart_L E_w6.out (by simp [loseS, decideS])).mono ?_
        rintro e w7 ⟨he, hd, hb⟩
        rw [restart_lose] at hd
        subst he
        have E_w7 : Hid (LDev w.heap.size w7 (w.heap.size + 2) (⟨lossF (tn2 a .create b) 0 0, [], false, 0⟩) []) := hd
        have B_w7 : Hid (Below w.heap.size w w7) := B_w6.out.trans hb
        clear hd hb
        go_wp2_with fail
        refine (Read_L nA E_w7.out okA).mono ?_
        rintro e w8 ⟨dra, he, hr, _, hb⟩
        rw [(readE_ok (s := ⟨lossF (tn2 a .create b) 0 0, [], false, 0⟩) (nm := nA) (v := b.take 0) rfl (by decide +kernel) (by show lossF (tn2 a .create b) 0 0 nA = some (b.take 0); rw [tn_create a b 0 (by omega)]; rfl)).1] at he; rw [(readE_ok (s := ⟨lossF (tn2 a .create b) 0 0, [], false, 0⟩) (nm := nA) (v := b.take 0) rfl (by decide +kernel) (by show lossF (tn2 a .create b) 0 0 nA = some (b.take 0); rw [tn_create a b 0 (by omega)]; rfl)).2] at hr; subst he
        have ra_w8 : Hid (RB w8 dra (b.take 0)) := hr
        have E_w8 : Hid (LDev w.heap.size w8 (w.heap.size + 2) (⟨lossF (tn2 a .create b) 0 0, [], false, 0⟩) []) := E_w7.out.on hb
        have B_w8 : Hid (Below w.heap.size w w8) := B_w7.out.trans (hb.mono B_w7.out.size)
        clear hr hb
        unfold vB
        have v1 := conv_rb ra_w8.out
        have v2 := conv_str ((H1.out.on_lt B_w8.out).take (0)) c1
        rw [show (b.take (0)).length = 0 by rw [List.length_take]; omega] at v2
        go_wp2_with fail
        go_ret
        exact ⟨rfl, B_w8.out⟩
      by_cases hz2 : b.length = 0
      · obtain rfl : b = [] := List.eq_nil_of_length_eq_zero hz2
        have htp : 0 < torn := by omega
        go_enter Try.func3, Try.ntmps3
        go_wp2_with fail
        refine (New_any _).mono ?_
        rintro e w1 ⟨rfl, hd, hb⟩
        have D_w1 : Hid (LDev w.heap.size w1 (w.heap.size + 2) St.new) := LDev.new hd hb
        have B_w1 : Hid (Below w.heap.size w w1) := (Below.refl w.heap.size w).trans (hb.mono (Below.refl w.heap.size w).size)
        clear hd hb
        go_wp2_with fail
        refine (known_any _).mono ?_
        rintro e w2 ⟨rfl, hb⟩
        have D_w2 : Hid (LDev w.heap.size w2 (w.heap.size + 2) (St.new) []) := D_w1.out.on hb
        have B_w2 : Hid (Below w.heap.size w w2) := B_w1.out.trans (hb.mono B_w1.out.size)
        clear hb
        go_wp2_with fail
        refine (Create_L nA A0 c0 a D_w2.out okA (H0.out.on_lt B_w2.out) (by decide) (by omega)).mono ?_
        rintro e w3 ⟨n, hn, he, hd, hb⟩
        obtain ⟨e1, e2⟩ := req_ok (s := St.new) (n := n) (o := ⟨.create, nA, ByteArray.empty, a, true⟩) (gate_create (nm := nA) (bs := a) rfl (by decide +kernel) (by omega) (.inr (by have := hn.uniq Cnt.none; omega))) rfl
        rw [e1] at he; rw [e2] at hd; subst he
        have D_w3 : Hid (LDev w.heap.size w3 (w.heap.size + 2) ({ (St.new : St) with ops := (St.new : St).ops ++ [⟨.create, nA, ByteArray.empty, a, true⟩] }) []) := hd
        have B_w3 : Hid (Below w.heap.size w w3) := B_w2.out.trans hb
        clear hd hb e1 e2 hn
        go_wp2_with fail
        refine (Sync_L D_w3.out (by simp [St.new])).mono ?_
        rintro e w4 ⟨he, hd, hb⟩
        rw [show syncE _ = 0 from rfl] at he
        subst he
        have D_w4 : Hid (LDev w.heap.size w4 (w.heap.size + 2) (tn1 a) []) := hd
        have B_w4 : Hid (Below w.heap.size w w4) := B_w3.out.trans hb
        clear hd hb
        go_wp2_with fail
        refine (Create_L nA A1 c1 ([] : List UInt8) D_w4.out okA (H1.out.on_lt B_w4.out) (by simp [tn1]) (by omega)).mono ?_
        rintro e w5 ⟨n, hn, he, hd, hb⟩
        obtain ⟨e1, e2⟩ := req_ok (s := tn1 a) (n := n) (o := ⟨.create, nA, ByteArray.empty, ([] : List UInt8), true⟩) (gate_create (nm := nA) (bs := ([] : List UInt8)) rfl (by decide +kernel) (by omega) (.inl (by rw [tn1_now]; rfl))) rfl
        rw [e1] at he; rw [e2] at hd; subst he
        have D_w5 : Hid (LDev w.heap.size w5 (w.heap.size + 2) ({ (tn1 a : St) with ops := (tn1 a : St).ops ++ [⟨.create, nA, ByteArray.empty, ([] : List UInt8), true⟩] }) []) := hd
        have B_w5 : Hid (Below w.heap.size w w5) := B_w4.out.trans hb
        clear hd hb e1 e2 hn
        have E_w5 : Hid (LDev w.heap.size w5 (w.heap.size + 2) (tn2 a .create ([] : List UInt8)) []) := D_w5.out
        clear D_w5
        go_wp2_with fail
        refine (Lose_L 0 torn E_w5.out (by simp [tn2]) (by omega)).mono ?_
        rintro e w6 ⟨he, hd, hb⟩
        subst he
        have E_w6 : Hid (LDev w.heap.size w6 (w.heap.size + 2) (loseS (tn2 a .create ([] : List UInt8)) 0 torn) []) := hd
        have B_w6 : Hid (Below w.heap.size w w6) := B_w5.out.trans hb
        clear hd hb
        go_wp2_with fail
        refine (Restart_L E_w6.out (by simp [loseS, decideS])).mono ?_
        rintro e w7 ⟨he, hd, hb⟩
        rw [restart_lose] at hd
        subst he
        have E_w7 : Hid (LDev w.heap.size w7 (w.heap.size + 2) (⟨lossF (tn2 a .create ([] : List UInt8)) 0 torn, [], false, 0⟩) []) := hd
        have B_w7 : Hid (Below w.heap.size w w7) := B_w6.out.trans hb
        clear hd hb
        go_wp2_with fail
        refine (Read_L nA E_w7.out okA).mono ?_
        rintro e w8 ⟨dra, he, hr, _, hb⟩
        rw [(readE_ok (s := ⟨lossF (tn2 a .create ([] : List UInt8)) 0 torn, [], false, 0⟩) (nm := nA) (v := ([] : List UInt8).take 0) rfl (by decide +kernel) (by show lossF (tn2 a .create ([] : List UInt8)) 0 torn nA = some (([] : List UInt8).take 0); rw [tn_create a ([] : List UInt8) torn (by omega)]; simp)).1] at he; rw [(readE_ok (s := ⟨lossF (tn2 a .create ([] : List UInt8)) 0 torn, [], false, 0⟩) (nm := nA) (v := ([] : List UInt8).take 0) rfl (by decide +kernel) (by show lossF (tn2 a .create ([] : List UInt8)) 0 torn nA = some (([] : List UInt8).take 0); rw [tn_create a ([] : List UInt8) torn (by omega)]; simp)).2] at hr; subst he
        have ra_w8 : Hid (RB w8 dra (([] : List UInt8).take 0)) := hr
        have E_w8 : Hid (LDev w.heap.size w8 (w.heap.size + 2) (⟨lossF (tn2 a .create ([] : List UInt8)) 0 torn, [], false, 0⟩) []) := E_w7.out.on hb
        have B_w8 : Hid (Below w.heap.size w w8) := B_w7.out.trans (hb.mono B_w7.out.size)
        clear hr hb
        unfold vB
        have v1 := conv_rb ra_w8.out
        have v2 := conv_str ((H1.out.on_lt B_w8.out).take (0)) c1
        rw [show (([] : List UInt8).take (0)).length = 0 by rw [List.length_take]; omega] at v2
        go_wp2_with fail
        go_ret
        exact ⟨rfl, B_w8.out⟩
      by_cases hbg : (b.length : Int) < torn
      · have hm : min torn (b.length : Int) = b.length := by omega
        have hx : max 0 (b.length : Int) = b.length := by omega
        have hlp : 0 < b.length := by omega
        go_enter Try.func3, Try.ntmps3
        go_wp2_with fail
        refine (New_any _).mono ?_
        rintro e w1 ⟨rfl, hd, hb⟩
        have D_w1 : Hid (LDev w.heap.size w1 (w.heap.size + 2) St.new) := LDev.new hd hb
        have B_w1 : Hid (Below w.heap.size w w1) := (Below.refl w.heap.size w).trans (hb.mono (Below.refl w.heap.size w).size)
        clear hd hb
        go_wp2_with fail
        refine (known_any _).mono ?_
        rintro e w2 ⟨rfl, hb⟩
        have D_w2 : Hid (LDev w.heap.size w2 (w.heap.size + 2) (St.new) []) := D_w1.out.on hb
        have B_w2 : Hid (Below w.heap.size w w2) := B_w1.out.trans (hb.mono B_w1.out.size)
        clear hb
        go_wp2_with fail
        refine (Create_L nA A0 c0 a D_w2.out okA (H0.out.on_lt B_w2.out) (by decide) (by omega)).mono ?_
        rintro e w3 ⟨n, hn, he, hd, hb⟩
        obtain ⟨e1, e2⟩ := req_ok (s := St.new) (n := n) (o := ⟨.create, nA, ByteArray.empty, a, true⟩) (gate_create (nm := nA) (bs := a) rfl (by decide +kernel) (by omega) (.inr (by have := hn.uniq Cnt.none; omega))) rfl
        rw [e1] at he; rw [e2] at hd; subst he
        have D_w3 : Hid (LDev w.heap.size w3 (w.heap.size + 2) ({ (St.new : St) with ops := (St.new : St).ops ++ [⟨.create, nA, ByteArray.empty, a, true⟩] }) []) := hd
        have B_w3 : Hid (Below w.heap.size w w3) := B_w2.out.trans hb
        clear hd hb e1 e2 hn
        go_wp2_with fail
        refine (Sync_L D_w3.out (by simp [St.new])).mono ?_
        rintro e w4 ⟨he, hd, hb⟩
        rw [show syncE _ = 0 from rfl] at he
        subst he
        have D_w4 : Hid (LDev w.heap.size w4 (w.heap.size + 2) (tn1 a) []) := hd
        have B_w4 : Hid (Below w.heap.size w w4) := B_w3.out.trans hb
        clear hd hb
        go_wp2_with fail
        refine (Create_L nA A1 c1 b D_w4.out okA (H1.out.on_lt B_w4.out) (by simp [tn1]) (by omega)).mono ?_
        rintro e w5 ⟨n, hn, he, hd, hb⟩
        obtain ⟨e1, e2⟩ := req_ok (s := tn1 a) (n := n) (o := ⟨.create, nA, ByteArray.empty, b, true⟩) (gate_create (nm := nA) (bs := b) rfl (by decide +kernel) (by omega) (.inl (by rw [tn1_now]; rfl))) rfl
        rw [e1] at he; rw [e2] at hd; subst he
        have D_w5 : Hid (LDev w.heap.size w5 (w.heap.size + 2) ({ (tn1 a : St) with ops := (tn1 a : St).ops ++ [⟨.create, nA, ByteArray.empty, b, true⟩] }) []) := hd
        have B_w5 : Hid (Below w.heap.size w w5) := B_w4.out.trans hb
        clear hd hb e1 e2 hn
        have E_w5 : Hid (LDev w.heap.size w5 (w.heap.size + 2) (tn2 a .create b) []) := D_w5.out
        clear D_w5
        go_wp2_with fail
        refine (Lose_L 0 torn E_w5.out (by simp [tn2]) (by omega)).mono ?_
        rintro e w6 ⟨he, hd, hb⟩
        subst he
        have E_w6 : Hid (LDev w.heap.size w6 (w.heap.size + 2) (loseS (tn2 a .create b) 0 torn) []) := hd
        have B_w6 : Hid (Below w.heap.size w w6) := B_w5.out.trans hb
        clear hd hb
        go_wp2_with fail
        refine (Restart_L E_w6.out (by simp [loseS, decideS])).mono ?_
        rintro e w7 ⟨he, hd, hb⟩
        rw [restart_lose] at hd
        subst he
        have E_w7 : Hid (LDev w.heap.size w7 (w.heap.size + 2) (⟨lossF (tn2 a .create b) 0 torn, [], false, 0⟩) []) := hd
        have B_w7 : Hid (Below w.heap.size w w7) := B_w6.out.trans hb
        clear hd hb
        go_wp2_with fail
        refine (Read_L nA E_w7.out okA).mono ?_
        rintro e w8 ⟨dra, he, hr, _, hb⟩
        rw [(readE_ok (s := ⟨lossF (tn2 a .create b) 0 torn, [], false, 0⟩) (nm := nA) (v := b.take b.length) rfl (by decide +kernel) (by show lossF (tn2 a .create b) 0 torn nA = some (b.take b.length); rw [tn_create a b torn (by omega), List.take_of_length_le (show b.length ≤ torn.toNat by omega), List.take_length])).1] at he; rw [(readE_ok (s := ⟨lossF (tn2 a .create b) 0 torn, [], false, 0⟩) (nm := nA) (v := b.take b.length) rfl (by decide +kernel) (by show lossF (tn2 a .create b) 0 torn nA = some (b.take b.length); rw [tn_create a b torn (by omega), List.take_of_length_le (show b.length ≤ torn.toNat by omega), List.take_length])).2] at hr; subst he
        have ra_w8 : Hid (RB w8 dra (b.take b.length)) := hr
        have E_w8 : Hid (LDev w.heap.size w8 (w.heap.size + 2) (⟨lossF (tn2 a .create b) 0 torn, [], false, 0⟩) []) := E_w7.out.on hb
        have B_w8 : Hid (Below w.heap.size w w8) := B_w7.out.trans (hb.mono B_w7.out.size)
        clear hr hb
        unfold vB
        have v1 := conv_rb ra_w8.out
        have v2 := conv_str ((H1.out.on_lt B_w8.out).take (b.length)) c1
        rw [show (b.take (b.length)).length = b.length by rw [List.length_take]; omega] at v2
        go_wp2_with fail
        go_ret
        exact ⟨rfl, B_w8.out⟩
      · obtain ⟨t, rfl⟩ : ∃ t : Nat, torn = (t : Int) := ⟨torn.toNat, by omega⟩
        have hm : min (t : Int) (b.length : Int) = t := by omega
        have hx : max 0 (t : Int) = t := by omega
        have htl : t ≤ b.length := by omega
        have htp : 0 < t := by omega
        go_enter Try.func3, Try.ntmps3
        go_wp2_with fail
        refine (New_any _).mono ?_
        rintro e w1 ⟨rfl, hd, hb⟩
        have D_w1 : Hid (LDev w.heap.size w1 (w.heap.size + 2) St.new) := LDev.new hd hb
        have B_w1 : Hid (Below w.heap.size w w1) := (Below.refl w.heap.size w).trans (hb.mono (Below.refl w.heap.size w).size)
        clear hd hb
        go_wp2_with fail
        refine (known_any _).mono ?_
        rintro e w2 ⟨rfl, hb⟩
        have D_w2 : Hid (LDev w.heap.size w2 (w.heap.size + 2) (St.new) []) := D_w1.out.on hb
        have B_w2 : Hid (Below w.heap.size w w2) := B_w1.out.trans (hb.mono B_w1.out.size)
        clear hb
        go_wp2_with fail
        refine (Create_L nA A0 c0 a D_w2.out okA (H0.out.on_lt B_w2.out) (by decide) (by omega)).mono ?_
        rintro e w3 ⟨n, hn, he, hd, hb⟩
        obtain ⟨e1, e2⟩ := req_ok (s := St.new) (n := n) (o := ⟨.create, nA, ByteArray.empty, a, true⟩) (gate_create (nm := nA) (bs := a) rfl (by decide +kernel) (by omega) (.inr (by have := hn.uniq Cnt.none; omega))) rfl
        rw [e1] at he; rw [e2] at hd; subst he
        have D_w3 : Hid (LDev w.heap.size w3 (w.heap.size + 2) ({ (St.new : St) with ops := (St.new : St).ops ++ [⟨.create, nA, ByteArray.empty, a, true⟩] }) []) := hd
        have B_w3 : Hid (Below w.heap.size w w3) := B_w2.out.trans hb
        clear hd hb e1 e2 hn
        go_wp2_with fail
        refine (Sync_L D_w3.out (by simp [St.new])).mono ?_
        rintro e w4 ⟨he, hd, hb⟩
        rw [show syncE _ = 0 from rfl] at he
        subst he
        have D_w4 : Hid (LDev w.heap.size w4 (w.heap.size + 2) (tn1 a) []) := hd
        have B_w4 : Hid (Below w.heap.size w w4) := B_w3.out.trans hb
        clear hd hb
        go_wp2_with fail
        refine (Create_L nA A1 c1 b D_w4.out okA (H1.out.on_lt B_w4.out) (by simp [tn1]) (by omega)).mono ?_
        rintro e w5 ⟨n, hn, he, hd, hb⟩
        obtain ⟨e1, e2⟩ := req_ok (s := tn1 a) (n := n) (o := ⟨.create, nA, ByteArray.empty, b, true⟩) (gate_create (nm := nA) (bs := b) rfl (by decide +kernel) (by omega) (.inl (by rw [tn1_now]; rfl))) rfl
        rw [e1] at he; rw [e2] at hd; subst he
        have D_w5 : Hid (LDev w.heap.size w5 (w.heap.size + 2) ({ (tn1 a : St) with ops := (tn1 a : St).ops ++ [⟨.create, nA, ByteArray.empty, b, true⟩] }) []) := hd
        have B_w5 : Hid (Below w.heap.size w w5) := B_w4.out.trans hb
        clear hd hb e1 e2 hn
        have E_w5 : Hid (LDev w.heap.size w5 (w.heap.size + 2) (tn2 a .create b) []) := D_w5.out
        clear D_w5
        go_wp2_with fail
        refine (Lose_L 0 (t : Int) E_w5.out (by simp [tn2]) (by omega)).mono ?_
        rintro e w6 ⟨he, hd, hb⟩
        subst he
        have E_w6 : Hid (LDev w.heap.size w6 (w.heap.size + 2) (loseS (tn2 a .create b) 0 (t : Int)) []) := hd
        have B_w6 : Hid (Below w.heap.size w w6) := B_w5.out.trans hb
        clear hd hb
        go_wp2_with fail
        refine (Restart_L E_w6.out (by simp [loseS, decideS])).mono ?_
        rintro e w7 ⟨he, hd, hb⟩
        rw [restart_lose] at hd
        subst he
        have E_w7 : Hid (LDev w.heap.size w7 (w.heap.size + 2) (⟨lossF (tn2 a .create b) 0 (t : Int), [], false, 0⟩) []) := hd
        have B_w7 : Hid (Below w.heap.size w w7) := B_w6.out.trans hb
        clear hd hb
        go_wp2_with fail
        refine (Read_L nA E_w7.out okA).mono ?_
        rintro e w8 ⟨dra, he, hr, _, hb⟩
        rw [(readE_ok (s := ⟨lossF (tn2 a .create b) 0 (t : Int), [], false, 0⟩) (nm := nA) (v := b.take t) rfl (by decide +kernel) (by show lossF (tn2 a .create b) 0 (t : Int) nA = some (b.take t); rw [tn_create a b (t : Int) (by omega)]; rfl)).1] at he; rw [(readE_ok (s := ⟨lossF (tn2 a .create b) 0 (t : Int), [], false, 0⟩) (nm := nA) (v := b.take t) rfl (by decide +kernel) (by show lossF (tn2 a .create b) 0 (t : Int) nA = some (b.take t); rw [tn_create a b (t : Int) (by omega)]; rfl)).2] at hr; subst he
        have ra_w8 : Hid (RB w8 dra (b.take t)) := hr
        have E_w8 : Hid (LDev w.heap.size w8 (w.heap.size + 2) (⟨lossF (tn2 a .create b) 0 (t : Int), [], false, 0⟩) []) := E_w7.out.on hb
        have B_w8 : Hid (Below w.heap.size w w8) := B_w7.out.trans (hb.mono B_w7.out.size)
        clear hr hb
        unfold vB
        have v1 := conv_rb ra_w8.out
        have v2 := conv_str ((H1.out.on_lt B_w8.out).take (t)) c1
        rw [show (b.take (t)).length = t by rw [List.length_take]; omega] at v2
        go_wp2_with fail
        go_ret
        exact ⟨rfl, B_w8.out⟩
theorem law3F (A0 : Option Addr) (len0 c0 : Nat) (a : List UInt8) (e0 : a.length = len0) (A1 : Option Addr) (len1 c1 : Nat) (b : List UInt8) (e1 : b.length = len1) (torn : Int) (add : Bool) (w : World) (h0 : SB w A0 a) (h1 : SB w A1 b) (hc1 : len1 ≤ c1) (hl0 : len0 ≤ 9223372036854775807) (hl1 : len1 ≤ 9223372036854775807) (ht : torn ≤ 9223372036854775807) :
    Calls Try.prog 3 #[.slice A0 len0 c0, .slice A1 len1 c1, .int .i64 torn, .bool add] w (Gives (.bool true) w) := by
  subst e0 e1
  exact law3 A0 A1 c0 c1 a b torn add w h0 h1 hc1 hl0 hl1 ht
end Go.Proofs.Ytddjkkmdcdiofaa
