/- Walks of laws: Keeps. -/
import Derived.Test.YtddjkkmdcdiofaaTE
import Derived.Test.YtddjkkmdcdiofaaLC
namespace Go.Proofs.Ytddjkkmdcdiofaa
open Go.RowKit Go.MapKept Go.ChangeMaps

theorem tape0 {A : Option Addr} {l : List Int} {c : Nat} {w : World} (hr : RdT w w.heap.size A l) (hn : l.length ≤ 9223372036854775807) : Tp (w.alloc (.cells #[.slice A l.length c, .int .i64 0] 39)) w.heap.size 0 :=
  ⟨A, c, 0, l, IsB.new _ _ _, Nat.le_refl _, hn, hr.keep fun b o hb => ((Below.refl w.heap.size w).alloc (Nat.le_refl _) _).cell (p := ⟨b, o, none⟩) hb⟩
theorem law_end {w w' : World} (h : w.grownBy w' (some w.heap.size)) : Below w.heap.size w w' :=
  ⟨h.os, h.tape, h.output, h.size, fun i hi => h.block i hi (fun e => by injection e with e; omega)⟩
theorem g_low1 {w w1 w' : World} (h : w.grownBy w1 (some w.heap.size)) (hb : Below (w.heap.size + 1) w1 w') : w.grownBy w' (some w.heap.size) :=
  ⟨hb.os.trans h.os, hb.tape.trans h.tape, hb.output.trans h.output, Nat.le_trans h.size hb.size, fun i hi hne => (hb.block i (by omega)).trans (h.block i hi hne)⟩
abbrev nZ : ByteArray := ⟨#[122]⟩
theorem okZ : okS nZ := by simp [okS, maxLen, ByteArray.size]
theorem names_z : ∀ n ∈ NAMES, n ≠ nZ := by
  intro n hn
  simp only [NAMES, List.mem_cons, List.not_mem_nil, or_false] at hn
  rcases hn with rfl | rfl | rfl | rfl | rfl | rfl | rfl <;> decide +kernel
/-- The file z is durable, and no pending operation names it. -/
def KZ (bs : List UInt8) (m : Nat) (s : St) : Prop := s.K nZ = some bs ∧ s.dn = false ∧ s.f = 0 ∧ (∀ o ∈ s.ops, o.nm ≠ nZ ∧ o.to ≠ nZ) ∧ s.ops.length ≤ m
theorem apply_ne (f : FF) (o : POp) {z : ByteArray} (h1 : o.nm ≠ z) (h2 : o.to ≠ z) : applyF f o z = f z := by
  obtain ⟨k, nm, to, bs, t⟩ := o
  simp only at h1 h2
  cases k
  · simp only [applyF, FF.set, if_neg h1]
  · simp only [applyF, FF.set, if_neg h1]
  · simp only [applyF, FF.set, if_neg h1]
  · simp only [applyF]
    split
    · rfl
    · simp only [FF.set, if_neg h1, if_neg h2]
theorem fold_ne (l : List POp) (f : FF) {z : ByteArray} (h : ∀ o ∈ l, o.nm ≠ z ∧ o.to ≠ z) : l.foldl applyF f z = f z := by
  induction l generalizing f with
  | nil => rfl
  | cons o l ih =>
    rw [List.foldl_cons, ih _ (fun o ho => h o (List.mem_cons_of_mem _ ho)), apply_ne f o (h o List.mem_cons_self).1 (h o List.mem_cons_self).2]
theorem KZ.loss {bs : List UInt8} {m : Nat} {s : St} (h : KZ bs m s) (k t : Int) : lossF s k t nZ = some bs := by
  obtain ⟨h1, _, _, h4, _⟩ := h
  have hf : ∀ j, foldK s j nZ = some bs := fun j => by
    rw [foldK, fold_ne _ _ (fun o ho => h4 o (List.mem_of_mem_take ho)), h1]
  unfold lossF
  split
  · exact h1
  · cases ho : s.ops[k.toNat]? with
    | some o =>
      simp only
      by_cases hc : o.tears = true ∧ 0 ≤ t
      · have := h4 o (List.mem_of_getElem? ho)
        rw [if_pos hc, apply_ne _ (o.cutTo t) this.1 this.2]
        exact hf _
      · rw [if_neg hc]
        exact hf _
    | none =>
      simp only
      rw [← foldK_all]
      exact hf _
theorem lop_ne (o : LOp) (h : o.Ok) : o.op.nm ≠ nZ ∧ o.op.to ≠ nZ := by
  have h1 := names_z _ h.nm
  have h2 := names_z _ h.to
  have h3 : (ByteArray.empty : ByteArray) ≠ nZ := by decide +kernel
  unfold LOp.op
  split
  · exact ⟨h1, h3⟩
  · split
    · exact ⟨h1, h3⟩
    · split
      · exact ⟨h1, h2⟩
      · exact ⟨h1, h3⟩
theorem KZ.req {bs : List UInt8} {m n : Nat} {s : St} (h : KZ bs m s) (o : LOp) (ho : o.Ok) : KZ bs (m + 1) (reqS s n o.op) := by
  obtain ⟨h1, h2, h3, h4, h5⟩ := h
  unfold reqS
  split
  · rw [if_neg (by omega)]
    refine ⟨h1, by simp [St.did, burnD, h3, h2], by simp [St.did, burnF, h3], fun x hx => ?_, by simp [St.did]; omega⟩
    rcases List.mem_append.1 hx with hx | hx
    · exact h4 x hx
    · simp at hx
      subst hx
      exact lop_ne o ho
  · exact ⟨h1, h2, h3, h4, by omega⟩
set_option maxRecDepth 100000 in
set_option maxHeartbeats 8000000 in
theorem law6 (A : Option Addr) (l : List Int) (c : Nat) (A1 : Option Addr) (c1 : Nat) (b : List UInt8) (w : World) (hr : RdT w w.heap.size A l) (hl : l.length ≤ 9223372036854775807) (h1 : SB w A1 b) (hl1 : b.length ≤ 9223372036854775807) :
    Calls Try.prog 6 #[.slice A l.length c, .slice A1 b.length c1] w (Gives (.bool true) w) := by
  have Hr := Lib.hid hr
  have H1 := Lib.hid h1
  clear hr h1
  by_cases hbig : 4194304 < b.length
  · go_enter Try.func6, Try.ntmps6
    go_wp2_with fail
    have T_w0 : Hid (Tp (w.alloc (.cells #[.slice A l.length c, .int .i64 0] 39)) w.heap.size 0) := tape0 Hr.out hl
    have G_w0 : Hid (w.grownBy (w.alloc (.cells #[.slice A l.length c, .int .i64 0] 39)) (some w.heap.size)) := World.grownBy_alloc _ _ _
    have s0 : w.heap.size + 1 ≤ (w.alloc (.cells #[.slice A l.length c, .int .i64 0] 39)).heap.size := by simp
    generalize w.alloc (.cells #[.slice A l.length c, .int .i64 0] 39) = w0 at *
    go_wp2_with fail
    refine (New_any _).mono ?_
    rintro e w1 ⟨rfl, hd, hb⟩
    have D_w1 : Hid (LDev (w.heap.size + 1) w1 (w0.heap.size + 2) St.new) := (LDev.new hd hb).low (by omega)
    have T_w1 : Hid (Tp w1 w.heap.size (0)) := T_w0.out.on hb
    have G_w1 : Hid (w.grownBy w1 (some w.heap.size)) := g_below G_w0.out hb
    have S_w1 := G_w1.out.size
    clear hd hb
    go_wp2_with fail
    refine (known_any _).mono ?_
    rintro e w2 ⟨rfl, hb⟩
    have D_w2 : Hid (LDev (w.heap.size + 1) w2 (w0.heap.size + 2) (St.new) []) := D_w1.out.on hb
    have T_w2 : Hid (Tp w2 w.heap.size (0)) := T_w1.out.on hb
    have G_w2 : Hid (w.grownBy w2 (some w.heap.size)) := g_below G_w1.out hb
    have S_w2 := G_w2.out.size
    clear hb
    go_wp2_with fail
    refine (Create_L nZ A1 c1 b D_w2.out okZ (H1.out.on_lt (law_end G_w2.out)) (by decide) (by omega)).mono ?_
    rintro e w3 ⟨n, hn, he, hd, hb⟩
    obtain ⟨e1, e2⟩ := req_no (s := St.new) (n := n) (o := ⟨.create, nZ, ByteArray.empty, b, true⟩) (v := 302) (by simp [gate, St.new, hbig, show nameB nZ = true by decide +kernel]) (by decide)
    rw [e1] at he; rw [e2] at hd; subst he
    have D_w3 : Hid (LDev (w.heap.size + 1) w3 (w0.heap.size + 2) (St.new) []) := hd
    have T_w3 : Hid (Tp w3 w.heap.size (0)) := T_w2.out.low hb
    have G_w3 : Hid (w.grownBy w3 (some w.heap.size)) := g_low1 G_w2.out hb
    have S_w3 := G_w3.out.size
    clear hd hb e1 e2 hn
    go_wp2_with fail
    go_ret
    exact ⟨rfl, (law_end G_w3.out)⟩
  · go_enter Try.func6, Try.ntmps6
    go_wp2_with fail
    have T_w0 : Hid (Tp (w.alloc (.cells #[.slice A l.length c, .int .i64 0] 39)) w.heap.size 0) := tape0 Hr.out hl
    have G_w0 : Hid (w.grownBy (w.alloc (.cells #[.slice A l.length c, .int .i64 0] 39)) (some w.heap.size)) := World.grownBy_alloc _ _ _
    have s0 : w.heap.size + 1 ≤ (w.alloc (.cells #[.slice A l.length c, .int .i64 0] 39)).heap.size := by simp
    generalize w.alloc (.cells #[.slice A l.length c, .int .i64 0] 39) = w0 at *
    go_wp2_with fail
    refine (New_any _).mono ?_
    rintro e w1 ⟨rfl, hd, hb⟩
    have D_w1 : Hid (LDev (w.heap.size + 1) w1 (w0.heap.size + 2) St.new) := (LDev.new hd hb).low (by omega)
    have T_w1 : Hid (Tp w1 w.heap.size (0)) := T_w0.out.on hb
    have G_w1 : Hid (w.grownBy w1 (some w.heap.size)) := g_below G_w0.out hb
    have S_w1 := G_w1.out.size
    clear hd hb
    go_wp2_with fail
    refine (known_any _).mono ?_
    rintro e w2 ⟨rfl, hb⟩
    have D_w2 : Hid (LDev (w.heap.size + 1) w2 (w0.heap.size + 2) (St.new) []) := D_w1.out.on hb
    have T_w2 : Hid (Tp w2 w.heap.size (0)) := T_w1.out.on hb
    have G_w2 : Hid (w.grownBy w2 (some w.heap.size)) := g_below G_w1.out hb
    have S_w2 := G_w2.out.size
    clear hb
    go_wp2_with fail
    refine (Create_L nZ A1 c1 b D_w2.out okZ (H1.out.on_lt (law_end G_w2.out)) (by decide) (by omega)).mono ?_
    rintro e w3 ⟨n, hn, he, hd, hb⟩
    obtain ⟨e1, e2⟩ := req_ok (s := St.new) (n := n) (o := ⟨.create, nZ, ByteArray.empty, b, true⟩) (gate_create (nm := nZ) (bs := b) rfl (by decide +kernel) (by omega) (.inr (by have := hn.uniq Cnt.none; omega))) rfl
    rw [e1] at he; rw [e2] at hd; subst he
    have D_w3 : Hid (LDev (w.heap.size + 1) w3 (w0.heap.size + 2) ({ (St.new : St) with ops := (St.new : St).ops ++ [⟨.create, nZ, ByteArray.empty, b, true⟩] }) []) := hd
    have T_w3 : Hid (Tp w3 w.heap.size (0)) := T_w2.out.low hb
    have G_w3 : Hid (w.grownBy w3 (some w.heap.size)) := g_low1 G_w2.out hb
    have S_w3 := G_w3.out.size
    clear hd hb e1 e2 hn
    go_wp2_with fail
    refine (Sync_L D_w3.out (by simp [St.new])).mono ?_
    rintro e w4 ⟨he, hd, hb⟩
    rw [show syncE _ = 0 from rfl] at he
    subst he
    have D_w4 : Hid (LDev (w.heap.size + 1) w4 (w0.heap.size + 2) (⟨FF.set (fun _ => none) nZ (some b), [], false, 0⟩) []) := hd
    have T_w4 : Hid (Tp w4 w.heap.size (0)) := T_w3.out.low hb
    have G_w4 : Hid (w.grownBy w4 (some w.heap.size)) := g_low1 G_w3.out hb
    have S_w4 := G_w4.out.size
    clear hd hb
    go_wp2_with fail
    refine (Next_any 9 w.heap.size (0) _ (by omega) (by omega) T_w4.out).mono ?_
    rintro e w5 ⟨y, hy, rfl, ht, hg⟩
    obtain ⟨k0, rfl⟩ : ∃ k0 : Nat, y = (k0 : Int) := ⟨y.toNat, by have := hy.1; omega⟩
    have hk0 : k0 < 9 := by have := hy.2.1 (by omega); omega
    have D_w5 : Hid (LDev (w.heap.size + 1) w5 (w0.heap.size + 2) (⟨FF.set (fun _ => none) nZ (some b), [], false, 0⟩) []) := D_w4.out.tape T_w4.out hg
    have T_w5 : Hid (Tp w5 w.heap.size (0 + 1)) := ht
    have G_w5 : Hid (w.grownBy w5 (some w.heap.size)) := g_trans G_w4.out hg
    have S_w5 := G_w5.out.size
    clear ht hg hy
    have KZ0 : Hid (KZ b 0 ⟨FF.set (fun _ => none) nZ (some b), [], false, 0⟩) := ⟨by simp [FF.set], rfl, rfl, by simp, by simp⟩
    go_wp2_with fail
    go_loopw [7] (fun i wr => ∃ (k : Nat) (s : St), k ≤ 8 ∧ i = .int .i64 k ∧ KZ b (8 - k) s ∧ LDev (w.heap.size + 1) wr (w0.heap.size + 2) s ∧ Tp wr w.heap.size (0 + 1 + 20 * (8 - k)) ∧ w.grownBy wr (some w.heap.size)) (fun i _ => (intOf i).toNat)
    case atStart => exact ⟨k0, _, by omega, rfl, ⟨KZ0.out.1, rfl, rfl, by simp, by simp⟩, D_w5.out, T_w5.out.more (by omega), G_w5.out⟩
    case round =>
      obtain ⟨k, st, hk, rfl, hkz, hd, ht, hg⟩ := hrel
      have KZ1 := Lib.hid hkz
      have D_wr := Lib.hid hd
      have T_wr := Lib.hid ht
      have G_wr := Lib.hid hg
      have S_wr := hg.size
      have hLs : st.ops.length ≤ 8 := by have := hkz.2.2.2.2; omega
      clear hkz hd ht hg KZ0
      by_cases hpos : 0 < k
      · go_wp2_with fail
        refine (operation_any w.heap.size (0 + 1 + 20 * (8 - k)) _ (by omega) T_wr.out).mono ?_
        rintro e w21 ⟨o, ho, rfl, hro, hfo, ht, hg⟩
        have D_w21 : Hid (LDev (w.heap.size + 1) w21 (w0.heap.size + 2) (st) []) := D_wr.out.tape T_wr.out hg
        have T_w21 : Hid (Tp w21 w.heap.size (0 + 1 + 20 * (8 - k) + 20)) := ht
        have G_w21 : Hid (w.grownBy w21 (some w.heap.size)) := g_trans G_wr.out hg
        have S_w21 := G_w21.out.size
        have H_ho := Lib.hid ho
        have H_hro := Lib.hid hro
        clear ht hg ho hro
        clear hfo
        go_wp2_with fail
        refine (ldo_L o D_w21.out H_ho.out H_hro.out (by omega)).mono ?_
        rintro e w22 ⟨n, hn, rfl, hd, hb⟩
        have D_w22 : Hid (LDev (w.heap.size + 1) w22 (w0.heap.size + 2) (reqS st n o.op) []) := hd
        have T_w22 : Hid (Tp w22 w.heap.size (0 + 1 + 20 * (8 - k) + 20)) := T_w21.out.low hb
        have G_w22 : Hid (w.grownBy w22 (some w.heap.size)) := g_low1 G_w21.out hb
        have S_w22 := G_w22.out.size
        have KZ2 : Hid (KZ b (8 - k + 1) (reqS st n o.op)) := KZ1.out.req o H_ho.out
        clear hd hb hn
        go_wp2_with fail
        go_roundw
        case rel => exact ⟨k - 1, _, by omega, by go_num, (show 8 - (k - 1) = 8 - k + 1 by omega) ▸ KZ2.out, D_w22.out, T_w22.out.more (by omega), G_w22.out⟩
        case measure => simp [intOf]; omega
      · obtain rfl : k = 0 := by omega
        go_wp2_with fail
        refine (loss_any w.heap.size (0 + 1 + 20 * (8 - 0)) _ (by omega) T_wr.out).mono ?_
        rintro e w41 ⟨lk, lt, hlk, hlt, rfl, ht, hg⟩
        have D_w41 : Hid (LDev (w.heap.size + 1) w41 (w0.heap.size + 2) (st) []) := D_wr.out.tape T_wr.out hg
        have T_w41 : Hid (Tp w41 w.heap.size (0 + 1 + 20 * (8 - 0) + 2)) := ht
        have G_w41 : Hid (w.grownBy w41 (some w.heap.size)) := g_trans G_wr.out hg
        have S_w41 := G_w41.out.size
        clear ht hg 
        go_wp2_with fail
        refine (Lose_L lk lt D_w41.out (by omega) (by omega)).mono ?_
        rintro e w42 ⟨he, hd, hb⟩
        subst he
        have D_w42 : Hid (LDev (w.heap.size + 1) w42 (w0.heap.size + 2) (loseS st lk lt) []) := hd
        have T_w42 : Hid (Tp w42 w.heap.size (0 + 1 + 20 * (8 - 0) + 2)) := T_w41.out.low hb
        have G_w42 : Hid (w.grownBy w42 (some w.heap.size)) := g_low1 G_w41.out hb
        have S_w42 := G_w42.out.size
        clear hd hb
        go_wp2_with fail
        refine (Restart_L D_w42.out (by simp [loseS, decideS])).mono ?_
        rintro e w43 ⟨he, hd, hb⟩
        rw [restart_lose] at hd
        subst he
        have D_w43 : Hid (LDev (w.heap.size + 1) w43 (w0.heap.size + 2) (⟨lossF st lk lt, [], false, 0⟩) []) := hd
        have T_w43 : Hid (Tp w43 w.heap.size (0 + 1 + 20 * (8 - 0) + 2)) := T_w42.out.low hb
        have G_w43 : Hid (w.grownBy w43 (some w.heap.size)) := g_low1 G_w42.out hb
        have S_w43 := G_w43.out.size
        clear hd hb
        go_wp2_with fail
        refine (Read_L nZ D_w43.out okZ).mono ?_
        rintro e w44 ⟨dra, he, hr, _, hb⟩
        rw [(readE_ok (s := ⟨lossF st lk lt, [], false, 0⟩) (nm := nZ) (v := b) rfl (by decide +kernel) (by show lossF st lk lt nZ = some b; exact KZ1.out.loss lk lt)).1] at he; rw [(readE_ok (s := ⟨lossF st lk lt, [], false, 0⟩) (nm := nZ) (v := b) rfl (by decide +kernel) (by show lossF st lk lt nZ = some b; exact KZ1.out.loss lk lt)).2] at hr; subst he
        have ra_w44 : Hid (RB w44 dra (b)) := hr
        have D_w44 : Hid (LDev (w.heap.size + 1) w44 (w0.heap.size + 2) (⟨lossF st lk lt, [], false, 0⟩) []) := D_w43.out.on hb
        have T_w44 : Hid (Tp w44 w.heap.size (0 + 1 + 20 * (8 - 0) + 2)) := T_w43.out.on hb
        have G_w44 : Hid (w.grownBy w44 (some w.heap.size)) := g_below G_w43.out hb
        have S_w44 := G_w44.out.size
        clear hr hb
        unfold vB
        have v1 := conv_rb ra_w44.out
        have v2 := conv_str (H1.out.on_lt (law_end G_w44.out)) c1
        go_wp2_with fail
        refine (Pending_L D_w44.out (by simp)).mono ?_
        rintro e w0 ⟨he, hw⟩
        subst hw; subst he
        go_wp2_with fail
        go_ret
        exact ⟨rfl, (law_end G_w44.out)⟩
theorem law6F (A : Option Addr) (len c : Nat) (l : List Int) (e : l.length = len) (A1 : Option Addr) (len1 c1 : Nat) (b : List UInt8) (e1 : b.length = len1) (w : World) (hr : RdT w w.heap.size A l) (hl : len ≤ 9223372036854775807) (h1 : SB w A1 b) (hl1 : len1 ≤ 9223372036854775807) :
    Calls Try.prog 6 #[.slice A len c, .slice A1 len1 c1] w (Gives (.bool true) w) := by
  subst e e1
  exact law6 A l c A1 c1 b w hr hl h1 hl1
end Go.Proofs.Ytddjkkmdcdiofaa
