/- RO RQ RR in one text. -/
import Derived.Test.YtddjkkmdcdiofaaRN
namespace Go.Proofs.Ytddjkkmdcdiofaa
open Go.RowKit Go.MapKept Go.ChangeMaps

theorem RM.rd_rb {w : World} {r : RS} (h : RM w r) {y : BD × List UInt8} (hy : y ∈ r.rd) : RB w y.1 y.2 := by
  rcases List.mem_append.1 hy with h1 | h1
  · obtain ⟨x, hx, rfl⟩ := List.mem_map.1 h1
    exact h.fl.rb x hx
  · obtain ⟨o, ho, rfl⟩ := List.mem_map.1 h1
    exact h.rb o ho
/-- The readers of the reference change: they are old ones or new. -/
theorem Devs.next {b : Nat} {w w' : World} {l : List (Nat × St)} {r r' : RS} (h : Devs b w l r.rd) (hb : Below w.heap.size w w') (hm : RM w' r') (hn : NewR w.heap.size r r') : Devs b w' l r'.rd := by
  obtain ⟨h0, L, h1, h2, h3, h4⟩ := h
  refine ⟨Nat.le_trans h0 hb.size, L, h1, fun x hx => ⟨(h2 x hx).1.on hb, (h2 x hx).2⟩, h3, fun y hy => ⟨hm.rd_rb hy, fun x hx => ?_⟩⟩
  rcases hn y hy with ⟨z, hz, e⟩ | hf
  · rw [e]
    exact (h4 z hz).2 x hx
  · exact safe_new (h2 x hx).1.dev.now hf
theorem own_move {w w' : World} {e : TypeId} {size n : Nat} {v : Value} {xs : List Value} (h : w.ownsRow 0 e size v n xs) (hk : ∀ g cs, IsB w g e cs → IsB w' g e cs) : w'.ownsRow 0 e size v n xs := by
  refine ⟨h.1, ?_⟩
  rcases h.2 with h1 | ⟨g, cap, cur, rfl, h2, hh, h3⟩
  · exact .inl h1
  · exact .inr ⟨g, cap, cur, rfl, h2, hk g cur hh, h3⟩
theorem RM.move {w w' : World} {r : RS} (h : RM w r) (hk : ∀ g t cs, t = 101 ∨ t = 51 → IsB w g t cs → IsB w' g t cs) (hr : ∀ y ∈ r.rd, RB w' y.1 y.2) : RM w' r :=
  ⟨⟨own_move h.fl.row (fun g cs => hk g 101 cs (.inl rfl)), fun x hx => hr (x.d, x.bs) (List.mem_append.2 (.inl (List.mem_map.2 ⟨x, hx, rfl⟩))), h.fl.sort, h.fl.ok⟩, own_move h.row (fun g cs => hk g 51 cs (.inr rfl)), fun o ho => hr (o.d, o.bs) (List.mem_append.2 (.inr (List.mem_map.2 ⟨o, ho, rfl⟩))), h.ok⟩
/-- A step of the device. -/
theorem RM.dev {b : Nat} {w w' : World} {l : List (Nat × St)} {r : RS} (h : RM w r) (hk : KB w w') (hd : Devs b w' l r.rd) : RM w' r :=
  h.move (fun g t cs ht hi => hk g t cs (by rcases ht with rfl | rfl <;> decide) (by rcases ht with rfl | rfl <;> decide) (by rcases ht with rfl | rfl <;> decide) hi) (fun y hy => hd.rb (d := y.1) (bs := y.2) hy)
/-- The tape moves on. -/
theorem RM.tape {x N : Nat} {w w' : World} {r : RS} (h : RM w r) (ht : Tp w x N) (hg : w.grownBy w' (some x)) : RM w' r := by
  refine h.move (fun g t cs htt hi => hi.grown hg (fun e => ?_)) (fun y hy => (h.rd_rb hy).grown hg (rb_tape (h.rd_rb hy) ht))
  injection e with e
  subst e
  obtain ⟨A, c, a, L, hx, _⟩ := ht
  have := IsB.type hi hx
  rcases htt with rfl | rfl <;> exact absurd this (by decide)
end Go.Proofs.Ytddjkkmdcdiofaa
namespace Go.Proofs.Ytddjkkmdcdiofaa
open Go.RowKit Go.MapKept Go.ChangeMaps

/-- The device as it was, and an error. -/
theorem same_fin {r : RS} {s : St} (E : Int) {w wr : World} {g : Nat} (hm : RM w r) (hp : RP r s) (hB : Below w.heap.size w wr) (hg : w.heap.size ≤ g) (hZ : IsB wr g 68 vR0) :
    IsB (setR wr g r.F r.O r.dn r.f) g 68 r.cells ∧ DevE r s E w (.returned (.tuple #[.agg r.cells, .int .i64 E])) (setR wr g r.F r.O r.dn r.f) := by
  have hgr := setR_grow wr g r.F r.O r.dn r.f
  have hb := bel_grow hB hgr hg hB.size
  exact ⟨setR_is hZ _ _ _ _, r, rfl, hm.on hb, hp, NewR.mk_ (NewF.refl _ _) (fun _ h => h), hb⟩
set_option maxRecDepth 100000 in
set_option maxHeartbeats 4000000 in
theorem RFlip_any (r : RS) (s : St) (nm : ByteArray) (off bit : Int) (w : World) (hm : RM w r) (hp : RP r s) (hn : okS nm) (hok : Ok (flipS s nm off bit)) : Calls Try.prog 43 #[.agg r.cells, .string nm, .int .i64 off, .int .i64 bit] w (DevE r (flipS s nm off bit) (flipE s nm off bit) w) := by
  have M0 := Lib.hid hm
  have P0 := Lib.hid hp
  have HN := Lib.hid hn
  have HOk := Lib.hid hok
  clear hm hp hn hok
  obtain ⟨FA, FC, fs, OA, OC, os, dn, f⟩ := r
  have HLn : Hid (s.ops.length = os.length) := by rw [Hid, P0.out.ops]; simp
  have hos : os.length ≤ 1000 := P0.out.len
  obtain ⟨I0, Z0, B0, s0⟩ := two_is w (RS.cells ⟨FA, FC, fs, OA, OC, os, dn, f⟩)
  have HI0 := Lib.hid I0
  have HZ0 := Lib.hid Z0
  have HB0 := Lib.hid B0
  have M1 : Hid (RM (two w (RS.cells ⟨FA, FC, fs, OA, OC, os, dn, f⟩)) ⟨FA, FC, fs, OA, OC, os, dn, f⟩) := M0.out.on B0
  clear I0 Z0 B0 s0
  have HS : Hid (∀ E, E ≠ 0 → flipE s nm off bit = E → flipS s nm off bit = s) := fun E hE h => by rw [flipS, h, if_neg hE]
  go_enter Try.func43, Try.ntmps43
  go_wp2_with fail
  refine (rName_any nm _ HN.out).mono ?_
  rintro e w1 ⟨rfl, rfl⟩
  cases hnb : nameB nm
  case false =>
    have HE : Hid (flipE s nm off bit = 300) := by simp [Hid, flipE, hnb]
    clear hnb
    go_wp2_with fail
    refine bodyPost_ret (v := .tuple #[.agg (RS.cells ⟨FA, FC, fs, OA, OC, os, dn, f⟩), .int .i64 300]) ?_ rfl ⟨⟨FA, FC, fs, OA, OC, os, dn, f⟩, by rw [HE.out], M0.out.on ((bel1 _ _).alloc (by simp) _), by rw [HS.out 300 (by decide) HE.out]; exact P0.out, NewR.mk_ (NewF.refl _ _) (fun _ h => h), (bel1 _ _).alloc (by simp) _⟩
    simp [results, Try.results43, go_sem]
  case true =>
    have HNb := Lib.hid hnb
    clear hnb
    go_wp2_with fail
    refine (Files_any ⟨FA, FC, fs, OA, OC, os, dn, f⟩ s _ M1.out P0.out).mono ?_
    rintro e w2 ⟨A, c, fs', rfl, hf, ha, _, hb'⟩
    have hb : Below (two w (RS.cells ⟨FA, FC, fs, OA, OC, os, dn, f⟩)).heap.size (two w (RS.cells ⟨FA, FC, fs, OA, OC, os, dn, f⟩)) w2 := hb'
    have F2 := Lib.hid hf
    have HA := Lib.hid ha
    have hl : fs'.length ≤ 100000 := by have := (pl_small hf.sort ha P0.out.ok.now).1; omega
    have HSm := Lib.hid (pl_small hf.sort ha P0.out.ok.now).2
    have I2 : Hid (IsB w2 w.heap.size 68 (RS.cells ⟨FA, FC, fs, OA, OC, os, dn, f⟩)) := HI0.out.on hb
    have Z2 : Hid (IsB w2 (w.heap.size + 1) 68 vR0) := HZ0.out.on hb
    have B2 : Hid (Below w.heap.size w w2) := HB0.out.trans (hb.mono HB0.out.size)
    clear hf ha hb hb' HI0 HZ0 HB0
    go_wp2_with fail
    refine (place_any A c fs' nm _ F2.out hl).mono ?_
    rintro e w3 ⟨he, hb⟩
    have F3 : Hid (FL w3 A c fs') := F2.out.on hb
    have I3 : Hid (IsB w3 w.heap.size 68 (RS.cells ⟨FA, FC, fs, OA, OC, os, dn, f⟩)) := I2.out.on hb
    have Z3 : Hid (IsB w3 (w.heap.size + 1) 68 vR0) := Z2.out.on hb
    have B3 : Hid (Below w.heap.size w w3) := B2.out.trans (hb.mono B2.out.size)
    have HH : Hid (hasP fs' nm = (s.now nm).isSome) := by rw [Hid, hasP_asc F2.out.sort, HA.out]
    clear hb I2 Z2 B2
    obtain ⟨p, HP⟩ : ∃ p, Hid (posP fs' nm = p) := ⟨_, rfl⟩
    obtain ⟨b, Hb⟩ : ∃ b, Hid (hasP fs' nm = b) := ⟨_, rfl⟩
    rw [HP.out, Hb.out] at he
    subst he
    obtain ⟨⟨a0, a1, a2, a3⟩, b0, b1, b2, b3⟩ := I3.out.res
    obtain ⟨⟨d0, d1, d2, d3⟩, e0, e1, e2, e3⟩ := Z3.out.res
    cases b
    · have HE : Hid (flipE s nm off bit = 301) := by simp [Hid, flipE, HNb.out, ← HH.out, Hb.out]
      go_wp2_with fail
      have fin := same_fin (r := ⟨FA, FC, fs, OA, OC, os, dn, f⟩) 301 M0.out P0.out B3.out (by omega) Z3.out
      exact ret43 fin.1 rfl rfl rfl (by rw [HE.out, HS.out 301 (by decide) HE.out]; exact fin.2)
    · obtain ⟨⟨xn, ⟨XA, XL, XC⟩, xb⟩, hx, hxn, hxa⟩ := posP_at F3.out.sort Hb.out
      rw [HP.out] at hx
      simp only at hxn hxa
      have hxm := List.mem_of_getElem? hx
      have hplt := (List.getElem?_eq_some_iff.1 hx).1
      obtain ⟨g, hAg, hgl, _, c1⟩ := rowF F3.out.row hx
      have RX : Hid (RB w3 ⟨XA, XL, XC⟩ xb) := F3.out.rb _ hxm
      obtain rfl : xb.length = XL := RX.out.1
      have hxl : xb.length ≤ 4194304 := HSm.out _ hxm
      have HXN : Hid (s.now nm = some xb) := by rw [Hid, ← HA.out, hxa]
      have HE : Hid (flipE s nm off bit = if (0 < os.length ∨ off < 0 ∨ (xb.length : Int) ≤ off ∨ bit < 0 ∨ 7 < bit) then 304 else 0) := by
        rw [Hid, flipE, HNb.out, HXN.out]
        simp [flipBad, HLn.out, HXN.out]
      simp only at c1
      subst hAg
      have hp0 : (0 : Int) ≤ p := by omega
      have hpi : (p : Int) < fs'.length := by omega
      clear hx hxa hxm hxn
      by_cases hbad : 0 < os.length ∨ off < 0 ∨ (xb.length : Int) ≤ off ∨ bit < 0 ∨ 7 < bit
      · have HE2 : Hid (flipE s nm off bit = 304) := by rw [Hid, HE.out, if_pos hbad]
        have fin := same_fin (r := ⟨FA, FC, fs, OA, OC, os, dn, f⟩) 304 M0.out P0.out B3.out (show w.heap.size ≤ w.heap.size + 1 by omega) Z3.out
        have FIN := Lib.hid fin
        clear fin
        by_cases x1 : 0 < os.length
        · have x1' : (0 : Int) < os.length := by omega
          go_wp2_with fail
          exact ret43 FIN.out.1 rfl rfl rfl (by rw [HE2.out, HS.out 304 (by decide) HE2.out]; exact FIN.out.2)
        have x1' : ¬ ((0 : Int) < os.length) := by omega
        have x1z : (os.length : Int) ≤ 0 := by omega
        by_cases x2 : off < 0
        · go_wp2_with fail
          exact ret43 FIN.out.1 rfl rfl rfl (by rw [HE2.out, HS.out 304 (by decide) HE2.out]; exact FIN.out.2)
        by_cases x3 : (xb.length : Int) ≤ off
        · go_wp2_with fail
          exact ret43 FIN.out.1 rfl rfl rfl (by rw [HE2.out, HS.out 304 (by decide) HE2.out]; exact FIN.out.2)
        have x3' : off < (xb.length : Int) := by omega
        by_cases x4 : bit < 0
        · go_wp2_with fail
          exact ret43 FIN.out.1 rfl rfl rfl (by rw [HE2.out, HS.out 304 (by decide) HE2.out]; exact FIN.out.2)
        have x5 : 7 < bit := by omega
        go_wp2_with fail
        exact ret43 FIN.out.1 rfl rfl rfl (by rw [HE2.out, HS.out 304 (by decide) HE2.out]; exact FIN.out.2)
      · have HE2 : Hid (flipE s nm off bit = 0) := by rw [Hid, HE.out, if_neg hbad]
        obtain ⟨o, rfl⟩ : ∃ o : Nat, off = (o : Int) := ⟨off.toNat, by omega⟩
        obtain ⟨k, rfl⟩ : ∃ k : Nat, bit = (k : Int) := ⟨bit.toNat, by omega⟩
        have hk : k < 8 := by omega
        have ho : o < xb.length := by omega
        have ho' : (o : Int) < xb.length := by omega
        have hk' : ¬ ((7 : Int) < k) := by omega
        have hos0 : os = [] := List.eq_nil_of_length_eq_zero (by omega)
        subst hos0
        have HFS : Hid (flipS s nm o k = { s with K := s.K.set nm (some (flipB xb o k)) }) := by rw [Hid, flipS, HE2.out, if_pos rfl, HXN.out]; rfl
        clear hbad HE
        go_wp2_with (at_builtin; refine halt_ ?_)
        refine wpList_append_bytes rfl _ _ rfl ⟨none, 0, 0⟩ [] rfl (RB.zero _) XA XC xb rfl RX.out.src (by simp; omega) ?_
        rintro ⟨dA, dl, dc⟩ w4 hdl4 ha4
        clear hdl4
        obtain ⟨r4, n4, b4⟩ := AppB.new (w0 := w3) ha4 (by simp [blk]) (Below.refl _ _)
        have r4' : RB w4 ⟨dA, dl, dc⟩ xb := r4
        obtain rfl : xb.length = dl := r4'.1
        obtain ⟨g4, cur, hga, hgb, hgc, hgd⟩ : ∃ g cur, dA = some ⟨g, 0, none⟩ ∧ IsB w4 g 5 cur ∧ dc ≤ cur.size ∧ ∀ (j : Nat) (u : Value), (xb.map encU)[j]? = some u → cur[j]? = some u := by
          cases hA : dA with
          | none => have := r4'.2.2.1 hA; have := r4'.2.1; simp only at *; omega
          | some ad =>
            obtain ⟨g, cur, rfl, h1, h2, h3⟩ := r4'.2.2.2 ad hA
            exact ⟨g, cur, rfl, h1, h2, h3⟩
        subst hga
        have hgf : w3.heap.size ≤ g4 := n4 g4 rfl
        have q0 : w4.cell? ⟨g4, o, none⟩ = some (.int .u8 (((xb.getD o 0).toNat : Nat) : Int)) := by
          rw [hgb.cell, hgd o (encU (xb.getD o 0)) (by rw [List.getElem?_map, List.getD_eq_getElem?_getD, List.getElem?_eq_getElem ho]; rfl)]
          rfl
        have q1 : w4.frozen? ⟨g4, o, none⟩ = false := hgb.frozen o
        have R4 := Lib.hid r4'
        have B4 := Lib.hid b4
        have N4 := Lib.hid n4
        clear r4 r4' n4 b4 ha4 hgb hgd a0 a1 a2 a3 b0 b1 b2 b3 d0 d1 d2 d3 e0 e1 e2 e3
        clear hk' c1 hp0 hpi hos hl hplt
        unfold vB
        go_wp2_with fail
        go_region
        have hge : xb.getD o 0 = xb[o] := by rw [List.getD_eq_getElem?_getD, List.getElem?_eq_getElem ho]; rfl
        have hw : (bits .xor .u8 ((xb[o].toNat : Nat) : Int) (2 ^ k % 256)) = (((turn (xb.getD o 0) k).toNat : Nat) : Int) := by rw [hge]; exact turn_bits' xb[o] k hk
        rw [hw]
        obtain ⟨w5, hw5⟩ : ∃ w5, w5 = (w4.setCell ⟨g4, o, none⟩ (.int .u8 (((turn (xb.getD o 0) k).toNat : Nat) : Int))).drew := ⟨_, rfl⟩
        rw [← hw5]
        have hb5 : Below w3.heap.size w3 w5 := by rw [hw5]; exact bel_drew (B4.out.setCell hgf _)
        have R5 : Hid (RB w5 ⟨some ⟨g4, 0, none⟩, xb.length, dc⟩ (flipB xb o k)) := by rw [Hid, hw5]; exact R4.out.flip o k ho
        have I5 : Hid (IsB w5 w.heap.size 68 (RS.cells ⟨FA, FC, fs, OA, OC, [], dn, f⟩)) := I3.out.on hb5
        have Z5 : Hid (IsB w5 (w.heap.size + 1) 68 vR0) := Z3.out.on hb5
        have B5 : Hid (Below w.heap.size w w5) := B3.out.trans (hb5.mono B3.out.size)
        have F5 : Hid (FL w5 FA FC fs) := M0.out.fl.on B5.out
        have hfl : fs.length ≤ 100000 := by have := (pl_small M0.out.fl.sort P0.out.K P0.out.ok.kept).1; simp only at this; omega
        clear hw hge hw5 hb5 q0 q1
        obtain ⟨⟨a0, a1, a2, a3⟩, b0, b1, b2, b3⟩ := I5.out.res
        go_wp2_with fail
        refine (with_any FA FC fs ⟨nm, ⟨some ⟨g4, 0, none⟩, xb.length, dc⟩, flipB xb o k⟩ _ F5.out hfl R5.out HN.out).mono ?_
        rintro e w6 ⟨A6, c6, rfl, hf6, hb6⟩
        have F6 := Lib.hid hf6
        have I6 : Hid (IsB w6 w.heap.size 68 (RS.cells ⟨FA, FC, fs, OA, OC, [], dn, f⟩)) := I5.out.on hb6
        have Z6 : Hid (IsB w6 (w.heap.size + 1) 68 vR0) := Z5.out.on hb6
        have B6 : Hid (Below w.heap.size w w6) := B5.out.trans (hb6.mono B5.out.size)
        clear hf6 hb6 a0 a1 a2 a3 b0 b1 b2 b3
        obtain ⟨⟨a0, a1, a2, a3⟩, b0, b1, b2, b3⟩ := I6.out.res
        go_upto_region 12 with fail
        have hW : w6.grownBy (w6.setCell ⟨w.heap.size, 0, none⟩ (.slice A6 (withR fs ⟨nm, ⟨some ⟨g4, 0, none⟩, xb.length, dc⟩, flipB xb o k⟩).length c6)) (some w.heap.size) := g_set (p := ⟨w.heap.size, 0, none⟩) (g_refl _ _) (.inl rfl) _
        have FW : Hid (FL (w6.setCell ⟨w.heap.size, 0, none⟩ (.slice A6 (withR fs ⟨nm, ⟨some ⟨g4, 0, none⟩, xb.length, dc⟩, flipB xb o k⟩).length c6)) A6 c6 (withR fs ⟨nm, ⟨some ⟨g4, 0, none⟩, xb.length, dc⟩, flipB xb o k⟩)) := F6.out.grown_ hW I6.out
        have IW : Hid (IsB (w6.setCell ⟨w.heap.size, 0, none⟩ (.slice A6 (withR fs ⟨nm, ⟨some ⟨g4, 0, none⟩, xb.length, dc⟩, flipB xb o k⟩).length c6)) w.heap.size 68 (RS.cells ⟨A6, c6, withR fs ⟨nm, ⟨some ⟨g4, 0, none⟩, xb.length, dc⟩, flipB xb o k⟩, OA, OC, [], dn, f⟩)) := I6.out.set_ 0 _
        have ZW : Hid (IsB (w6.setCell ⟨w.heap.size, 0, none⟩ (.slice A6 (withR fs ⟨nm, ⟨some ⟨g4, 0, none⟩, xb.length, dc⟩, flipB xb o k⟩).length c6)) (w.heap.size + 1) 68 vR0) := Z6.out.grown hW (by simp)
        have BW : Hid (Below w.heap.size w (w6.setCell ⟨w.heap.size, 0, none⟩ (.slice A6 (withR fs ⟨nm, ⟨some ⟨g4, 0, none⟩, xb.length, dc⟩, flipB xb o k⟩).length c6))) := bel_grow B6.out hW (Nat.le_refl _) B6.out.size
        clear hW a0 a1 a2 a3 b0 b1 b2 b3
        generalize w6.setCell ⟨w.heap.size, 0, none⟩ (.slice A6 (withR fs ⟨nm, ⟨some ⟨g4, 0, none⟩, xb.length, dc⟩, flipB xb o k⟩).length c6) = W at *
        obtain ⟨⟨a0, a1, a2, a3⟩, b0, b1, b2, b3⟩ := IW.out.res
        obtain ⟨⟨d0, d1, d2, d3⟩, e0, e1, e2, e3⟩ := ZW.out.res
        have HNF : Hid (NewF w.heap.size fs (withR fs ⟨nm, ⟨some ⟨g4, 0, none⟩, xb.length, dc⟩, flipB xb o k⟩)) := NewF.with (.inr fun q hq => by have h1 := N4.out q hq; have := B3.out.size; omega)
        have HKK : Hid (∀ m, asc (pl (withR fs ⟨nm, ⟨some ⟨g4, 0, none⟩, xb.length, dc⟩, flipB xb o k⟩)) m = (s.K.set nm (some (flipB xb o k))) m) := fun m => by
          rw [with_asc M0.out.fl.sort, fset_eq, ← P0.out.K m]
        generalize withR fs ⟨nm, ⟨some ⟨g4, 0, none⟩, xb.length, dc⟩, flipB xb o k⟩ = fs2 at *
        go_wp2_with fail
        have hgr := setR_grow W (w.heap.size + 1) (.slice A6 fs2.length c6) (.slice OA 0 OC) dn f
        have hbf := bel_grow BW.out hgr (by omega) BW.out.size
        have hok := HOk.out
        rw [HFS.out] at hok
        exact ret43 (r' := ⟨A6, c6, fs2, OA, OC, [], dn, f⟩) (setR_is ZW.out (.slice A6 fs2.length c6) (.slice OA 0 OC) dn f) rfl rfl rfl ⟨⟨A6, c6, fs2, OA, OC, [], dn, f⟩, by rw [HE2.out], ⟨FW.out.grown_ hgr ZW.out, (M0.out.on hbf).row, by simp, by simp⟩, by rw [HFS.out]; exact ⟨HKK.out, P0.out.ops, P0.out.dn, P0.out.f, hok, by simp, by simp⟩, NewR.mk_ HNF.out (by simp), hbf⟩
end Go.Proofs.Ytddjkkmdcdiofaa
namespace Go.Proofs.Ytddjkkmdcdiofaa
open Go.RowKit Go.MapKept Go.ChangeMaps

abbrev threeO (w : World) (cs ls : Array Value) : World := ((w.alloc (.cells cs 68)).alloc (.cells ls 51)).alloc (.cells vR0 68)
theorem threeO_is (w : World) (cs ls : Array Value) : IsB (threeO w cs ls) w.heap.size 68 cs ∧ IsB (threeO w cs ls) (w.heap.size + 1) 51 ls ∧ IsB (threeO w cs ls) (w.heap.size + 1 + 1) 68 vR0 ∧ Below w.heap.size w (threeO w cs ls) ∧ (threeO w cs ls).heap.size = w.heap.size + 3 := by
  refine ⟨((IsB.new _ _ _).alloc _).alloc _, ?_, ?_, ((bel1 _ _).alloc (by simp) _).alloc (by simp; omega) _, by simp [threeO]⟩
  · have := (IsB.new (w.alloc (.cells cs 68)) 51 ls).alloc (.cells vR0 68)
    simpa [threeO] using this
  · have := IsB.new ((w.alloc (.cells cs 68)).alloc (.cells ls 51)) 68 vR0
    simpa [threeO] using this
theorem RP.did {r : RS} {s : St} {o o' : LOp} {A : Option Addr} {c : Nat} (h : RP r s) (hl : r.os.length < 1000) (he : o'.op = o.op) (hk : o'.k = o.k) (hn : o'.nm = o.nm) (hd : Does s.now o) (hok : Ok (s.did o.op)) (hdn : s.dn = false) (hf : s.f ≠ 1) :
    RP ⟨r.FA, r.FC, r.fs, A, c, r.os ++ [o'], false, burnF s.f⟩ (s.did o.op) where
  K := h.K
  ops := by simp [St.did, h.ops, he]
  dn := by simp [St.did, burnD, hdn, hf]
  f := rfl
  ok := hok
  ex := by
    intro k x hx
    have hlen : s.ops.length = r.os.length := by rw [h.ops]; simp
    have hfold : ∀ j, j ≤ s.ops.length → foldK (s.did o.op) j = foldK s j := fun j hj => by
      unfold foldK
      simp only [St.did]
      rw [List.take_append_of_le_length hj]
    by_cases hk2 : k < r.os.length
    · rw [List.getElem?_append_left hk2] at hx
      rw [hfold k (by omega)]
      exact h.ex k x hx
    · simp only at hx
      rw [List.getElem?_append_right (by omega)] at hx
      have hkk : k = r.os.length := by
        have := (List.getElem?_eq_some_iff.1 hx).1
        simp at this
        omega
      subst hkk
      simp at hx
      subst hx
      rw [hfold _ (by omega), ← hlen, foldK_all]
      intro hh
      rw [hk] at hh
      rw [hn]
      exact hd hh
  len := by simp; omega
end Go.Proofs.Ytddjkkmdcdiofaa
