/- Contracts: Do of the reference. -/
import Derived.Test.YtddjkkmdcdiofaaRQR
namespace Go.Proofs.Ytddjkkmdcdiofaa
open Go.RowKit Go.MapKept Go.ChangeMaps

theorem info51 : (Try.prog.info? 51).map (fun i => (i.zero, i.size, i.bytes)) = some (some (.agg #[.int .i64 0, .string ByteArray.empty, .string ByteArray.empty, .slice none 0 0]), 4, 64) := by kernel_rfl
theorem encL_one' (o : LOp) : ∀ u ∈ encL o, u.oneCell' = true := by
  have := encL_one [o]
  simpa using this
theorem src_ops {w : World} {A : Option Addr} {c : Nat} {os : List LOp} (h : w.ownsRow 0 51 4 (.slice A os.length c) os.length (os.flatMap encL)) : ∀ ad, A = some ad → ∀ j u, (os.flatMap encL)[j]? = some u → w.cell? (ad.add j) = some u := by
  intro ad e j u hu
  subst e
  obtain ⟨g, rfl⟩ : ∃ g, ad = ⟨g, 0, none⟩ := by
    rcases h.2 with ⟨hv, _⟩ | ⟨g, cap, cur, hv, _⟩
    · cases hv
    · injection hv with h1
      injection h1 with h1
      exact ⟨g, h1⟩
  have hj : j < os.length * 4 := by
    have := (List.getElem?_eq_some_iff.1 hu).1
    rwa [flat_len encL_len] at this
  rw [lit_add, Nat.zero_add, h.cellAt j (by omega), ← hu]
theorem nil_ops {w : World} {A : Option Addr} {c : Nat} {os : List LOp} (h : w.ownsRow 0 51 4 (.slice A os.length c) os.length (os.flatMap encL)) (e : A = none) : os.length = 0 := by
  subst e
  rcases h.2 with ⟨_, h0⟩ | ⟨g, cap, cur, hv, _⟩
  · exact h0
  · cases hv
theorem NewR.snoc {H : Nat} {r : RS} {A : Option Addr} {c : Nat} {o' : LOp} {dn : Bool} {f : Int} (h : ∀ g, blk o'.d = some g → H ≤ g) : NewR H r ⟨r.FA, r.FC, r.fs, A, c, r.os ++ [o'], dn, f⟩ := fun y hy => by
  rcases List.mem_append.1 hy with h1 | h1
  · exact .inl ⟨y, List.mem_append.2 (.inl h1), rfl⟩
  · simp only [List.map_append, List.map_cons, List.map_nil] at h1
    rcases List.mem_append.1 h1 with h2 | h2
    · exact .inl ⟨y, List.mem_append.2 (.inr h2), rfl⟩
    · simp only [List.mem_singleton] at h2
      subst h2
      exact .inr h
theorem RM.snoc {w w' : World} {r : RS} {A : Option Addr} {c : Nat} {o' : LOp} {dn : Bool} {f : Int} (hm : RM w r) (hb : Below w.heap.size w w') (hrow : w'.ownsRow 0 51 4 (.slice A (r.os.length + 1) c) (r.os.length + 1) (r.os.flatMap encL ++ encL o')) (hr : RB w' o'.d o'.bs) (ho : o'.Ok) : RM w' ⟨r.FA, r.FC, r.fs, A, c, r.os ++ [o'], dn, f⟩ := by
  have h := hm.on hb
  refine ⟨h.fl, ?_, fun o hoo => ?_, fun o hoo => ?_⟩
  · simpa [RS.O] using hrow
  · rcases List.mem_append.1 hoo with h1 | h1
    · exact h.rb o h1
    · simp only [List.mem_singleton] at h1
      subst h1
      exact hr
  · rcases List.mem_append.1 hoo with h1 | h1
    · exact h.ok o h1
    · simp only [List.mem_singleton] at h1
      subst h1
      exact ho
set_option maxRecDepth 100000 in
set_option maxHeartbeats 4000000 in
theorem RDo1_any (r : RS) (s : St) (nm to : ByteArray) (B : Option Addr) (cc : Nat) (bs : List UInt8) (n : Nat) (w : World) (hm : RM w r) (hp : RP r s) (ho : (⟨1, nm, to, ⟨B, bs.length, cc⟩, bs⟩ : LOp).Ok) (hr : RB w ⟨B, bs.length, cc⟩ bs) (hn : Cnt s.now n) (hok : Ok (reqS s n (⟨1, nm, to, ⟨B, bs.length, cc⟩, bs⟩ : LOp).op)) (hlo : r.os.length < 1000) :
    Calls Try.prog 45 #[.agg r.cells, .agg #[.int .i64 1, .string nm, .string to, .slice B bs.length cc]] w (DevE r (reqS s n (⟨1, nm, to, ⟨B, bs.length, cc⟩, bs⟩ : LOp).op) (reqE s n (⟨1, nm, to, ⟨B, bs.length, cc⟩, bs⟩ : LOp).op) w) := by
  obtain ⟨i0, hi, hz0, hz1, hz2⟩ := info_parts info51
  have M0 := Lib.hid hm
  have P0 := Lib.hid hp
  have HO := Lib.hid ho
  have HR := Lib.hid hr
  have HCn := Lib.hid hn
  have HOk := Lib.hid hok
  have HNm : Hid (okS nm) := names_ok _ ho.nm
  have HTo : Hid (okS to) := names_ok _ ho.to
  have hbl : bs.length ≤ 5 := ho.len
  clear hm hp ho hr hn hok
  have hf0 : 0 ≤ r.f := by rw [P0.out.f]; exact P0.out.ok.f0
  have hf1 : r.f ≤ 9223372036854775807 := by rw [P0.out.f]; exact P0.out.ok.f1
  obtain ⟨FA, FC, fs, OA, OC, os, dn, f⟩ := r
  simp only at hf0 hf1 hlo
  have HD : Hid (s.dn = dn) := P0.out.dn.symm
  have HF : Hid (s.f = f) := P0.out.f.symm
  obtain ⟨I0, J0, Z0, B0, s0⟩ := threeO_is w (RS.cells ⟨FA, FC, fs, OA, OC, os, dn, f⟩) #[.int .i64 1, .string nm, .string to, .slice B bs.length cc]
  have HI0 := Lib.hid I0
  have HJ0 := Lib.hid J0
  have HZ0 := Lib.hid Z0
  have HB0 := Lib.hid B0
  have M1 : Hid (RM (threeO w (RS.cells ⟨FA, FC, fs, OA, OC, os, dn, f⟩) #[.int .i64 1, .string nm, .string to, .slice B bs.length cc]) ⟨FA, FC, fs, OA, OC, os, dn, f⟩) := M0.out.on B0
  clear I0 J0 Z0 B0 s0
  have HS : Hid (∀ E, E ≠ 0 → gate s n (⟨1, nm, to, ⟨B, bs.length, cc⟩, bs⟩ : LOp).op = E → reqE s n (⟨1, nm, to, ⟨B, bs.length, cc⟩, bs⟩ : LOp).op = E ∧ reqS s n (⟨1, nm, to, ⟨B, bs.length, cc⟩, bs⟩ : LOp).op = s) := fun E hE h => by
    rw [reqE, reqS, h, if_neg hE, if_neg hE]
    exact ⟨rfl, rfl⟩
  cases dn
  case true =>
    have HG : Hid (gate s n (⟨1, nm, to, ⟨B, bs.length, cc⟩, bs⟩ : LOp).op = 303) := by simp [Hid, gate, LOp.op, HD.out]
    go_enter Try.func45, Try.ntmps45
    go_wp2_with fail
    refine bodyPost_ret (v := .tuple #[.agg (RS.cells ⟨FA, FC, fs, OA, OC, os, true, f⟩), .int .i64 303]) ?_ rfl ⟨⟨FA, FC, fs, OA, OC, os, true, f⟩, by rw [(HS.out 303 (by decide) HG.out).1], M0.out.on (((bel1 _ _).alloc (by simp) _).alloc (by simp; omega) _), by rw [(HS.out 303 (by decide) HG.out).2]; exact P0.out, NewR.mk_ (NewF.refl _ _) (fun _ h => h), ((bel1 _ _).alloc (by simp) _).alloc (by simp; omega) _⟩
    simp [results, Try.results45, go_sem]
  case false =>
    go_enter Try.func45, Try.ntmps45
    go_wp2_with fail
    refine (rName_any nm _ HNm.out).mono ?_
    rintro e w1 ⟨rfl, rfl⟩
    cases hnb : nameB nm
    case false =>
      have HG : Hid (gate s n (⟨1, nm, to, ⟨B, bs.length, cc⟩, bs⟩ : LOp).op = 300) := by simp [Hid, gate, LOp.op, HD.out, hnb]
      clear hnb
      go_wp2_with fail
      refine bodyPost_ret (v := .tuple #[.agg (RS.cells ⟨FA, FC, fs, OA, OC, os, false, f⟩), .int .i64 300]) ?_ rfl ⟨⟨FA, FC, fs, OA, OC, os, false, f⟩, by rw [(HS.out 300 (by decide) HG.out).1], M0.out.on (((bel1 _ _).alloc (by simp) _).alloc (by simp; omega) _), by rw [(HS.out 300 (by decide) HG.out).2]; exact P0.out, NewR.mk_ (NewF.refl _ _) (fun _ h => h), ((bel1 _ _).alloc (by simp) _).alloc (by simp; omega) _⟩
      simp [results, Try.results45, go_sem]
    case true =>
      have HNb := Lib.hid hnb
      clear hnb
      go_wp2_with fail
      refine (Files_any ⟨FA, FC, fs, OA, OC, os, false, f⟩ s _ M1.out P0.out).mono ?_
      rintro e w2 ⟨A, c, fs', rfl, hf, ha, _, hb'⟩
      have hb : Below (threeO w (RS.cells ⟨FA, FC, fs, OA, OC, os, false, f⟩) #[.int .i64 1, .string nm, .string to, .slice B bs.length cc]).heap.size (threeO w (RS.cells ⟨FA, FC, fs, OA, OC, os, false, f⟩) #[.int .i64 1, .string nm, .string to, .slice B bs.length cc]) w2 := hb'
      have F2 := Lib.hid hf
      have HA := Lib.hid ha
      have hl : fs'.length ≤ 256 := (pl_small hf.sort ha P0.out.ok.now).1
      have HLn : Hid (fs'.length = n) := (pl_cnt hf.sort ha).uniq HCn.out
      have HSm := Lib.hid (pl_small hf.sort ha P0.out.ok.now).2
      have I2 : Hid (IsB w2 w.heap.size 68 (RS.cells ⟨FA, FC, fs, OA, OC, os, false, f⟩)) := HI0.out.on hb
      have J2 : Hid (IsB w2 (w.heap.size + 1) 51 #[.int .i64 1, .string nm, .string to, .slice B bs.length cc]) := HJ0.out.on hb
      have Z2 : Hid (IsB w2 (w.heap.size + 1 + 1) 68 vR0) := HZ0.out.on hb
      have B2 : Hid (Below w.heap.size w w2) := HB0.out.trans (hb.mono HB0.out.size)
      have j1 : w2.cell? ⟨w.heap.size + 1, 1, none⟩ = some (.string nm) := J2.out.cell 1
      clear hf ha hb hb' HI0 HJ0 HZ0 HB0
      go_wp2_with fail
      refine (place_any A c fs' nm _ F2.out (by omega)).mono ?_
      rintro e w3 ⟨he, hb⟩
      have F3 : Hid (FL w3 A c fs') := F2.out.on hb
      have I3 : Hid (IsB w3 w.heap.size 68 (RS.cells ⟨FA, FC, fs, OA, OC, os, false, f⟩)) := I2.out.on hb
      have J3 : Hid (IsB w3 (w.heap.size + 1) 51 #[.int .i64 1, .string nm, .string to, .slice B bs.length cc]) := J2.out.on hb
      have Z3 : Hid (IsB w3 (w.heap.size + 1 + 1) 68 vR0) := Z2.out.on hb
      have B3 : Hid (Below w.heap.size w w3) := B2.out.trans (hb.mono B2.out.size)
      have HH : Hid (hasP fs' nm = (s.now nm).isSome) := by rw [Hid, hasP_asc F2.out.sort, HA.out]
      clear hb I2 J2 Z2 B2 j1
      obtain ⟨p, HP⟩ : ∃ p, Hid (posP fs' nm = p) := ⟨_, rfl⟩
      obtain ⟨b, Hb⟩ : ∃ b, Hid (hasP fs' nm = b) := ⟨_, rfl⟩
      rw [HP.out, Hb.out] at he
      subst he
      obtain ⟨⟨a0, a1, a2, a3⟩, b0, b1, b2, b3⟩ := I3.out.res
      obtain ⟨⟨j0, j1, j2, j3⟩, l0, l1, l2, l3⟩ := J3.out.res
      obtain ⟨⟨d0, d1, d2, d3⟩, e0, e1, e2, e3⟩ := Z3.out.res
      cases b
      · by_cases hfull : 256 ≤ fs'.length
        · have HG : Hid (gate s n (⟨1, nm, to, ⟨B, bs.length, cc⟩, bs⟩ : LOp).op = 302) := by simp [Hid, gate, LOp.op, HD.out, HNb.out, ← HH.out, Hb.out, ← HLn.out]; omega
          have hfi : (256 : Int) ≤ fs'.length := by omega
          go_wp2_with fail
          have fin := same_fin (r := ⟨FA, FC, fs, OA, OC, os, false, f⟩) 302 M0.out P0.out B3.out (show w.heap.size ≤ w.heap.size + 1 + 1 by omega) Z3.out
          exact ret45 fin.1 rfl rfl rfl (by rw [(HS.out 302 (by decide) HG.out).1, (HS.out 302 (by decide) HG.out).2]; exact fin.2)
        · have HG : Hid (gate s n (⟨1, nm, to, ⟨B, bs.length, cc⟩, bs⟩ : LOp).op = 0) := by simp [Hid, gate, LOp.op, HD.out, HNb.out, ← HH.out, Hb.out, ← HLn.out]; omega
          have hfi : ¬ ((256 : Int) ≤ fs'.length) := by omega
          have HDo : Hid (Does s.now (⟨1, nm, to, ⟨B, bs.length, cc⟩, bs⟩ : LOp)) := fun h => by simp at h
          go_wp2_with fail
          refine (burnR_any FA fs.length FC OA os.length OC false f _ hf0 hf1).mono ?_
          rintro e w4 ⟨he, hb⟩
          have I4 : Hid (IsB w4 w.heap.size 68 (RS.cells ⟨FA, FC, fs, OA, OC, os, false, f⟩)) := I3.out.on hb
          have J4 : Hid (IsB w4 (w.heap.size + 1) 51 #[.int .i64 1, .string nm, .string to, .slice B bs.length cc]) := J3.out.on hb
          have Z4 : Hid (IsB w4 (w.heap.size + 1 + 1) 68 vR0) := Z3.out.on hb
          have B4 : Hid (Below w.heap.size w w4) := B3.out.trans (hb.mono B3.out.size)
          clear hb a0 a1 a2 a3 b0 b1 b2 b3 j0 j1 j2 j3 l0 l1 l2 l3 d0 d1 d2 d3 e0 e1 e2 e3
          obtain ⟨⟨a0, a1, a2, a3⟩, b0, b1, b2, b3⟩ := I4.out.res
          obtain ⟨⟨d0, d1, d2, d3⟩, e0, e1, e2, e3⟩ := Z4.out.res
          by_cases h1 : f = 1
          · subst h1
            have HE : Hid (reqE s n (⟨1, nm, to, ⟨B, bs.length, cc⟩, bs⟩ : LOp).op = 303) := by simp [Hid, reqE, HG.out, HF.out]
            have HSc : Hid (reqS s n (⟨1, nm, to, ⟨B, bs.length, cc⟩, bs⟩ : LOp).op = s.cut) := by simp [Hid, reqS, HG.out, HF.out]
            simp [burnF] at he
            subst he
            go_wp2_with fail
            have hW := setR_grow w4 w.heap.size (.slice FA fs.length FC) (.slice OA os.length OC) true 0
            have hb2 := bel_grow (bel_grow B4.out hW (Nat.le_refl _) B4.out.size) (setR_grow _ (w.heap.size + 1 + 1) (.slice FA fs.length FC) (.slice OA os.length OC) true 0) (by omega) (Nat.le_trans B4.out.size hW.size)
            exact ret45 (r' := ⟨FA, FC, fs, OA, OC, os, true, 0⟩) (setR_is (Z4.out.grown hW (by simp; omega)) (.slice FA fs.length FC) (.slice OA os.length OC) true 0) rfl rfl rfl ⟨⟨FA, FC, fs, OA, OC, os, true, 0⟩, by rw [HE.out], (M0.out.fields true 0).on hb2, by rw [HSc.out]; exact P0.out.cut, NewR.mk_ (NewF.refl _ _) (fun _ h => h), hb2⟩
          · have HE : Hid (reqE s n (⟨1, nm, to, ⟨B, bs.length, cc⟩, bs⟩ : LOp).op = 0) := by simp [Hid, reqE, HG.out, HF.out, h1]
            have HSd : Hid (reqS s n (⟨1, nm, to, ⟨B, bs.length, cc⟩, bs⟩ : LOp).op = s.did (⟨1, nm, to, ⟨B, bs.length, cc⟩, bs⟩ : LOp).op) := by simp [Hid, reqS, HG.out, HF.out, h1]
            have HOk2 : Hid (Ok (s.did (⟨1, nm, to, ⟨B, bs.length, cc⟩, bs⟩ : LOp).op)) := by have := HOk.out; rw [HSd.out] at this; exact this
            have HF1 : Hid (s.f ≠ 1) := by rw [Hid, HF.out]; exact h1
            simp only [if_neg h1, decide_eq_false h1, Bool.not_false] at he
            obtain ⟨f2, HF2⟩ : ∃ f2, Hid (f2 = burnF s.f) := ⟨_, rfl⟩
            rw [← HF.out, ← HF2.out] at he
            subst he
            clear h1
            go_upto_region 15 with fail
            have hW := setR_grow w4 w.heap.size (.slice FA fs.length FC) (.slice OA os.length OC) false f2
            have IW : Hid (IsB (setR w4 w.heap.size (.slice FA fs.length FC) (.slice OA os.length OC) false f2) w.heap.size 68 (RS.cells ⟨FA, FC, fs, OA, OC, os, false, f2⟩)) := setR_is I4.out _ _ _ _
            have JW : Hid (IsB (setR w4 w.heap.size (.slice FA fs.length FC) (.slice OA os.length OC) false f2) (w.heap.size + 1) 51 #[.int .i64 1, .string nm, .string to, .slice B bs.length cc]) := J4.out.grown hW (by simp)
            have ZW : Hid (IsB (setR w4 w.heap.size (.slice FA fs.length FC) (.slice OA os.length OC) false f2) (w.heap.size + 1 + 1) 68 vR0) := Z4.out.grown hW (by simp; omega)
            have BW : Hid (Below w.heap.size w (setR w4 w.heap.size (.slice FA fs.length FC) (.slice OA os.length OC) false f2)) := bel_grow B4.out hW (Nat.le_refl _) B4.out.size
            clear hW a0 a1 a2 a3 b0 b1 b2 b3 d0 d1 d2 d3 e0 e1 e2 e3
            unfold setR at IW JW ZW BW
            generalize (((w4.setCell ⟨w.heap.size, 0, none⟩ (.slice FA fs.length FC)).setCell ⟨w.heap.size, 1, none⟩ (.slice OA os.length OC)).setCell ⟨w.heap.size, 2, none⟩ (.bool false)).setCell ⟨w.heap.size, 3, none⟩ (.int .i64 f2) = W at *
            obtain ⟨⟨j0, j1, j2, j3⟩, l0, l1, l2, l3⟩ := JW.out.res
            have RW : Hid (RB W ⟨B, bs.length, cc⟩ bs) := HR.out.on BW.out
            go_wp2_with (at_builtin; refine halt_ ?_)
            refine wpList_append_bytes rfl _ _ rfl ⟨none, 0, 0⟩ [] rfl (RB.zero _) B cc bs rfl RW.out.src (by simp; omega) ?_
            rintro ⟨dA, dl, dc⟩ w5 hdl5 ha5
            clear hdl5
            obtain ⟨r5, n5, b5⟩ := AppB.new (w0 := W) ha5 (by simp [blk]) (Below.refl _ _)
            have r5' : RB w5 ⟨dA, dl, dc⟩ bs := r5
            obtain rfl : bs.length = dl := r5'.1
            have R5 := Lib.hid r5'
            have N5 : Hid (∀ g, blk ⟨dA, bs.length, dc⟩ = some g → w.heap.size ≤ g) := fun g hg => by have := n5 g hg; have := BW.out.size; omega
            have I5 : Hid (IsB w5 w.heap.size 68 (RS.cells ⟨FA, FC, fs, OA, OC, os, false, f2⟩)) := IW.out.on b5
            have J5 : Hid (IsB w5 (w.heap.size + 1) 51 #[.int .i64 1, .string nm, .string to, .slice B bs.length cc]) := JW.out.on b5
            have Z5 : Hid (IsB w5 (w.heap.size + 1 + 1) 68 vR0) := ZW.out.on b5
            have B5 : Hid (Below w.heap.size w w5) := BW.out.trans (b5.mono BW.out.size)
            clear r5 r5' n5 b5 ha5 j0 j1 j2 j3 l0 l1 l2 l3
            obtain ⟨⟨j0, j1, j2, j3⟩, l0, l1, l2, l3⟩ := J5.out.res
            unfold vB
            go_upto_region 18 with fail
            have hW2 : w5.grownBy (w5.setCell ⟨w.heap.size + 1, 3, none⟩ (.slice dA bs.length dc)) (some (w.heap.size + 1)) := g_set (p := ⟨w.heap.size + 1, 3, none⟩) (g_refl _ _) (.inl rfl) _
            have IW2 : Hid (IsB (w5.setCell ⟨w.heap.size + 1, 3, none⟩ (.slice dA bs.length dc)) w.heap.size 68 (RS.cells ⟨FA, FC, fs, OA, OC, os, false, f2⟩)) := I5.out.grown hW2 (by simp)
            have JW2 : Hid (IsB (w5.setCell ⟨w.heap.size + 1, 3, none⟩ (.slice dA bs.length dc)) (w.heap.size + 1) 51 #[.int .i64 1, .string nm, .string to, .slice dA bs.length dc]) := J5.out.set_ 3 _
            have ZW2 : Hid (IsB (w5.setCell ⟨w.heap.size + 1, 3, none⟩ (.slice dA bs.length dc)) (w.heap.size + 1 + 1) 68 vR0) := Z5.out.grown hW2 (by simp)
            have BW2 : Hid (Below w.heap.size w (w5.setCell ⟨w.heap.size + 1, 3, none⟩ (.slice dA bs.length dc))) := bel_grow B5.out hW2 (by omega) B5.out.size
            have RW2 : Hid (RB (w5.setCell ⟨w.heap.size + 1, 3, none⟩ (.slice dA bs.length dc)) ⟨dA, bs.length, dc⟩ bs) := R5.out.grown hW2 (RB.ne_cell J5.out (by decide) R5.out)
            clear hW2 j0 j1 j2 j3 l0 l1 l2 l3
            generalize w5.setCell ⟨w.heap.size + 1, 3, none⟩ (.slice dA bs.length dc) = W2 at *
            have hlt0 := IW2.out.lt
            have hlt1 := JW2.out.lt
            obtain ⟨⟨a0, a1, a2, a3⟩, b0, b1, b2, b3⟩ := IW2.out.res
            obtain ⟨⟨j0, j1, j2, j3⟩, l0, l1, l2, l3⟩ := JW2.out.res
            have HSrc : Hid (∀ w', Below W2.heap.size W2 w' → ∀ ad, OA = some ad → ∀ j u, (os.flatMap encL)[j]? = some u → w'.cell? (ad.add j) = some u) := fun w' hb => src_ops (own_on (own_on M0.out.row BW2.out) hb)
            have HNil : Hid (OA = none → os.length = 0) := fun e => nil_ops M0.out.row e
            have HTl : Hid ((os.flatMap encL).length = os.length * 4) := flat_len encL_len _
            clear B4 B5 I4 J4 Z4 I5 J5 Z5 R5 RW BW JW IW ZW
            go_region_law (first
              | (refine step_append_own_ (by rfl) (.const (.slice none 0 0)) (.tmp 91) 66 (by rfl) W2.heap.size 51 i0 _ 4 64 Try.underlying66 hi hz0 hz1 hz2 rfl (by omega) (.slice none 0 0) 0 [] (by rfl) (World.ownsRow_nil _ _ _ _) OA os.length OC (os.flatMap encL) (by rfl) HTl.out HNil.out (HSrc.out _ (bel_drew (Below.refl _ _))) (encL_one _) (by unfold maxLen; omega) (by omega) (by simp) ?_; intro v6 w6 ho6 hg6; have HO6 := Lib.hid ho6; have HBn : Hid (Below W2.heap.size W2 w6) := of_drew ((Below.refl _ _).grown hg6 (by simp) (fun q hq => by simp [Value.ownBlock] at hq)); have HB6 := Lib.hid HBn.out; have x1 : w6.cell? ⟨w.heap.size, 1, none⟩ = some (.slice OA os.length OC) := (HBn.out.cell (p := ⟨w.heap.size, 1, none⟩) hlt0).trans ((IW2.out.cell 1).trans rfl); have x2 : w6.frozen? ⟨w.heap.size, 1, none⟩ = false := (IW2.out.on HBn.out).frozen 1; have y0 : w6.cell? ⟨w.heap.size + 1, 0, none⟩ = some (.int .i64 1) := (HBn.out.cell (p := ⟨w.heap.size + 1, 0, none⟩) hlt1).trans ((JW2.out.cell 0).trans rfl); have y1 : w6.cell? ⟨w.heap.size + 1, 1, none⟩ = some (.string nm) := (HBn.out.cell (p := ⟨w.heap.size + 1, 1, none⟩) hlt1).trans ((JW2.out.cell 1).trans rfl); have y2 : w6.cell? ⟨w.heap.size + 1, 2, none⟩ = some (.string to) := (HBn.out.cell (p := ⟨w.heap.size + 1, 2, none⟩) hlt1).trans ((JW2.out.cell 2).trans rfl); have y3 : w6.cell? ⟨w.heap.size + 1, 3, none⟩ = some (.slice dA bs.length dc) := (HBn.out.cell (p := ⟨w.heap.size + 1, 3, none⟩) hlt1).trans ((JW2.out.cell 3).trans rfl); have hs6 := HBn.out.size; clear ho6 hg6 HBn)
              | (refine step_append_own_ (by rfl) (.const (.slice none 0 0)) (.tmp 91) 66 (by rfl) W2.heap.size 51 i0 _ 4 64 Try.underlying66 hi hz0 hz1 hz2 rfl (by omega) (.slice none 0 0) 0 [] (by rfl) (World.ownsRow_nil _ _ _ _) OA os.length OC (os.flatMap encL) (by rfl) HTl.out HNil.out (HSrc.out _ (bel_drew (bel1 _ _))) (encL_one _) (by unfold maxLen; omega) (by omega) (by simp) ?_; intro v6 w6 ho6 hg6; have HO6 := Lib.hid ho6; have HBn : Hid (Below W2.heap.size W2 w6) := (bel_drew (bel1 W2 _)).grown hg6 (by simp) (fun q hq => by simp [Value.ownBlock] at hq); have HB6 := Lib.hid HBn.out; have IS6 : Hid (IsB w6 W2.heap.size 51 #[.int .i64 1, .string nm, .string to, .slice dA bs.length dc]) := ((IsB.new W2 51 #[.int .i64 1, .string nm, .string to, .slice dA bs.length dc]).on_drew).grown hg6 (by simp [Value.ownBlock]); have x1 : w6.cell? ⟨w.heap.size, 1, none⟩ = some (.slice OA os.length OC) := (HBn.out.cell (p := ⟨w.heap.size, 1, none⟩) hlt0).trans ((IW2.out.cell 1).trans rfl); have x2 : w6.frozen? ⟨w.heap.size, 1, none⟩ = false := (IW2.out.on HBn.out).frozen 1; have y0 : w6.cell? ⟨w.heap.size + 1, 0, none⟩ = some (.int .i64 1) := (HBn.out.cell (p := ⟨w.heap.size + 1, 0, none⟩) hlt1).trans ((JW2.out.cell 0).trans rfl); have y1 : w6.cell? ⟨w.heap.size + 1, 1, none⟩ = some (.string nm) := (HBn.out.cell (p := ⟨w.heap.size + 1, 1, none⟩) hlt1).trans ((JW2.out.cell 1).trans rfl); have y2 : w6.cell? ⟨w.heap.size + 1, 2, none⟩ = some (.string to) := (HBn.out.cell (p := ⟨w.heap.size + 1, 2, none⟩) hlt1).trans ((JW2.out.cell 2).trans rfl); have y3 : w6.cell? ⟨w.heap.size + 1, 3, none⟩ = some (.slice dA bs.length dc) := (HBn.out.cell (p := ⟨w.heap.size + 1, 3, none⟩) hlt1).trans ((JW2.out.cell 3).trans rfl); have hs6 := HBn.out.size; clear ho6 hg6 HBn)
              | (refine step_append_own_ (by rfl) (.tmp 92) (.tmp 94) 66 (by rfl) W2.heap.size 51 i0 _ 4 64 Try.underlying66 hi hz0 hz1 hz2 rfl (by omega) v6 (0 + os.length) ([] ++ os.flatMap encL) (by rfl) (HO6.out.alloc _) (some ⟨w6.heap.size, 0, none⟩) 1 1 (encL (⟨1, nm, to, ⟨dA, bs.length, dc⟩, bs⟩ : LOp)) (by rfl) (by rfl) (by simp) (fun ad e j u hu => by injection e with e; subst e; rw [lit_add, Nat.zero_add, new_cell _ _ _ _ rfl]; simpa [encL] using hu) (encL_one' _) (by unfold maxLen; omega) (by omega) (by first | exact hs6 | (simp; omega)) ?_; intro v7 w7 ho7 hg7; obtain ⟨A7, c7, rfl⟩ := own_slice ho7; have HO7 := Lib.hid ho7; have HBn : Hid (Below W2.heap.size W2 w7) := (HB6.out.alloc hs6 _).grown hg7 (by simp; omega) (fun q hq => (HO6.out.lt q hq).1); have HB7 := Lib.hid HBn.out; have x1 : w7.cell? ⟨w.heap.size, 1, none⟩ = some (.slice OA os.length OC) := (HBn.out.cell (p := ⟨w.heap.size, 1, none⟩) hlt0).trans ((IW2.out.cell 1).trans rfl); have x2 : w7.frozen? ⟨w.heap.size, 1, none⟩ = false := (IW2.out.on HBn.out).frozen 1; have y0 : w7.cell? ⟨w.heap.size + 1, 0, none⟩ = some (.int .i64 1) := (HBn.out.cell (p := ⟨w.heap.size + 1, 0, none⟩) hlt1).trans ((JW2.out.cell 0).trans rfl); have y1 : w7.cell? ⟨w.heap.size + 1, 1, none⟩ = some (.string nm) := (HBn.out.cell (p := ⟨w.heap.size + 1, 1, none⟩) hlt1).trans ((JW2.out.cell 1).trans rfl); have y2 : w7.cell? ⟨w.heap.size + 1, 2, none⟩ = some (.string to) := (HBn.out.cell (p := ⟨w.heap.size + 1, 2, none⟩) hlt1).trans ((JW2.out.cell 2).trans rfl); have y3 : w7.cell? ⟨w.heap.size + 1, 3, none⟩ = some (.slice dA bs.length dc) := (HBn.out.cell (p := ⟨w.heap.size + 1, 3, none⟩) hlt1).trans ((JW2.out.cell 3).trans rfl); clear ho7 hg7 HBn)
              | (refine step_append_own_ (by rfl) (.tmp 92) (.tmp 94) 66 (by rfl) W2.heap.size 51 i0 _ 4 64 Try.underlying66 hi hz0 hz1 hz2 rfl (by omega) v6 (0 + os.length) ([] ++ os.flatMap encL) (by rfl) (HO6.out) (some ⟨W2.heap.size, 0, none⟩) 1 1 (encL (⟨1, nm, to, ⟨dA, bs.length, dc⟩, bs⟩ : LOp)) (by rfl) (by rfl) (by simp) (fun ad e j u hu => by injection e with e; subst e; rw [lit_add, Nat.zero_add, IS6.out.cell]; simpa [encL] using hu) (encL_one' _) (by unfold maxLen; omega) (by omega) (by first | exact hs6 | (simp; omega)) ?_; intro v7 w7 ho7 hg7; obtain ⟨A7, c7, rfl⟩ := own_slice ho7; have HO7 := Lib.hid ho7; have HBn : Hid (Below W2.heap.size W2 w7) := HB6.out.grown hg7 hs6 (fun q hq => (HO6.out.lt q hq).1); have HB7 := Lib.hid HBn.out; have x1 : w7.cell? ⟨w.heap.size, 1, none⟩ = some (.slice OA os.length OC) := (HBn.out.cell (p := ⟨w.heap.size, 1, none⟩) hlt0).trans ((IW2.out.cell 1).trans rfl); have x2 : w7.frozen? ⟨w.heap.size, 1, none⟩ = false := (IW2.out.on HBn.out).frozen 1; have y0 : w7.cell? ⟨w.heap.size + 1, 0, none⟩ = some (.int .i64 1) := (HBn.out.cell (p := ⟨w.heap.size + 1, 0, none⟩) hlt1).trans ((JW2.out.cell 0).trans rfl); have y1 : w7.cell? ⟨w.heap.size + 1, 1, none⟩ = some (.string nm) := (HBn.out.cell (p := ⟨w.heap.size + 1, 1, none⟩) hlt1).trans ((JW2.out.cell 1).trans rfl); have y2 : w7.cell? ⟨w.heap.size + 1, 2, none⟩ = some (.string to) := (HBn.out.cell (p := ⟨w.heap.size + 1, 2, none⟩) hlt1).trans ((JW2.out.cell 2).trans rfl); have y3 : w7.cell? ⟨w.heap.size + 1, 3, none⟩ = some (.slice dA bs.length dc) := (HBn.out.cell (p := ⟨w.heap.size + 1, 3, none⟩) hlt1).trans ((JW2.out.cell 3).trans rfl); clear ho7 hg7 HBn))
            all_goals (
              have hrow : Hid (w7.ownsRow 0 51 4 (.slice A7 (os.length + 1) c7) (os.length + 1) (os.flatMap encL ++ encL (⟨1, nm, to, ⟨dA, bs.length, dc⟩, bs⟩ : LOp))) := by
                have := ownsRow0 HO7.out
                show w7.ownsRow _ _ _ _ _ _
                simpa using this
              have I7 : Hid (IsB w7 w.heap.size 68 (RS.cells ⟨FA, FC, fs, OA, OC, os, false, f2⟩)) := IW2.out.on HB7.out
              have Z7 : Hid (IsB w7 (w.heap.size + 1 + 1) 68 vR0) := ZW2.out.on HB7.out
              have B7 : Hid (Below w.heap.size w w7) := BW2.out.trans (HB7.out.mono BW2.out.size)
              have R7 : Hid (RB w7 ⟨dA, bs.length, dc⟩ bs) := RW2.out.on HB7.out
              have hW3 : w7.grownBy (w7.setCell ⟨w.heap.size, 1, none⟩ (.slice A7 (os.length + 1) c7)) (some w.heap.size) := g_set (p := ⟨w.heap.size, 1, none⟩) (g_refl _ _) (.inl rfl) _
              have I8 : Hid (IsB (w7.setCell ⟨w.heap.size, 1, none⟩ (.slice A7 (os.length + 1) c7)) w.heap.size 68 (vR (.slice FA fs.length FC) (.slice A7 (os.length + 1) c7) false f2)) := I7.out.set_ 1 _
              have Z8 : Hid (IsB (w7.setCell ⟨w.heap.size, 1, none⟩ (.slice A7 (os.length + 1) c7)) (w.heap.size + 1 + 1) 68 vR0) := Z7.out.grown hW3 (by simp; omega)
              have B8 : Hid (Below w.heap.size w (w7.setCell ⟨w.heap.size, 1, none⟩ (.slice A7 (os.length + 1) c7))) := bel_grow B7.out hW3 (Nat.le_refl _) B7.out.size
              have R8 : Hid (RB (w7.setCell ⟨w.heap.size, 1, none⟩ (.slice A7 (os.length + 1) c7)) ⟨dA, bs.length, dc⟩ bs) := R7.out.grown hW3 (RB.ne_cell I7.out (by decide) R7.out)
              have O8 : Hid ((w7.setCell ⟨w.heap.size, 1, none⟩ (.slice A7 (os.length + 1) c7)).ownsRow 0 51 4 (.slice A7 (os.length + 1) c7) (os.length + 1) (os.flatMap encL ++ encL (⟨1, nm, to, ⟨dA, bs.length, dc⟩, bs⟩ : LOp))) := own_grown hrow.out hW3 I7.out (by decide)
              clear hW3 x1 x2 y0 y1 y2 y3 a0 a1 a2 a3 b0 b1 b2 b3 j0 j1 j2 j3 l0 l1 l2 l3
              generalize w7.setCell ⟨w.heap.size, 1, none⟩ (.slice A7 (os.length + 1) c7) = W8 at *
              obtain ⟨⟨a0, a1, a2, a3⟩, b0, b1, b2, b3⟩ := I8.out.res
              obtain ⟨⟨d0, d1, d2, d3⟩, e0, e1, e2, e3⟩ := Z8.out.res
              go_wp2_with fail
              have hg9 := setR_grow W8 (w.heap.size + 1 + 1) (.slice FA fs.length FC) (.slice A7 (os.length + 1) c7) false f2
              have hb9 := bel_grow B8.out hg9 (show w.heap.size ≤ w.heap.size + 1 + 1 by omega) B8.out.size
              have hIs : IsB (setR W8 (w.heap.size + 1 + 1) (.slice FA fs.length FC) (.slice A7 (os.length + 1) c7) false f2) (w.heap.size + 1 + 1) 68 (RS.cells ⟨FA, FC, fs, A7, c7, os ++ [(⟨1, nm, to, ⟨dA, bs.length, dc⟩, bs⟩ : LOp)], false, f2⟩) := by
                show IsB _ _ 68 (vR _ (.slice A7 (os ++ [(⟨1, nm, to, ⟨dA, bs.length, dc⟩, bs⟩ : LOp)]).length c7) _ _)
                rw [List.length_append]
                exact setR_is Z8.out _ _ _ _
              exact ret45 hIs rfl rfl rfl ⟨⟨FA, FC, fs, A7, c7, os ++ [(⟨1, nm, to, ⟨dA, bs.length, dc⟩, bs⟩ : LOp)], false, f2⟩, by rw [HE.out], RM.snoc (r := ⟨FA, FC, fs, OA, OC, os, false, f⟩) M0.out hb9 (own_grown O8.out hg9 Z8.out (by decide)) (R8.out.grown hg9 (RB.ne_cell Z8.out (by decide) R8.out)) ⟨HO.out.k1, HO.out.k4, HO.out.nm, HO.out.to, HO.out.len⟩, by rw [HSd.out, HF2.out]; exact RP.did (o := (⟨1, nm, to, ⟨B, bs.length, cc⟩, bs⟩ : LOp)) P0.out hlo rfl rfl rfl HDo.out HOk2.out HD.out HF1.out, NewR.snoc (r := ⟨FA, FC, fs, OA, OC, os, false, f⟩) N5.out, hb9⟩)
      · have HG : Hid (gate s n (⟨1, nm, to, ⟨B, bs.length, cc⟩, bs⟩ : LOp).op = 0) := by simp [Hid, gate, LOp.op, HD.out, HNb.out, ← HH.out, Hb.out]; omega
        have HDo : Hid (Does s.now (⟨1, nm, to, ⟨B, bs.length, cc⟩, bs⟩ : LOp)) := fun h => by simp at h
        go_wp2_with fail
        refine (burnR_any FA fs.length FC OA os.length OC false f _ hf0 hf1).mono ?_
        rintro e w4 ⟨he, hb⟩
        have I4 : Hid (IsB w4 w.heap.size 68 (RS.cells ⟨FA, FC, fs, OA, OC, os, false, f⟩)) := I3.out.on hb
        have J4 : Hid (IsB w4 (w.heap.size + 1) 51 #[.int .i64 1, .string nm, .string to, .slice B bs.length cc]) := J3.out.on hb
        have Z4 : Hid (IsB w4 (w.heap.size + 1 + 1) 68 vR0) := Z3.out.on hb
        have B4 : Hid (Below w.heap.size w w4) := B3.out.trans (hb.mono B3.out.size)
        clear hb a0 a1 a2 a3 b0 b1 b2 b3 j0 j1 j2 j3 l0 l1 l2 l3 d0 d1 d2 d3 e0 e1 e2 e3
        obtain ⟨⟨a0, a1, a2, a3⟩, b0, b1, b2, b3⟩ := I4.out.res
        obtain ⟨⟨d0, d1, d2, d3⟩, e0, e1, e2, e3⟩ := Z4.out.res
        by_cases h1 : f = 1
        · subst h1
          have HE : Hid (reqE s n (⟨1, nm, to, ⟨B, bs.length, cc⟩, bs⟩ : LOp).op = 303) := by simp [Hid, reqE, HG.out, HF.out]
          have HSc : Hid (reqS s n (⟨1, nm, to, ⟨B, bs.length, cc⟩, bs⟩ : LOp).op = s.cut) := by simp [Hid, reqS, HG.out, HF.out]
          simp [burnF] at he
          subst he
          go_wp2_with fail
          have hW := setR_grow w4 w.heap.size (.slice FA fs.length FC) (.slice OA os.length OC) true 0
          have hb2 := bel_grow (bel_grow B4.out hW (Nat.le_refl _) B4.out.size) (setR_grow _ (w.heap.size + 1 + 1) (.slice FA fs.length FC) (.slice OA os.length OC) true 0) (by omega) (Nat.le_trans B4.out.size hW.size)
          exact ret45 (r' := ⟨FA, FC, fs, OA, OC, os, true, 0⟩) (setR_is (Z4.out.grown hW (by simp; omega)) (.slice FA fs.length FC) (.slice OA os.length OC) true 0) rfl rfl rfl ⟨⟨FA, FC, fs, OA, OC, os, true, 0⟩, by rw [HE.out], (M0.out.fields true 0).on hb2, by rw [HSc.out]; exact P0.out.cut, NewR.mk_ (NewF.refl _ _) (fun _ h => h), hb2⟩
        · have HE : Hid (reqE s n (⟨1, nm, to, ⟨B, bs.length, cc⟩, bs⟩ : LOp).op = 0) := by simp [Hid, reqE, HG.out, HF.out, h1]
          have HSd : Hid (reqS s n (⟨1, nm, to, ⟨B, bs.length, cc⟩, bs⟩ : LOp).op = s.did (⟨1, nm, to, ⟨B, bs.length, cc⟩, bs⟩ : LOp).op) := by simp [Hid, reqS, HG.out, HF.out, h1]
          have HOk2 : Hid (Ok (s.did (⟨1, nm, to, ⟨B, bs.length, cc⟩, bs⟩ : LOp).op)) := by have := HOk.out; rw [HSd.out] at this; exact this
          have HF1 : Hid (s.f ≠ 1) := by rw [Hid, HF.out]; exact h1
          simp only [if_neg h1, decide_eq_false h1, Bool.not_false] at he
          obtain ⟨f2, HF2⟩ : ∃ f2, Hid (f2 = burnF s.f) := ⟨_, rfl⟩
          rw [← HF.out, ← HF2.out] at he
          subst he
          clear h1
          go_upto_region 15 with fail
          have hW := setR_grow w4 w.heap.size (.slice FA fs.length FC) (.slice OA os.length OC) false f2
          have IW : Hid (IsB (setR w4 w.heap.size (.slice FA fs.length FC) (.slice OA os.length OC) false f2) w.heap.size 68 (RS.cells ⟨FA, FC, fs, OA, OC, os, false, f2⟩)) := setR_is I4.out _ _ _ _
          have JW : Hid (IsB (setR w4 w.heap.size (.slice FA fs.length FC) (.slice OA os.length OC) false f2) (w.heap.size + 1) 51 #[.int .i64 1, .string nm, .string to, .slice B bs.length cc]) := J4.out.grown hW (by simp)
          have ZW : Hid (IsB (setR w4 w.heap.size (.slice FA fs.length FC) (.slice OA os.length OC) false f2) (w.heap.size + 1 + 1) 68 vR0) := Z4.out.grown hW (by simp; omega)
          have BW : Hid (Below w.heap.size w (setR w4 w.heap.size (.slice FA fs.length FC) (.slice OA os.length OC) false f2)) := bel_grow B4.out hW (Nat.le_refl _) B4.out.size
          clear hW a0 a1 a2 a3 b0 b1 b2 b3 d0 d1 d2 d3 e0 e1 e2 e3
          unfold setR at IW JW ZW BW
          generalize (((w4.setCell ⟨w.heap.size, 0, none⟩ (.slice FA fs.length FC)).setCell ⟨w.heap.size, 1, none⟩ (.slice OA os.length OC)).setCell ⟨w.heap.size, 2, none⟩ (.bool false)).setCell ⟨w.heap.size, 3, none⟩ (.int .i64 f2) = W at *
          obtain ⟨⟨j0, j1, j2, j3⟩, l0, l1, l2, l3⟩ := JW.out.res
          have RW : Hid (RB W ⟨B, bs.length, cc⟩ bs) := HR.out.on BW.out
          go_wp2_with (at_builtin; refine halt_ ?_)
          refine wpList_append_bytes rfl _ _ rfl ⟨none, 0, 0⟩ [] rfl (RB.zero _) B cc bs rfl RW.out.src (by simp; omega) ?_
          rintro ⟨dA, dl, dc⟩ w5 hdl5 ha5
          clear hdl5
          obtain ⟨r5, n5, b5⟩ := AppB.new (w0 := W) ha5 (by simp [blk]) (Below.refl _ _)
          have r5' : RB w5 ⟨dA, dl, dc⟩ bs := r5
          obtain rfl : bs.length = dl := r5'.1
          have R5 := Lib.hid r5'
          have N5 : Hid (∀ g, blk ⟨dA, bs.length, dc⟩ = some g → w.heap.size ≤ g) := fun g hg => by have := n5 g hg; have := BW.out.size; omega
          have I5 : Hid (IsB w5 w.heap.size 68 (RS.cells ⟨FA, FC, fs, OA, OC, os, false, f2⟩)) := IW.out.on b5
          have J5 : Hid (IsB w5 (w.heap.size + 1) 51 #[.int .i64 1, .string nm, .string to, .slice B bs.length cc]) := JW.out.on b5
          have Z5 : Hid (IsB w5 (w.heap.size + 1 + 1) 68 vR0) := ZW.out.on b5
          have B5 : Hid (Below w.heap.size w w5) := BW.out.trans (b5.mono BW.out.size)
          clear r5 r5' n5 b5 ha5 j0 j1 j2 j3 l0 l1 l2 l3
          obtain ⟨⟨j0, j1, j2, j3⟩, l0, l1, l2, l3⟩ := J5.out.res
          unfold vB
          go_upto_region 18 with fail
          have hW2 : w5.grownBy (w5.setCell ⟨w.heap.size + 1, 3, none⟩ (.slice dA bs.length dc)) (some (w.heap.size + 1)) := g_set (p := ⟨w.heap.size + 1, 3, none⟩) (g_refl _ _) (.inl rfl) _
          have IW2 : Hid (IsB (w5.setCell ⟨w.heap.size + 1, 3, none⟩ (.slice dA bs.length dc)) w.heap.size 68 (RS.cells ⟨FA, FC, fs, OA, OC, os, false, f2⟩)) := I5.out.grown hW2 (by simp)
          have JW2 : Hid (IsB (w5.setCell ⟨w.heap.size + 1, 3, none⟩ (.slice dA bs.length dc)) (w.heap.size + 1) 51 #[.int .i64 1, .string nm, .string to, .slice dA bs.length dc]) := J5.out.set_ 3 _
          have ZW2 : Hid (IsB (w5.setCell ⟨w.heap.size + 1, 3, none⟩ (.slice dA bs.length dc)) (w.heap.size + 1 + 1) 68 vR0) := Z5.out.grown hW2 (by simp)
          have BW2 : Hid (Below w.heap.size w (w5.setCell ⟨w.heap.size + 1, 3, none⟩ (.slice dA bs.length dc))) := bel_grow B5.out hW2 (by omega) B5.out.size
          have RW2 : Hid (RB (w5.setCell ⟨w.heap.size + 1, 3, none⟩ (.slice dA bs.length dc)) ⟨dA, bs.length, dc⟩ bs) := R5.out.grown hW2 (RB.ne_cell J5.out (by decide) R5.out)
          clear hW2 j0 j1 j2 j3 l0 l1 l2 l3
          generalize w5.setCell ⟨w.heap.size + 1, 3, none⟩ (.slice dA bs.length dc) = W2 at *
          have hlt0 := IW2.out.lt
          have hlt1 := JW2.out.lt
          obtain ⟨⟨a0, a1, a2, a3⟩, b0, b1, b2, b3⟩ := IW2.out.res
          obtain ⟨⟨j0, j1, j2, j3⟩, l0, l1, l2, l3⟩ := JW2.out.res
          have HSrc : Hid (∀ w', Below W2.heap.size W2 w' → ∀ ad, OA = some ad → ∀ j u, (os.flatMap encL)[j]? = some u → w'.cell? (ad.add j) = some u) := fun w' hb => src_ops (own_on (own_on M0.out.row BW2.out) hb)
          have HNil : Hid (OA = none → os.length = 0) := fun e => nil_ops M0.out.row e
          have HTl : Hid ((os.flatMap encL).length = os.length * 4) := flat_len encL_len _
          clear B4 B5 I4 J4 Z4 I5 J5 Z5 R5 RW BW JW IW ZW
          go_region_law (first
            | (refine step_append_own_ (by rfl) (.const (.slice none 0 0)) (.tmp 91) 66 (by rfl) W2.heap.size 51 i0 _ 4 64 Try.underlying66 hi hz0 hz1 hz2 rfl (by omega) (.slice none 0 0) 0 [] (by rfl) (World.ownsRow_nil _ _ _ _) OA os.length OC (os.flatMap encL) (by rfl) HTl.out HNil.out (HSrc.out _ (bel_drew (Below.refl _ _))) (encL_one _) (by unfold maxLen; omega) (by omega) (by simp) ?_; intro v6 w6 ho6 hg6; have HO6 := Lib.hid ho6; have HBn : Hid (Below W2.heap.size W2 w6) := of_drew ((Below.refl _ _).grown hg6 (by simp) (fun q hq => by simp [Value.ownBlock] at hq)); have HB6 := Lib.hid HBn.out; have x1 : w6.cell? ⟨w.heap.size, 1, none⟩ = some (.slice OA os.length OC) := (HBn.out.cell (p := ⟨w.heap.size, 1, none⟩) hlt0).trans ((IW2.out.cell 1).trans rfl); have x2 : w6.frozen? ⟨w.heap.size, 1, none⟩ = false := (IW2.out.on HBn.out).frozen 1; have y0 : w6.cell? ⟨w.heap.size + 1, 0, none⟩ = some (.int .i64 1) := (HBn.out.cell (p := ⟨w.heap.size + 1, 0, none⟩) hlt1).trans ((JW2.out.cell 0).trans rfl); have y1 : w6.cell? ⟨w.heap.size + 1, 1, none⟩ = some (.string nm) := (HBn.out.cell (p := ⟨w.heap.size + 1, 1, none⟩) hlt1).trans ((JW2.out.cell 1).trans rfl); have y2 : w6.cell? ⟨w.heap.size + 1, 2, none⟩ = some (.string to) := (HBn.out.cell (p := ⟨w.heap.size + 1, 2, none⟩) hlt1).trans ((JW2.out.cell 2).trans rfl); have y3 : w6.cell? ⟨w.heap.size + 1, 3, none⟩ = some (.slice dA bs.length dc) := (HBn.out.cell (p := ⟨w.heap.size + 1, 3, none⟩) hlt1).trans ((JW2.out.cell 3).trans rfl); have hs6 := HBn.out.size; clear ho6 hg6 HBn)
            | (refine step_append_own_ (by rfl) (.const (.slice none 0 0)) (.tmp 91) 66 (by rfl) W2.heap.size 51 i0 _ 4 64 Try.underlying66 hi hz0 hz1 hz2 rfl (by omega) (.slice none 0 0) 0 [] (by rfl) (World.ownsRow_nil _ _ _ _) OA os.length OC (os.flatMap encL) (by rfl) HTl.out HNil.out (HSrc.out _ (bel_drew (bel1 _ _))) (encL_one _) (by unfold maxLen; omega) (by omega) (by simp) ?_; intro v6 w6 ho6 hg6; have HO6 := Lib.hid ho6; have HBn : Hid (Below W2.heap.size W2 w6) := (bel_drew (bel1 W2 _)).grown hg6 (by simp) (fun q hq => by simp [Value.ownBlock] at hq); have HB6 := Lib.hid HBn.out; have IS6 : Hid (IsB w6 W2.heap.size 51 #[.int .i64 1, .string nm, .string to, .slice dA bs.length dc]) := ((IsB.new W2 51 #[.int .i64 1, .string nm, .string to, .slice dA bs.length dc]).on_drew).grown hg6 (by simp [Value.ownBlock]); have x1 : w6.cell? ⟨w.heap.size, 1, none⟩ = some (.slice OA os.length OC) := (HBn.out.cell (p := ⟨w.heap.size, 1, none⟩) hlt0).trans ((IW2.out.cell 1).trans rfl); have x2 : w6.frozen? ⟨w.heap.size, 1, none⟩ = false := (IW2.out.on HBn.out).frozen 1; have y0 : w6.cell? ⟨w.heap.size + 1, 0, none⟩ = some (.int .i64 1) := (HBn.out.cell (p := ⟨w.heap.size + 1, 0, none⟩) hlt1).trans ((JW2.out.cell 0).trans rfl); have y1 : w6.cell? ⟨w.heap.size + 1, 1, none⟩ = some (.string nm) := (HBn.out.cell (p := ⟨w.heap.size + 1, 1, none⟩) hlt1).trans ((JW2.out.cell 1).trans rfl); have y2 : w6.cell? ⟨w.heap.size + 1, 2, none⟩ = some (.string to) := (HBn.out.cell (p := ⟨w.heap.size + 1, 2, none⟩) hlt1).trans ((JW2.out.cell 2).trans rfl); have y3 : w6.cell? ⟨w.heap.size + 1, 3, none⟩ = some (.slice dA bs.length dc) := (HBn.out.cell (p := ⟨w.heap.size + 1, 3, none⟩) hlt1).trans ((JW2.out.cell 3).trans rfl); have hs6 := HBn.out.size; clear ho6 hg6 HBn)
            | (refine step_append_own_ (by rfl) (.tmp 92) (.tmp 94) 66 (by rfl) W2.heap.size 51 i0 _ 4 64 Try.underlying66 hi hz0 hz1 hz2 rfl (by omega) v6 (0 + os.length) ([] ++ os.flatMap encL) (by rfl) (HO6.out.alloc _) (some ⟨w6.heap.size, 0, none⟩) 1 1 (encL (⟨1, nm, to, ⟨dA, bs.length, dc⟩, bs⟩ : LOp)) (by rfl) (by rfl) (by simp) (fun ad e j u hu => by injection e with e; subst e; rw [lit_add, Nat.zero_add, new_cell _ _ _ _ rfl]; simpa [encL] using hu) (encL_one' _) (by unfold maxLen; omega) (by omega) (by first | exact hs6 | (simp; omega)) ?_; intro v7 w7 ho7 hg7; obtain ⟨A7, c7, rfl⟩ := own_slice ho7; have HO7 := Lib.hid ho7; have HBn : Hid (Below W2.heap.size W2 w7) := (HB6.out.alloc hs6 _).grown hg7 (by simp; omega) (fun q hq => (HO6.out.lt q hq).1); have HB7 := Lib.hid HBn.out; have x1 : w7.cell? ⟨w.heap.size, 1, none⟩ = some (.slice OA os.length OC) := (HBn.out.cell (p := ⟨w.heap.size, 1, none⟩) hlt0).trans ((IW2.out.cell 1).trans rfl); have x2 : w7.frozen? ⟨w.heap.size, 1, none⟩ = false := (IW2.out.on HBn.out).frozen 1; have y0 : w7.cell? ⟨w.heap.size + 1, 0, none⟩ = some (.int .i64 1) := (HBn.out.cell (p := ⟨w.heap.size + 1, 0, none⟩) hlt1).trans ((JW2.out.cell 0).trans rfl); have y1 : w7.cell? ⟨w.heap.size + 1, 1, none⟩ = some (.string nm) := (HBn.out.cell (p := ⟨w.heap.size + 1, 1, none⟩) hlt1).trans ((JW2.out.cell 1).trans rfl); have y2 : w7.cell? ⟨w.heap.size + 1, 2, none⟩ = some (.string to) := (HBn.out.cell (p := ⟨w.heap.size + 1, 2, none⟩) hlt1).trans ((JW2.out.cell 2).trans rfl); have y3 : w7.cell? ⟨w.heap.size + 1, 3, none⟩ = some (.slice dA bs.length dc) := (HBn.out.cell (p := ⟨w.heap.size + 1, 3, none⟩) hlt1).trans ((JW2.out.cell 3).trans rfl); clear ho7 hg7 HBn)
            | (refine step_append_own_ (by rfl) (.tmp 92) (.tmp 94) 66 (by rfl) W2.heap.size 51 i0 _ 4 64 Try.underlying66 hi hz0 hz1 hz2 rfl (by omega) v6 (0 + os.length) ([] ++ os.flatMap encL) (by rfl) (HO6.out) (some ⟨W2.heap.size, 0, none⟩) 1 1 (encL (⟨1, nm, to, ⟨dA, bs.length, dc⟩, bs⟩ : LOp)) (by rfl) (by rfl) (by simp) (fun ad e j u hu => by injection e with e; subst e; rw [lit_add, Nat.zero_add, IS6.out.cell]; simpa [encL] using hu) (encL_one' _) (by unfold maxLen; omega) (by omega) (by first | exact hs6 | (simp; omega)) ?_; intro v7 w7 ho7 hg7; obtain ⟨A7, c7, rfl⟩ := own_slice ho7; have HO7 := Lib.hid ho7; have HBn : Hid (Below W2.heap.size W2 w7) := HB6.out.grown hg7 hs6 (fun q hq => (HO6.out.lt q hq).1); have HB7 := Lib.hid HBn.out; have x1 : w7.cell? ⟨w.heap.size, 1, none⟩ = some (.slice OA os.length OC) := (HBn.out.cell (p := ⟨w.heap.size, 1, none⟩) hlt0).trans ((IW2.out.cell 1).trans rfl); have x2 : w7.frozen? ⟨w.heap.size, 1, none⟩ = false := (IW2.out.on HBn.out).frozen 1; have y0 : w7.cell? ⟨w.heap.size + 1, 0, none⟩ = some (.int .i64 1) := (HBn.out.cell (p := ⟨w.heap.size + 1, 0, none⟩) hlt1).trans ((JW2.out.cell 0).trans rfl); have y1 : w7.cell? ⟨w.heap.size + 1, 1, none⟩ = some (.string nm) := (HBn.out.cell (p := ⟨w.heap.size + 1, 1, none⟩) hlt1).trans ((JW2.out.cell 1).trans rfl); have y2 : w7.cell? ⟨w.heap.size + 1, 2, none⟩ = some (.string to) := (HBn.out.cell (p := ⟨w.heap.size + 1, 2, none⟩) hlt1).trans ((JW2.out.cell 2).trans rfl); have y3 : w7.cell? ⟨w.heap.size + 1, 3, none⟩ = some (.slice dA bs.length dc) := (HBn.out.cell (p := ⟨w.heap.size + 1, 3, none⟩) hlt1).trans ((JW2.out.cell 3).trans rfl); clear ho7 hg7 HBn))
          all_goals (
            have hrow : Hid (w7.ownsRow 0 51 4 (.slice A7 (os.length + 1) c7) (os.length + 1) (os.flatMap encL ++ encL (⟨1, nm, to, ⟨dA, bs.length, dc⟩, bs⟩ : LOp))) := by
              have := ownsRow0 HO7.out
              show w7.ownsRow _ _ _ _ _ _
              simpa using this
            have I7 : Hid (IsB w7 w.heap.size 68 (RS.cells ⟨FA, FC, fs, OA, OC, os, false, f2⟩)) := IW2.out.on HB7.out
            have Z7 : Hid (IsB w7 (w.heap.size + 1 + 1) 68 vR0) := ZW2.out.on HB7.out
            have B7 : Hid (Below w.heap.size w w7) := BW2.out.trans (HB7.out.mono BW2.out.size)
            have R7 : Hid (RB w7 ⟨dA, bs.length, dc⟩ bs) := RW2.out.on HB7.out
            have hW3 : w7.grownBy (w7.setCell ⟨w.heap.size, 1, none⟩ (.slice A7 (os.length + 1) c7)) (some w.heap.size) := g_set (p := ⟨w.heap.size, 1, none⟩) (g_refl _ _) (.inl rfl) _
            have I8 : Hid (IsB (w7.setCell ⟨w.heap.size, 1, none⟩ (.slice A7 (os.length + 1) c7)) w.heap.size 68 (vR (.slice FA fs.length FC) (.slice A7 (os.length + 1) c7) false f2)) := I7.out.set_ 1 _
            have Z8 : Hid (IsB (w7.setCell ⟨w.heap.size, 1, none⟩ (.slice A7 (os.length + 1) c7)) (w.heap.size + 1 + 1) 68 vR0) := Z7.out.grown hW3 (by simp; omega)
            have B8 : Hid (Below w.heap.size w (w7.setCell ⟨w.heap.size, 1, none⟩ (.slice A7 (os.length + 1) c7))) := bel_grow B7.out hW3 (Nat.le_refl _) B7.out.size
            have R8 : Hid (RB (w7.setCell ⟨w.heap.size, 1, none⟩ (.slice A7 (os.length + 1) c7)) ⟨dA, bs.length, dc⟩ bs) := R7.out.grown hW3 (RB.ne_cell I7.out (by decide) R7.out)
            have O8 : Hid ((w7.setCell ⟨w.heap.size, 1, none⟩ (.slice A7 (os.length + 1) c7)).ownsRow 0 51 4 (.slice A7 (os.length + 1) c7) (os.length + 1) (os.flatMap encL ++ encL (⟨1, nm, to, ⟨dA, bs.length, dc⟩, bs⟩ : LOp))) := own_grown hrow.out hW3 I7.out (by decide)
            clear hW3 x1 x2 y0 y1 y2 y3 a0 a1 a2 a3 b0 b1 b2 b3 j0 j1 j2 j3 l0 l1 l2 l3
            generalize w7.setCell ⟨w.heap.size, 1, none⟩ (.slice A7 (os.length + 1) c7) = W8 at *
            obtain ⟨⟨a0, a1, a2, a3⟩, b0, b1, b2, b3⟩ := I8.out.res
            obtain ⟨⟨d0, d1, d2, d3⟩, e0, e1, e2, e3⟩ := Z8.out.res
            go_wp2_with fail
            have hg9 := setR_grow W8 (w.heap.size + 1 + 1) (.slice FA fs.length FC) (.slice A7 (os.length + 1) c7) false f2
            have hb9 := bel_grow B8.out hg9 (show w.heap.size ≤ w.heap.size + 1 + 1 by omega) B8.out.size
            have hIs : IsB (setR W8 (w.heap.size + 1 + 1) (.slice FA fs.length FC) (.slice A7 (os.length + 1) c7) false f2) (w.heap.size + 1 + 1) 68 (RS.cells ⟨FA, FC, fs, A7, c7, os ++ [(⟨1, nm, to, ⟨dA, bs.length, dc⟩, bs⟩ : LOp)], false, f2⟩) := by
              show IsB _ _ 68 (vR _ (.slice A7 (os ++ [(⟨1, nm, to, ⟨dA, bs.length, dc⟩, bs⟩ : LOp)]).length c7) _ _)
              rw [List.length_append]
              exact setR_is Z8.out _ _ _ _
            exact ret45 hIs rfl rfl rfl ⟨⟨FA, FC, fs, A7, c7, os ++ [(⟨1, nm, to, ⟨dA, bs.length, dc⟩, bs⟩ : LOp)], false, f2⟩, by rw [HE.out], RM.snoc (r := ⟨FA, FC, fs, OA, OC, os, false, f⟩) M0.out hb9 (own_grown O8.out hg9 Z8.out (by decide)) (R8.out.grown hg9 (RB.ne_cell Z8.out (by decide) R8.out)) ⟨HO.out.k1, HO.out.k4, HO.out.nm, HO.out.to, HO.out.len⟩, by rw [HSd.out, HF2.out]; exact RP.did (o := (⟨1, nm, to, ⟨B, bs.length, cc⟩, bs⟩ : LOp)) P0.out hlo rfl rfl rfl HDo.out HOk2.out HD.out HF1.out, NewR.snoc (r := ⟨FA, FC, fs, OA, OC, os, false, f⟩) N5.out, hb9⟩)
set_option maxRecDepth 100000 in
set_option maxHeartbeats 4000000 in
theorem RDo2_any (r : RS) (s : St) (nm to : ByteArray) (B : Option Addr) (cc : Nat) (bs : List UInt8) (n : Nat) (w : World) (hm : RM w r) (hp : RP r s) (ho : (⟨2, nm, to, ⟨B, bs.length, cc⟩, bs⟩ : LOp).Ok) (hr : RB w ⟨B, bs.length, cc⟩ bs) (hn : Cnt s.now n) (hok : Ok (reqS s n (⟨2, nm, to, ⟨B, bs.length, cc⟩, bs⟩ : LOp).op)) (hlo : r.os.length < 1000) :
    Calls Try.prog 45 #[.agg r.cells, .agg #[.int .i64 2, .string nm, .string to, .slice B bs.length cc]] w (DevE r (reqS s n (⟨2, nm, to, ⟨B, bs.length, cc⟩, bs⟩ : LOp).op) (reqE s n (⟨2, nm, to, ⟨B, bs.length, cc⟩, bs⟩ : LOp).op) w) := by
  obtain ⟨i0, hi, hz0, hz1, hz2⟩ := info_parts info51
  have M0 := Lib.hid hm
  have P0 := Lib.hid hp
  have HO := Lib.hid ho
  have HR := Lib.hid hr
  have HCn := Lib.hid hn
  have HOk := Lib.hid hok
  have HNm : Hid (okS nm) := names_ok _ ho.nm
  have HTo : Hid (okS to) := names_ok _ ho.to
  have hbl : bs.length ≤ 5 := ho.len
  clear hm hp ho hr hn hok
  have hf0 : 0 ≤ r.f := by rw [P0.out.f]; exact P0.out.ok.f0
  have hf1 : r.f ≤ 9223372036854775807 := by rw [P0.out.f]; exact P0.out.ok.f1
  obtain ⟨FA, FC, fs, OA, OC, os, dn, f⟩ := r
  simp only at hf0 hf1 hlo
  have HD : Hid (s.dn = dn) := P0.out.dn.symm
  have HF : Hid (s.f = f) := P0.out.f.symm
  obtain ⟨I0, J0, Z0, B0, s0⟩ := threeO_is w (RS.cells ⟨FA, FC, fs, OA, OC, os, dn, f⟩) #[.int .i64 2, .string nm, .string to, .slice B bs.length cc]
  have HI0 := Lib.hid I0
  have HJ0 := Lib.hid J0
  have HZ0 := Lib.hid Z0
  have HB0 := Lib.hid B0
  have M1 : Hid (RM (threeO w (RS.cells ⟨FA, FC, fs, OA, OC, os, dn, f⟩) #[.int .i64 2, .string nm, .string to, .slice B bs.length cc]) ⟨FA, FC, fs, OA, OC, os, dn, f⟩) := M0.out.on B0
  clear I0 J0 Z0 B0 s0
  have HS : Hid (∀ E, E ≠ 0 → gate s n (⟨2, nm, to, ⟨B, bs.length, cc⟩, bs⟩ : LOp).op = E → reqE s n (⟨2, nm, to, ⟨B, bs.length, cc⟩, bs⟩ : LOp).op = E ∧ reqS s n (⟨2, nm, to, ⟨B, bs.length, cc⟩, bs⟩ : LOp).op = s) := fun E hE h => by
    rw [reqE, reqS, h, if_neg hE, if_neg hE]
    exact ⟨rfl, rfl⟩
  cases dn
  case true =>
    have HG : Hid (gate s n (⟨2, nm, to, ⟨B, bs.length, cc⟩, bs⟩ : LOp).op = 303) := by simp [Hid, gate, LOp.op, HD.out]
    go_enter Try.func45, Try.ntmps45
    go_wp2_with fail
    refine bodyPost_ret (v := .tuple #[.agg (RS.cells ⟨FA, FC, fs, OA, OC, os, true, f⟩), .int .i64 303]) ?_ rfl ⟨⟨FA, FC, fs, OA, OC, os, true, f⟩, by rw [(HS.out 303 (by decide) HG.out).1], M0.out.on (((bel1 _ _).alloc (by simp) _).alloc (by simp; omega) _), by rw [(HS.out 303 (by decide) HG.out).2]; exact P0.out, NewR.mk_ (NewF.refl _ _) (fun _ h => h), ((bel1 _ _).alloc (by simp) _).alloc (by simp; omega) _⟩
    simp [results, Try.results45, go_sem]
  case false =>
    go_enter Try.func45, Try.ntmps45
    go_wp2_with fail
    refine (rName_any nm _ HNm.out).mono ?_
    rintro e w1 ⟨rfl, rfl⟩
    cases hnb : nameB nm
    case false =>
      have HG : Hid (gate s n (⟨2, nm, to, ⟨B, bs.length, cc⟩, bs⟩ : LOp).op = 300) := by simp [Hid, gate, LOp.op, HD.out, hnb]
      clear hnb
      go_wp2_with fail
      refine bodyPost_ret (v := .tuple #[.agg (RS.cells ⟨FA, FC, fs, OA, OC, os, false, f⟩), .int .i64 300]) ?_ rfl ⟨⟨FA, FC, fs, OA, OC, os, false, f⟩, by rw [(HS.out 300 (by decide) HG.out).1], M0.out.on (((bel1 _ _).alloc (by simp) _).alloc (by simp; omega) _), by rw [(HS.out 300 (by decide) HG.out).2]; exact P0.out, NewR.mk_ (NewF.refl _ _) (fun _ h => h), ((bel1 _ _).alloc (by simp) _).alloc (by simp; omega) _⟩
      simp [results, Try.results45, go_sem]
    case true =>
      have HNb := Lib.hid hnb
      clear hnb
      go_wp2_with fail
      refine (Files_any ⟨FA, FC, fs, OA, OC, os, false, f⟩ s _ M1.out P0.out).mono ?_
      rintro e w2 ⟨A, c, fs', rfl, hf, ha, _, hb'⟩
      have hb : Below (threeO w (RS.cells ⟨FA, FC, fs, OA, OC, os, false, f⟩) #[.int .i64 2, .string nm, .string to, .slice B bs.length cc]).heap.size (threeO w (RS.cells ⟨FA, FC, fs, OA, OC, os, false, f⟩) #[.int .i64 2, .string nm, .string to, .slice B bs.length cc]) w2 := hb'
      have F2 := Lib.hid hf
      have HA := Lib.hid ha
      have hl : fs'.length ≤ 256 := (pl_small hf.sort ha P0.out.ok.now).1
      have HLn : Hid (fs'.length = n) := (pl_cnt hf.sort ha).uniq HCn.out
      have HSm := Lib.hid (pl_small hf.sort ha P0.out.ok.now).2
      have I2 : Hid (IsB w2 w.heap.size 68 (RS.cells ⟨FA, FC, fs, OA, OC, os, false, f⟩)) := HI0.out.on hb
      have J2 : Hid (IsB w2 (w.heap.size + 1) 51 #[.int .i64 2, .string nm, .string to, .slice B bs.length cc]) := HJ0.out.on hb
      have Z2 : Hid (IsB w2 (w.heap.size + 1 + 1) 68 vR0) := HZ0.out.on hb
      have B2 : Hid (Below w.heap.size w w2) := HB0.out.trans (hb.mono HB0.out.size)
      have j1 : w2.cell? ⟨w.heap.size + 1, 1, none⟩ = some (.string nm) := J2.out.cell 1
      clear hf ha hb hb' HI0 HJ0 HZ0 HB0
      go_wp2_with fail
      refine (place_any A c fs' nm _ F2.out (by omega)).mono ?_
      rintro e w3 ⟨he, hb⟩
      have F3 : Hid (FL w3 A c fs') := F2.out.on hb
      have I3 : Hid (IsB w3 w.heap.size 68 (RS.cells ⟨FA, FC, fs, OA, OC, os, false, f⟩)) := I2.out.on hb
      have J3 : Hid (IsB w3 (w.heap.size + 1) 51 #[.int .i64 2, .string nm, .string to, .slice B bs.length cc]) := J2.out.on hb
      have Z3 : Hid (IsB w3 (w.heap.size + 1 + 1) 68 vR0) := Z2.out.on hb
      have B3 : Hid (Below w.heap.size w w3) := B2.out.trans (hb.mono B2.out.size)
      have HH : Hid (hasP fs' nm = (s.now nm).isSome) := by rw [Hid, hasP_asc F2.out.sort, HA.out]
      clear hb I2 J2 Z2 B2 j1
      obtain ⟨p, HP⟩ : ∃ p, Hid (posP fs' nm = p) := ⟨_, rfl⟩
      obtain ⟨b, Hb⟩ : ∃ b, Hid (hasP fs' nm = b) := ⟨_, rfl⟩
      rw [HP.out, Hb.out] at he
      subst he
      obtain ⟨⟨a0, a1, a2, a3⟩, b0, b1, b2, b3⟩ := I3.out.res
      obtain ⟨⟨j0, j1, j2, j3⟩, l0, l1, l2, l3⟩ := J3.out.res
      obtain ⟨⟨d0, d1, d2, d3⟩, e0, e1, e2, e3⟩ := Z3.out.res
      cases b
      · have HG : Hid (gate s n (⟨2, nm, to, ⟨B, bs.length, cc⟩, bs⟩ : LOp).op = 301) := by simp [Hid, gate, LOp.op, HD.out, HNb.out, ← HH.out, Hb.out]
        go_wp2_with fail
        have fin := same_fin (r := ⟨FA, FC, fs, OA, OC, os, false, f⟩) 301 M0.out P0.out B3.out (show w.heap.size ≤ w.heap.size + 1 + 1 by omega) Z3.out
        exact ret45 fin.1 rfl rfl rfl (by rw [(HS.out 301 (by decide) HG.out).1, (HS.out 301 (by decide) HG.out).2]; exact fin.2)
      · obtain ⟨⟨xn, ⟨XA, XL, XC⟩, xb⟩, hx, hxn, hxa⟩ := posP_at F3.out.sort Hb.out
        rw [HP.out] at hx
        simp only at hxn hxa
        have hxm := List.mem_of_getElem? hx
        have hplt := (List.getElem?_eq_some_iff.1 hx).1
        obtain ⟨g, hAg, hgl, _, c1⟩ := rowF F3.out.row hx
        obtain rfl : xb.length = XL := (F3.out.rb _ hxm).1
        have hxl : xb.length ≤ 4194304 := HSm.out _ hxm
        have HXN : Hid (s.now nm = some xb) := by rw [Hid, ← HA.out, hxa]
        simp only at c1
        subst hAg
        have hp0 : (0 : Int) ≤ p := by omega
        have hpi : (p : Int) < fs'.length := by omega
        clear hx hxa hxm hxn
        by_cases hfull : 4194304 < xb.length + bs.length
        · have HG : Hid (gate s n (⟨2, nm, to, ⟨B, bs.length, cc⟩, bs⟩ : LOp).op = 302) := by simp [Hid, gate, LOp.op, HD.out, HNb.out, HXN.out, hfull]
          have hfi : (4194304 : Int) < bs.length + xb.length := by omega
          go_wp2_with fail
          have fin := same_fin (r := ⟨FA, FC, fs, OA, OC, os, false, f⟩) 302 M0.out P0.out B3.out (show w.heap.size ≤ w.heap.size + 1 + 1 by omega) Z3.out
          exact ret45 fin.1 rfl rfl rfl (by rw [(HS.out 302 (by decide) HG.out).1, (HS.out 302 (by decide) HG.out).2]; exact fin.2)
        · have HG : Hid (gate s n (⟨2, nm, to, ⟨B, bs.length, cc⟩, bs⟩ : LOp).op = 0) := by simp [Hid, gate, LOp.op, HD.out, HNb.out, HXN.out]; omega
          have hfi : ¬ ((4194304 : Int) < bs.length + xb.length) := by omega
          have HDo : Hid (Does s.now (⟨2, nm, to, ⟨B, bs.length, cc⟩, bs⟩ : LOp)) := fun _ => by rw [HXN.out]; rfl
          go_wp2_with fail
          refine (burnR_any FA fs.length FC OA os.length OC false f _ hf0 hf1).mono ?_
          rintro e w4 ⟨he, hb⟩
          have I4 : Hid (IsB w4 w.heap.size 68 (RS.cells ⟨FA, FC, fs, OA, OC, os, false, f⟩)) := I3.out.on hb
          have J4 : Hid (IsB w4 (w.heap.size + 1) 51 #[.int .i64 2, .string nm, .string to, .slice B bs.length cc]) := J3.out.on hb
          have Z4 : Hid (IsB w4 (w.heap.size + 1 + 1) 68 vR0) := Z3.out.on hb
          have B4 : Hid (Below w.heap.size w w4) := B3.out.trans (hb.mono B3.out.size)
          clear hb a0 a1 a2 a3 b0 b1 b2 b3 j0 j1 j2 j3 l0 l1 l2 l3 d0 d1 d2 d3 e0 e1 e2 e3
          obtain ⟨⟨a0, a1, a2, a3⟩, b0, b1, b2, b3⟩ := I4.out.res
          obtain ⟨⟨d0, d1, d2, d3⟩, e0, e1, e2, e3⟩ := Z4.out.res
          by_cases h1 : f = 1
          · subst h1
            have HE : Hid (reqE s n (⟨2, nm, to, ⟨B, bs.length, cc⟩, bs⟩ : LOp).op = 303) := by simp [Hid, reqE, HG.out, HF.out]
            have HSc : Hid (reqS s n (⟨2, nm, to, ⟨B, bs.length, cc⟩, bs⟩ : LOp).op = s.cut) := by simp [Hid, reqS, HG.out, HF.out]
            simp [burnF] at he
            subst he
            go_wp2_with fail
            have hW := setR_grow w4 w.heap.size (.slice FA fs.length FC) (.slice OA os.length OC) true 0
            have hb2 := bel_grow (bel_grow B4.out hW (Nat.le_refl _) B4.out.size) (setR_grow _ (w.heap.size + 1 + 1) (.slice FA fs.length FC) (.slice OA os.length OC) true 0) (by omega) (Nat.le_trans B4.out.size hW.size)
            exact ret45 (r' := ⟨FA, FC, fs, OA, OC, os, true, 0⟩) (setR_is (Z4.out.grown hW (by simp; omega)) (.slice FA fs.length FC) (.slice OA os.length OC) true 0) rfl rfl rfl ⟨⟨FA, FC, fs, OA, OC, os, true, 0⟩, by rw [HE.out], (M0.out.fields true 0).on hb2, by rw [HSc.out]; exact P0.out.cut, NewR.mk_ (NewF.refl _ _) (fun _ h => h), hb2⟩
          · have HE : Hid (reqE s n (⟨2, nm, to, ⟨B, bs.length, cc⟩, bs⟩ : LOp).op = 0) := by simp [Hid, reqE, HG.out, HF.out, h1]
            have HSd : Hid (reqS s n (⟨2, nm, to, ⟨B, bs.length, cc⟩, bs⟩ : LOp).op = s.did (⟨2, nm, to, ⟨B, bs.length, cc⟩, bs⟩ : LOp).op) := by simp [Hid, reqS, HG.out, HF.out, h1]
            have HOk2 : Hid (Ok (s.did (⟨2, nm, to, ⟨B, bs.length, cc⟩, bs⟩ : LOp).op)) := by have := HOk.out; rw [HSd.out] at this; exact this
            have HF1 : Hid (s.f ≠ 1) := by rw [Hid, HF.out]; exact h1
            simp only [if_neg h1, decide_eq_false h1, Bool.not_false] at he
            obtain ⟨f2, HF2⟩ : ∃ f2, Hid (f2 = burnF s.f) := ⟨_, rfl⟩
            rw [← HF.out, ← HF2.out] at he
            subst he
            clear h1
            go_upto_region 15 with fail
            have hW := setR_grow w4 w.heap.size (.slice FA fs.length FC) (.slice OA os.length OC) false f2
            have IW : Hid (IsB (setR w4 w.heap.size (.slice FA fs.length FC) (.slice OA os.length OC) false f2) w.heap.size 68 (RS.cells ⟨FA, FC, fs, OA, OC, os, false, f2⟩)) := setR_is I4.out _ _ _ _
            have JW : Hid (IsB (setR w4 w.heap.size (.slice FA fs.length FC) (.slice OA os.length OC) false f2) (w.heap.size + 1) 51 #[.int .i64 2, .string nm, .string to, .slice B bs.length cc]) := J4.out.grown hW (by simp)
            have ZW : Hid (IsB (setR w4 w.heap.size (.slice FA fs.length FC) (.slice OA os.length OC) false f2) (w.heap.size + 1 + 1) 68 vR0) := Z4.out.grown hW (by simp; omega)
            have BW : Hid (Below w.heap.size w (setR w4 w.heap.size (.slice FA fs.length FC) (.slice OA os.length OC) false f2)) := bel_grow B4.out hW (Nat.le_refl _) B4.out.size
            clear hW a0 a1 a2 a3 b0 b1 b2 b3 d0 d1 d2 d3 e0 e1 e2 e3
            unfold setR at IW JW ZW BW
            generalize (((w4.setCell ⟨w.heap.size, 0, none⟩ (.slice FA fs.length FC)).setCell ⟨w.heap.size, 1, none⟩ (.slice OA os.length OC)).setCell ⟨w.heap.size, 2, none⟩ (.bool false)).setCell ⟨w.heap.size, 3, none⟩ (.int .i64 f2) = W at *
            obtain ⟨⟨j0, j1, j2, j3⟩, l0, l1, l2, l3⟩ := JW.out.res
            have RW : Hid (RB W ⟨B, bs.length, cc⟩ bs) := HR.out.on BW.out
            go_wp2_with (at_builtin; refine halt_ ?_)
            refine wpList_append_bytes rfl _ _ rfl ⟨none, 0, 0⟩ [] rfl (RB.zero _) B cc bs rfl RW.out.src (by simp; omega) ?_
            rintro ⟨dA, dl, dc⟩ w5 hdl5 ha5
            clear hdl5
            obtain ⟨r5, n5, b5⟩ := AppB.new (w0 := W) ha5 (by simp [blk]) (Below.refl _ _)
            have r5' : RB w5 ⟨dA, dl, dc⟩ bs := r5
            obtain rfl : bs.length = dl := r5'.1
            have R5 := Lib.hid r5'
            have N5 : Hid (∀ g, blk ⟨dA, bs.length, dc⟩ = some g → w.heap.size ≤ g) := fun g hg => by have := n5 g hg; have := BW.out.size; omega
            have I5 : Hid (IsB w5 w.heap.size 68 (RS.cells ⟨FA, FC, fs, OA, OC, os, false, f2⟩)) := IW.out.on b5
            have J5 : Hid (IsB w5 (w.heap.size + 1) 51 #[.int .i64 2, .string nm, .string to, .slice B bs.length cc]) := JW.out.on b5
            have Z5 : Hid (IsB w5 (w.heap.size + 1 + 1) 68 vR0) := ZW.out.on b5
            have B5 : Hid (Below w.heap.size w w5) := BW.out.trans (b5.mono BW.out.size)
            clear r5 r5' n5 b5 ha5 j0 j1 j2 j3 l0 l1 l2 l3
            obtain ⟨⟨j0, j1, j2, j3⟩, l0, l1, l2, l3⟩ := J5.out.res
            unfold vB
            go_upto_region 18 with fail
            have hW2 : w5.grownBy (w5.setCell ⟨w.heap.size + 1, 3, none⟩ (.slice dA bs.length dc)) (some (w.heap.size + 1)) := g_set (p := ⟨w.heap.size + 1, 3, none⟩) (g_refl _ _) (.inl rfl) _
            have IW2 : Hid (IsB (w5.setCell ⟨w.heap.size + 1, 3, none⟩ (.slice dA bs.length dc)) w.heap.size 68 (RS.cells ⟨FA, FC, fs, OA, OC, os, false, f2⟩)) := I5.out.grown hW2 (by simp)
            have JW2 : Hid (IsB (w5.setCell ⟨w.heap.size + 1, 3, none⟩ (.slice dA bs.length dc)) (w.heap.size + 1) 51 #[.int .i64 2, .string nm, .string to, .slice dA bs.length dc]) := J5.out.set_ 3 _
            have ZW2 : Hid (IsB (w5.setCell ⟨w.heap.size + 1, 3, none⟩ (.slice dA bs.length dc)) (w.heap.size + 1 + 1) 68 vR0) := Z5.out.grown hW2 (by simp)
            have BW2 : Hid (Below w.heap.size w (w5.setCell ⟨w.heap.size + 1, 3, none⟩ (.slice dA bs.length dc))) := bel_grow B5.out hW2 (by omega) B5.out.size
            have RW2 : Hid (RB (w5.setCell ⟨w.heap.size + 1, 3, none⟩ (.slice dA bs.length dc)) ⟨dA, bs.length, dc⟩ bs) := R5.out.grown hW2 (RB.ne_cell J5.out (by decide) R5.out)
            clear hW2 j0 j1 j2 j3 l0 l1 l2 l3
            generalize w5.setCell ⟨w.heap.size + 1, 3, none⟩ (.slice dA bs.length dc) = W2 at *
            have hlt0 := IW2.out.lt
            have hlt1 := JW2.out.lt
            obtain ⟨⟨a0, a1, a2, a3⟩, b0, b1, b2, b3⟩ := IW2.out.res
            obtain ⟨⟨j0, j1, j2, j3⟩, l0, l1, l2, l3⟩ := JW2.out.res
            have HSrc : Hid (∀ w', Below W2.heap.size W2 w' → ∀ ad, OA = some ad → ∀ j u, (os.flatMap encL)[j]? = some u → w'.cell? (ad.add j) = some u) := fun w' hb => src_ops (own_on (own_on M0.out.row BW2.out) hb)
            have HNil : Hid (OA = none → os.length = 0) := fun e => nil_ops M0.out.row e
            have HTl : Hid ((os.flatMap encL).length = os.length * 4) := flat_len encL_len _
            clear B4 B5 I4 J4 Z4 I5 J5 Z5 R5 RW BW JW IW ZW
            go_region_law (first
              | (refine step_append_own_ (by rfl) (.const (.slice none 0 0)) (.tmp 91) 66 (by rfl) W2.heap.size 51 i0 _ 4 64 Try.underlying66 hi hz0 hz1 hz2 rfl (by omega) (.slice none 0 0) 0 [] (by rfl) (World.ownsRow_nil _ _ _ _) OA os.length OC (os.flatMap encL) (by rfl) HTl.out HNil.out (HSrc.out _ (bel_drew (Below.refl _ _))) (encL_one _) (by unfold maxLen; omega) (by omega) (by simp) ?_; intro v6 w6 ho6 hg6; have HO6 := Lib.hid ho6; have HBn : Hid (Below W2.heap.size W2 w6) := of_drew ((Below.refl _ _).grown hg6 (by simp) (fun q hq => by simp [Value.ownBlock] at hq)); have HB6 := Lib.hid HBn.out; have x1 : w6.cell? ⟨w.heap.size, 1, none⟩ = some (.slice OA os.length OC) := (HBn.out.cell (p := ⟨w.heap.size, 1, none⟩) hlt0).trans ((IW2.out.cell 1).trans rfl); have x2 : w6.frozen? ⟨w.heap.size, 1, none⟩ = false := (IW2.out.on HBn.out).frozen 1; have y0 : w6.cell? ⟨w.heap.size + 1, 0, none⟩ = some (.int .i64 2) := (HBn.out.cell (p := ⟨w.heap.size + 1, 0, none⟩) hlt1).trans ((JW2.out.cell 0).trans rfl); have y1 : w6.cell? ⟨w.heap.size + 1, 1, none⟩ = some (.string nm) := (HBn.out.cell (p := ⟨w.heap.size + 1, 1, none⟩) hlt1).trans ((JW2.out.cell 1).trans rfl); have y2 : w6.cell? ⟨w.heap.size + 1, 2, none⟩ = some (.string to) := (HBn.out.cell (p := ⟨w.heap.size + 1, 2, none⟩) hlt1).trans ((JW2.out.cell 2).trans rfl); have y3 : w6.cell? ⟨w.heap.size + 1, 3, none⟩ = some (.slice dA bs.length dc) := (HBn.out.cell (p := ⟨w.heap.size + 1, 3, none⟩) hlt1).trans ((JW2.out.cell 3).trans rfl); have hs6 := HBn.out.size; clear ho6 hg6 HBn)
              | (refine step_append_own_ (by rfl) (.const (.slice none 0 0)) (.tmp 91) 66 (by rfl) W2.heap.size 51 i0 _ 4 64 Try.underlying66 hi hz0 hz1 hz2 rfl (by omega) (.slice none 0 0) 0 [] (by rfl) (World.ownsRow_nil _ _ _ _) OA os.length OC (os.flatMap encL) (by rfl) HTl.out HNil.out (HSrc.out _ (bel_drew (bel1 _ _))) (encL_one _) (by unfold maxLen; omega) (by omega) (by simp) ?_; intro v6 w6 ho6 hg6; have HO6 := Lib.hid ho6; have HBn : Hid (Below W2.heap.size W2 w6) := (bel_drew (bel1 W2 _)).grown hg6 (by simp) (fun q hq => by simp [Value.ownBlock] at hq); have HB6 := Lib.hid HBn.out; have IS6 : Hid (IsB w6 W2.heap.size 51 #[.int .i64 2, .string nm, .string to, .slice dA bs.length dc]) := ((IsB.new W2 51 #[.int .i64 2, .string nm, .string to, .slice dA bs.length dc]).on_drew).grown hg6 (by simp [Value.ownBlock]); have x1 : w6.cell? ⟨w.heap.size, 1, none⟩ = some (.slice OA os.length OC) := (HBn.out.cell (p := ⟨w.heap.size, 1, none⟩) hlt0).trans ((IW2.out.cell 1).trans rfl); have x2 : w6.frozen? ⟨w.heap.size, 1, none⟩ = false := (IW2.out.on HBn.out).frozen 1; have y0 : w6.cell? ⟨w.heap.size + 1, 0, none⟩ = some (.int .i64 2) := (HBn.out.cell (p := ⟨w.heap.size + 1, 0, none⟩) hlt1).trans ((JW2.out.cell 0).trans rfl); have y1 : w6.cell? ⟨w.heap.size + 1, 1, none⟩ = some (.string nm) := (HBn.out.cell (p := ⟨w.heap.size + 1, 1, none⟩) hlt1).trans ((JW2.out.cell 1).trans rfl); have y2 : w6.cell? ⟨w.heap.size + 1, 2, none⟩ = some (.string to) := (HBn.out.cell (p := ⟨w.heap.size + 1, 2, none⟩) hlt1).trans ((JW2.out.cell 2).trans rfl); have y3 : w6.cell? ⟨w.heap.size + 1, 3, none⟩ = some (.slice dA bs.length dc) := (HBn.out.cell (p := ⟨w.heap.size + 1, 3, none⟩) hlt1).trans ((JW2.out.cell 3).trans rfl); have hs6 := HBn.out.size; clear ho6 hg6 HBn)
              | (refine step_append_own_ (by rfl) (.tmp 92) (.tmp 94) 66 (by rfl) W2.heap.size 51 i0 _ 4 64 Try.underlying66 hi hz0 hz1 hz2 rfl (by omega) v6 (0 + os.length) ([] ++ os.flatMap encL) (by rfl) (HO6.out.alloc _) (some ⟨w6.heap.size, 0, none⟩) 1 1 (encL (⟨2, nm, to, ⟨dA, bs.length, dc⟩, bs⟩ : LOp)) (by rfl) (by rfl) (by simp) (fun ad e j u hu => by injection e with e; subst e; rw [lit_add, Nat.zero_add, new_cell _ _ _ _ rfl]; simpa [encL] using hu) (encL_one' _) (by unfold maxLen; omega) (by omega) (by first | exact hs6 | (simp; omega)) ?_; intro v7 w7 ho7 hg7; obtain ⟨A7, c7, rfl⟩ := own_slice ho7; have HO7 := Lib.hid ho7; have HBn : Hid (Below W2.heap.size W2 w7) := (HB6.out.alloc hs6 _).grown hg7 (by simp; omega) (fun q hq => (HO6.out.lt q hq).1); have HB7 := Lib.hid HBn.out; have x1 : w7.cell? ⟨w.heap.size, 1, none⟩ = some (.slice OA os.length OC) := (HBn.out.cell (p := ⟨w.heap.size, 1, none⟩) hlt0).trans ((IW2.out.cell 1).trans rfl); have x2 : w7.frozen? ⟨w.heap.size, 1, none⟩ = false := (IW2.out.on HBn.out).frozen 1; have y0 : w7.cell? ⟨w.heap.size + 1, 0, none⟩ = some (.int .i64 2) := (HBn.out.cell (p := ⟨w.heap.size + 1, 0, none⟩) hlt1).trans ((JW2.out.cell 0).trans rfl); have y1 : w7.cell? ⟨w.heap.size + 1, 1, none⟩ = some (.string nm) := (HBn.out.cell (p := ⟨w.heap.size + 1, 1, none⟩) hlt1).trans ((JW2.out.cell 1).trans rfl); have y2 : w7.cell? ⟨w.heap.size + 1, 2, none⟩ = some (.string to) := (HBn.out.cell (p := ⟨w.heap.size + 1, 2, none⟩) hlt1).trans ((JW2.out.cell 2).trans rfl); have y3 : w7.cell? ⟨w.heap.size + 1, 3, none⟩ = some (.slice dA bs.length dc) := (HBn.out.cell (p := ⟨w.heap.size + 1, 3, none⟩) hlt1).trans ((JW2.out.cell 3).trans rfl); clear ho7 hg7 HBn)
              | (refine step_append_own_ (by rfl) (.tmp 92) (.tmp 94) 66 (by rfl) W2.heap.size 51 i0 _ 4 64 Try.underlying66 hi hz0 hz1 hz2 rfl (by omega) v6 (0 + os.length) ([] ++ os.flatMap encL) (by rfl) (HO6.out) (some ⟨W2.heap.size, 0, none⟩) 1 1 (encL (⟨2, nm, to, ⟨dA, bs.length, dc⟩, bs⟩ : LOp)) (by rfl) (by rfl) (by simp) (fun ad e j u hu => by injection e with e; subst e; rw [lit_add, Nat.zero_add, IS6.out.cell]; simpa [encL] using hu) (encL_one' _) (by unfold maxLen; omega) (by omega) (by first | exact hs6 | (simp; omega)) ?_; intro v7 w7 ho7 hg7; obtain ⟨A7, c7, rfl⟩ := own_slice ho7; have HO7 := Lib.hid ho7; have HBn : Hid (Below W2.heap.size W2 w7) := HB6.out.grown hg7 hs6 (fun q hq => (HO6.out.lt q hq).1); have HB7 := Lib.hid HBn.out; have x1 : w7.cell? ⟨w.heap.size, 1, none⟩ = some (.slice OA os.length OC) := (HBn.out.cell (p := ⟨w.heap.size, 1, none⟩) hlt0).trans ((IW2.out.cell 1).trans rfl); have x2 : w7.frozen? ⟨w.heap.size, 1, none⟩ = false := (IW2.out.on HBn.out).frozen 1; have y0 : w7.cell? ⟨w.heap.size + 1, 0, none⟩ = some (.int .i64 2) := (HBn.out.cell (p := ⟨w.heap.size + 1, 0, none⟩) hlt1).trans ((JW2.out.cell 0).trans rfl); have y1 : w7.cell? ⟨w.heap.size + 1, 1, none⟩ = some (.string nm) := (HBn.out.cell (p := ⟨w.heap.size + 1, 1, none⟩) hlt1).trans ((JW2.out.cell 1).trans rfl); have y2 : w7.cell? ⟨w.heap.size + 1, 2, none⟩ = some (.string to) := (HBn.out.cell (p := ⟨w.heap.size + 1, 2, none⟩) hlt1).trans ((JW2.out.cell 2).trans rfl); have y3 : w7.cell? ⟨w.heap.size + 1, 3, none⟩ = some (.slice dA bs.length dc) := (HBn.out.cell (p := ⟨w.heap.size + 1, 3, none⟩) hlt1).trans ((JW2.out.cell 3).trans rfl); clear ho7 hg7 HBn))
            all_goals (
              have hrow : Hid (w7.ownsRow 0 51 4 (.slice A7 (os.length + 1) c7) (os.length + 1) (os.flatMap encL ++ encL (⟨2, nm, to, ⟨dA, bs.length, dc⟩, bs⟩ : LOp))) := by
                have := ownsRow0 HO7.out
                show w7.ownsRow _ _ _ _ _ _
                simpa using this
              have I7 : Hid (IsB w7 w.heap.size 68 (RS.cells ⟨FA, FC, fs, OA, OC, os, false, f2⟩)) := IW2.out.on HB7.out
              have Z7 : Hid (IsB w7 (w.heap.size + 1 + 1) 68 vR0) := ZW2.out.on HB7.out
              have B7 : Hid (Below w.heap.size w w7) := BW2.out.trans (HB7.out.mono BW2.out.size)
              have R7 : Hid (RB w7 ⟨dA, bs.length, dc⟩ bs) := RW2.out.on HB7.out
              have hW3 : w7.grownBy (w7.setCell ⟨w.heap.size, 1, none⟩ (.slice A7 (os.length + 1) c7)) (some w.heap.size) := g_set (p := ⟨w.heap.size, 1, none⟩) (g_refl _ _) (.inl rfl) _
              have I8 : Hid (IsB (w7.setCell ⟨w.heap.size, 1, none⟩ (.slice A7 (os.length + 1) c7)) w.heap.size 68 (vR (.slice FA fs.length FC) (.slice A7 (os.length + 1) c7) false f2)) := I7.out.set_ 1 _
              have Z8 : Hid (IsB (w7.setCell ⟨w.heap.size, 1, none⟩ (.slice A7 (os.length + 1) c7)) (w.heap.size + 1 + 1) 68 vR0) := Z7.out.grown hW3 (by simp; omega)
              have B8 : Hid (Below w.heap.size w (w7.setCell ⟨w.heap.size, 1, none⟩ (.slice A7 (os.length + 1) c7))) := bel_grow B7.out hW3 (Nat.le_refl _) B7.out.size
              have R8 : Hid (RB (w7.setCell ⟨w.heap.size, 1, none⟩ (.slice A7 (os.length + 1) c7)) ⟨dA, bs.length, dc⟩ bs) := R7.out.grown hW3 (RB.ne_cell I7.out (by decide) R7.out)
              have O8 : Hid ((w7.setCell ⟨w.heap.size, 1, none⟩ (.slice A7 (os.length + 1) c7)).ownsRow 0 51 4 (.slice A7 (os.length + 1) c7) (os.length + 1) (os.flatMap encL ++ encL (⟨2, nm, to, ⟨dA, bs.length, dc⟩, bs⟩ : LOp))) := own_grown hrow.out hW3 I7.out (by decide)
              clear hW3 x1 x2 y0 y1 y2 y3 a0 a1 a2 a3 b0 b1 b2 b3 j0 j1 j2 j3 l0 l1 l2 l3
              generalize w7.setCell ⟨w.heap.size, 1, none⟩ (.slice A7 (os.length + 1) c7) = W8 at *
              obtain ⟨⟨a0, a1, a2, a3⟩, b0, b1, b2, b3⟩ := I8.out.res
              obtain ⟨⟨d0, d1, d2, d3⟩, e0, e1, e2, e3⟩ := Z8.out.res
              go_wp2_with fail
              have hg9 := setR_grow W8 (w.heap.size + 1 + 1) (.slice FA fs.length FC) (.slice A7 (os.length + 1) c7) false f2
              have hb9 := bel_grow B8.out hg9 (show w.heap.size ≤ w.heap.size + 1 + 1 by omega) B8.out.size
              have hIs : IsB (setR W8 (w.heap.size + 1 + 1) (.slice FA fs.length FC) (.slice A7 (os.length + 1) c7) false f2) (w.heap.size + 1 + 1) 68 (RS.cells ⟨FA, FC, fs, A7, c7, os ++ [(⟨2, nm, to, ⟨dA, bs.length, dc⟩, bs⟩ : LOp)], false, f2⟩) := by
                show IsB _ _ 68 (vR _ (.slice A7 (os ++ [(⟨2, nm, to, ⟨dA, bs.length, dc⟩, bs⟩ : LOp)]).length c7) _ _)
                rw [List.length_append]
                exact setR_is Z8.out _ _ _ _
              exact ret45 hIs rfl rfl rfl ⟨⟨FA, FC, fs, A7, c7, os ++ [(⟨2, nm, to, ⟨dA, bs.length, dc⟩, bs⟩ : LOp)], false, f2⟩, by rw [HE.out], RM.snoc (r := ⟨FA, FC, fs, OA, OC, os, false, f⟩) M0.out hb9 (own_grown O8.out hg9 Z8.out (by decide)) (R8.out.grown hg9 (RB.ne_cell Z8.out (by decide) R8.out)) ⟨HO.out.k1, HO.out.k4, HO.out.nm, HO.out.to, HO.out.len⟩, by rw [HSd.out, HF2.out]; exact RP.did (o := (⟨2, nm, to, ⟨B, bs.length, cc⟩, bs⟩ : LOp)) P0.out hlo rfl rfl rfl HDo.out HOk2.out HD.out HF1.out, NewR.snoc (r := ⟨FA, FC, fs, OA, OC, os, false, f⟩) N5.out, hb9⟩)
set_option maxRecDepth 100000 in
set_option maxHeartbeats 4000000 in
theorem RDo3_any (r : RS) (s : St) (nm to : ByteArray) (B : Option Addr) (cc : Nat) (bs : List UInt8) (n : Nat) (w : World) (hm : RM w r) (hp : RP r s) (ho : (⟨3, nm, to, ⟨B, bs.length, cc⟩, bs⟩ : LOp).Ok) (hr : RB w ⟨B, bs.length, cc⟩ bs) (hn : Cnt s.now n) (hok : Ok (reqS s n (⟨3, nm, to, ⟨B, bs.length, cc⟩, bs⟩ : LOp).op)) (hlo : r.os.length < 1000) :
    Calls Try.prog 45 #[.agg r.cells, .agg #[.int .i64 3, .string nm, .string to, .slice B bs.length cc]] w (DevE r (reqS s n (⟨3, nm, to, ⟨B, bs.length, cc⟩, bs⟩ : LOp).op) (reqE s n (⟨3, nm, to, ⟨B, bs.length, cc⟩, bs⟩ : LOp).op) w) := by
  obtain ⟨i0, hi, hz0, hz1, hz2⟩ := info_parts info51
  have M0 := Lib.hid hm
  have P0 := Lib.hid hp
  have HO := Lib.hid ho
  have HR := Lib.hid hr
  have HCn := Lib.hid hn
  have HOk := Lib.hid hok
  have HNm : Hid (okS nm) := names_ok _ ho.nm
  have HTo : Hid (okS to) := names_ok _ ho.to
  have hbl : bs.length ≤ 5 := ho.len
  clear hm hp ho hr hn hok
  have hf0 : 0 ≤ r.f := by rw [P0.out.f]; exact P0.out.ok.f0
  have hf1 : r.f ≤ 9223372036854775807 := by rw [P0.out.f]; exact P0.out.ok.f1
  obtain ⟨FA, FC, fs, OA, OC, os, dn, f⟩ := r
  simp only at hf0 hf1 hlo
  have HD : Hid (s.dn = dn) := P0.out.dn.symm
  have HF : Hid (s.f = f) := P0.out.f.symm
  obtain ⟨I0, J0, Z0, B0, s0⟩ := threeO_is w (RS.cells ⟨FA, FC, fs, OA, OC, os, dn, f⟩) #[.int .i64 3, .string nm, .string to, .slice B bs.length cc]
  have HI0 := Lib.hid I0
  have HJ0 := Lib.hid J0
  have HZ0 := Lib.hid Z0
  have HB0 := Lib.hid B0
  have M1 : Hid (RM (threeO w (RS.cells ⟨FA, FC, fs, OA, OC, os, dn, f⟩) #[.int .i64 3, .string nm, .string to, .slice B bs.length cc]) ⟨FA, FC, fs, OA, OC, os, dn, f⟩) := M0.out.on B0
  clear I0 J0 Z0 B0 s0
  have HS : Hid (∀ E, E ≠ 0 → gate s n (⟨3, nm, to, ⟨B, bs.length, cc⟩, bs⟩ : LOp).op = E → reqE s n (⟨3, nm, to, ⟨B, bs.length, cc⟩, bs⟩ : LOp).op = E ∧ reqS s n (⟨3, nm, to, ⟨B, bs.length, cc⟩, bs⟩ : LOp).op = s) := fun E hE h => by
    rw [reqE, reqS, h, if_neg hE, if_neg hE]
    exact ⟨rfl, rfl⟩
  cases dn
  case true =>
    have HG : Hid (gate s n (⟨3, nm, to, ⟨B, bs.length, cc⟩, bs⟩ : LOp).op = 303) := by simp [Hid, gate, LOp.op, HD.out]
    go_enter Try.func45, Try.ntmps45
    go_wp2_with fail
    refine bodyPost_ret (v := .tuple #[.agg (RS.cells ⟨FA, FC, fs, OA, OC, os, true, f⟩), .int .i64 303]) ?_ rfl ⟨⟨FA, FC, fs, OA, OC, os, true, f⟩, by rw [(HS.out 303 (by decide) HG.out).1], M0.out.on (((bel1 _ _).alloc (by simp) _).alloc (by simp; omega) _), by rw [(HS.out 303 (by decide) HG.out).2]; exact P0.out, NewR.mk_ (NewF.refl _ _) (fun _ h => h), ((bel1 _ _).alloc (by simp) _).alloc (by simp; omega) _⟩
    simp [results, Try.results45, go_sem]
  case false =>
    go_enter Try.func45, Try.ntmps45
    go_wp2_with fail
    refine (rName_any nm _ HNm.out).mono ?_
    rintro e w1 ⟨rfl, rfl⟩
    cases hnb : nameB nm
    case false =>
      have HG : Hid (gate s n (⟨3, nm, to, ⟨B, bs.length, cc⟩, bs⟩ : LOp).op = 300) := by simp [Hid, gate, LOp.op, HD.out, hnb]
      clear hnb
      go_wp2_with fail
      refine bodyPost_ret (v := .tuple #[.agg (RS.cells ⟨FA, FC, fs, OA, OC, os, false, f⟩), .int .i64 300]) ?_ rfl ⟨⟨FA, FC, fs, OA, OC, os, false, f⟩, by rw [(HS.out 300 (by decide) HG.out).1], M0.out.on (((bel1 _ _).alloc (by simp) _).alloc (by simp; omega) _), by rw [(HS.out 300 (by decide) HG.out).2]; exact P0.out, NewR.mk_ (NewF.refl _ _) (fun _ h => h), ((bel1 _ _).alloc (by simp) _).alloc (by simp; omega) _⟩
      simp [results, Try.results45, go_sem]
    case true =>
      have HNb := Lib.hid hnb
      clear hnb
      go_wp2_with fail
      refine (rName_any to _ HTo.out).mono ?_
      rintro e w1 ⟨rfl, rfl⟩
      cases htb : nameB to
      case false =>
        have HG : Hid (gate s n (⟨3, nm, to, ⟨B, bs.length, cc⟩, bs⟩ : LOp).op = 300) := by simp [Hid, gate, LOp.op, HD.out, HNb.out, htb]
        clear htb
        go_wp2_with fail
        refine bodyPost_ret (v := .tuple #[.agg (RS.cells ⟨FA, FC, fs, OA, OC, os, false, f⟩), .int .i64 300]) ?_ rfl ⟨⟨FA, FC, fs, OA, OC, os, false, f⟩, by rw [(HS.out 300 (by decide) HG.out).1], M0.out.on (((bel1 _ _).alloc (by simp) _).alloc (by simp; omega) _), by rw [(HS.out 300 (by decide) HG.out).2]; exact P0.out, NewR.mk_ (NewF.refl _ _) (fun _ h => h), ((bel1 _ _).alloc (by simp) _).alloc (by simp; omega) _⟩
        simp [results, Try.results45, go_sem]
      have HTb := Lib.hid htb
      clear htb
      go_wp2_with fail
      refine (Files_any ⟨FA, FC, fs, OA, OC, os, false, f⟩ s _ M1.out P0.out).mono ?_
      rintro e w2 ⟨A, c, fs', rfl, hf, ha, _, hb'⟩
      have hb : Below (threeO w (RS.cells ⟨FA, FC, fs, OA, OC, os, false, f⟩) #[.int .i64 3, .string nm, .string to, .slice B bs.length cc]).heap.size (threeO w (RS.cells ⟨FA, FC, fs, OA, OC, os, false, f⟩) #[.int .i64 3, .string nm, .string to, .slice B bs.length cc]) w2 := hb'
      have F2 := Lib.hid hf
      have HA := Lib.hid ha
      have hl : fs'.length ≤ 256 := (pl_small hf.sort ha P0.out.ok.now).1
      have HLn : Hid (fs'.length = n) := (pl_cnt hf.sort ha).uniq HCn.out
      have HSm := Lib.hid (pl_small hf.sort ha P0.out.ok.now).2
      have I2 : Hid (IsB w2 w.heap.size 68 (RS.cells ⟨FA, FC, fs, OA, OC, os, false, f⟩)) := HI0.out.on hb
      have J2 : Hid (IsB w2 (w.heap.size + 1) 51 #[.int .i64 3, .string nm, .string to, .slice B bs.length cc]) := HJ0.out.on hb
      have Z2 : Hid (IsB w2 (w.heap.size + 1 + 1) 68 vR0) := HZ0.out.on hb
      have B2 : Hid (Below w.heap.size w w2) := HB0.out.trans (hb.mono HB0.out.size)
      have j1 : w2.cell? ⟨w.heap.size + 1, 1, none⟩ = some (.string nm) := J2.out.cell 1
      clear hf ha hb hb' HI0 HJ0 HZ0 HB0
      go_wp2_with fail
      refine (place_any A c fs' nm _ F2.out (by omega)).mono ?_
      rintro e w3 ⟨he, hb⟩
      have F3 : Hid (FL w3 A c fs') := F2.out.on hb
      have I3 : Hid (IsB w3 w.heap.size 68 (RS.cells ⟨FA, FC, fs, OA, OC, os, false, f⟩)) := I2.out.on hb
      have J3 : Hid (IsB w3 (w.heap.size + 1) 51 #[.int .i64 3, .string nm, .string to, .slice B bs.length cc]) := J2.out.on hb
      have Z3 : Hid (IsB w3 (w.heap.size + 1 + 1) 68 vR0) := Z2.out.on hb
      have B3 : Hid (Below w.heap.size w w3) := B2.out.trans (hb.mono B2.out.size)
      have HH : Hid (hasP fs' nm = (s.now nm).isSome) := by rw [Hid, hasP_asc F2.out.sort, HA.out]
      clear hb I2 J2 Z2 B2 j1
      obtain ⟨p, HP⟩ : ∃ p, Hid (posP fs' nm = p) := ⟨_, rfl⟩
      obtain ⟨b, Hb⟩ : ∃ b, Hid (hasP fs' nm = b) := ⟨_, rfl⟩
      rw [HP.out, Hb.out] at he
      subst he
      obtain ⟨⟨a0, a1, a2, a3⟩, b0, b1, b2, b3⟩ := I3.out.res
      obtain ⟨⟨j0, j1, j2, j3⟩, l0, l1, l2, l3⟩ := J3.out.res
      obtain ⟨⟨d0, d1, d2, d3⟩, e0, e1, e2, e3⟩ := Z3.out.res
      cases b
      · have HG : Hid (gate s n (⟨3, nm, to, ⟨B, bs.length, cc⟩, bs⟩ : LOp).op = 301) := by simp [Hid, gate, LOp.op, HD.out, HNb.out, HTb.out, ← HH.out, Hb.out]
        go_wp2_with fail
        have fin := same_fin (r := ⟨FA, FC, fs, OA, OC, os, false, f⟩) 301 M0.out P0.out B3.out (show w.heap.size ≤ w.heap.size + 1 + 1 by omega) Z3.out
        exact ret45 fin.1 rfl rfl rfl (by rw [(HS.out 301 (by decide) HG.out).1, (HS.out 301 (by decide) HG.out).2]; exact fin.2)
      · have HG : Hid (gate s n (⟨3, nm, to, ⟨B, bs.length, cc⟩, bs⟩ : LOp).op = 0) := by simp [Hid, gate, LOp.op, HD.out, HNb.out, HTb.out, ← HH.out, Hb.out]
        have HDo : Hid (Does s.now (⟨3, nm, to, ⟨B, bs.length, cc⟩, bs⟩ : LOp)) := fun _ => by rw [← HH.out, Hb.out]
        go_wp2_with fail
        refine (burnR_any FA fs.length FC OA os.length OC false f _ hf0 hf1).mono ?_
        rintro e w4 ⟨he, hb⟩
        have I4 : Hid (IsB w4 w.heap.size 68 (RS.cells ⟨FA, FC, fs, OA, OC, os, false, f⟩)) := I3.out.on hb
        have J4 : Hid (IsB w4 (w.heap.size + 1) 51 #[.int .i64 3, .string nm, .string to, .slice B bs.length cc]) := J3.out.on hb
        have Z4 : Hid (IsB w4 (w.heap.size + 1 + 1) 68 vR0) := Z3.out.on hb
        have B4 : Hid (Below w.heap.size w w4) := B3.out.trans (hb.mono B3.out.size)
        clear hb a0 a1 a2 a3 b0 b1 b2 b3 j0 j1 j2 j3 l0 l1 l2 l3 d0 d1 d2 d3 e0 e1 e2 e3
        obtain ⟨⟨a0, a1, a2, a3⟩, b0, b1, b2, b3⟩ := I4.out.res
        obtain ⟨⟨d0, d1, d2, d3⟩, e0, e1, e2, e3⟩ := Z4.out.res
        by_cases h1 : f = 1
        · subst h1
          have HE : Hid (reqE s n (⟨3, nm, to, ⟨B, bs.length, cc⟩, bs⟩ : LOp).op = 303) := by simp [Hid, reqE, HG.out, HF.out]
          have HSc : Hid (reqS s n (⟨3, nm, to, ⟨B, bs.length, cc⟩, bs⟩ : LOp).op = s.cut) := by simp [Hid, reqS, HG.out, HF.out]
          simp [burnF] at he
          subst he
          go_wp2_with fail
          have hW := setR_grow w4 w.heap.size (.slice FA fs.length FC) (.slice OA os.length OC) true 0
          have hb2 := bel_grow (bel_grow B4.out hW (Nat.le_refl _) B4.out.size) (setR_grow _ (w.heap.size + 1 + 1) (.slice FA fs.length FC) (.slice OA os.length OC) true 0) (by omega) (Nat.le_trans B4.out.size hW.size)
          exact ret45 (r' := ⟨FA, FC, fs, OA, OC, os, true, 0⟩) (setR_is (Z4.out.grown hW (by simp; omega)) (.slice FA fs.length FC) (.slice OA os.length OC) true 0) rfl rfl rfl ⟨⟨FA, FC, fs, OA, OC, os, true, 0⟩, by rw [HE.out], (M0.out.fields true 0).on hb2, by rw [HSc.out]; exact P0.out.cut, NewR.mk_ (NewF.refl _ _) (fun _ h => h), hb2⟩
        · have HE : Hid (reqE s n (⟨3, nm, to, ⟨B, bs.length, cc⟩, bs⟩ : LOp).op = 0) := by simp [Hid, reqE, HG.out, HF.out, h1]
          have HSd : Hid (reqS s n (⟨3, nm, to, ⟨B, bs.length, cc⟩, bs⟩ : LOp).op = s.did (⟨3, nm, to, ⟨B, bs.length, cc⟩, bs⟩ : LOp).op) := by simp [Hid, reqS, HG.out, HF.out, h1]
          have HOk2 : Hid (Ok (s.did (⟨3, nm, to, ⟨B, bs.length, cc⟩, bs⟩ : LOp).op)) := by have := HOk.out; rw [HSd.out] at this; exact this
          have HF1 : Hid (s.f ≠ 1) := by rw [Hid, HF.out]; exact h1
          simp only [if_neg h1, decide_eq_false h1, Bool.not_false] at he
          obtain ⟨f2, HF2⟩ : ∃ f2, Hid (f2 = burnF s.f) := ⟨_, rfl⟩
          rw [← HF.out, ← HF2.out] at he
          subst he
          clear h1
          go_upto_region 15 with fail
          have hW := setR_grow w4 w.heap.size (.slice FA fs.length FC) (.slice OA os.length OC) false f2
          have IW : Hid (IsB (setR w4 w.heap.size (.slice FA fs.length FC) (.slice OA os.length OC) false f2) w.heap.size 68 (RS.cells ⟨FA, FC, fs, OA, OC, os, false, f2⟩)) := setR_is I4.out _ _ _ _
          have JW : Hid (IsB (setR w4 w.heap.size (.slice FA fs.length FC) (.slice OA os.length OC) false f2) (w.heap.size + 1) 51 #[.int .i64 3, .string nm, .string to, .slice B bs.length cc]) := J4.out.grown hW (by simp)
          have ZW : Hid (IsB (setR w4 w.heap.size (.slice FA fs.length FC) (.slice OA os.length OC) false f2) (w.heap.size + 1 + 1) 68 vR0) := Z4.out.grown hW (by simp; omega)
          have BW : Hid (Below w.heap.size w (setR w4 w.heap.size (.slice FA fs.length FC) (.slice OA os.length OC) false f2)) := bel_grow B4.out hW (Nat.le_refl _) B4.out.size
          clear hW a0 a1 a2 a3 b0 b1 b2 b3 d0 d1 d2 d3 e0 e1 e2 e3
          unfold setR at IW JW ZW BW
          generalize (((w4.setCell ⟨w.heap.size, 0, none⟩ (.slice FA fs.length FC)).setCell ⟨w.heap.size, 1, none⟩ (.slice OA os.length OC)).setCell ⟨w.heap.size, 2, none⟩ (.bool false)).setCell ⟨w.heap.size, 3, none⟩ (.int .i64 f2) = W at *
          obtain ⟨⟨j0, j1, j2, j3⟩, l0, l1, l2, l3⟩ := JW.out.res
          have RW : Hid (RB W ⟨B, bs.length, cc⟩ bs) := HR.out.on BW.out
          go_wp2_with (at_builtin; refine halt_ ?_)
          refine wpList_append_bytes rfl _ _ rfl ⟨none, 0, 0⟩ [] rfl (RB.zero _) B cc bs rfl RW.out.src (by simp; omega) ?_
          rintro ⟨dA, dl, dc⟩ w5 hdl5 ha5
          clear hdl5
          obtain ⟨r5, n5, b5⟩ := AppB.new (w0 := W) ha5 (by simp [blk]) (Below.refl _ _)
          have r5' : RB w5 ⟨dA, dl, dc⟩ bs := r5
          obtain rfl : bs.length = dl := r5'.1
          have R5 := Lib.hid r5'
          have N5 : Hid (∀ g, blk ⟨dA, bs.length, dc⟩ = some g → w.heap.size ≤ g) := fun g hg => by have := n5 g hg; have := BW.out.size; omega
          have I5 : Hid (IsB w5 w.heap.size 68 (RS.cells ⟨FA, FC, fs, OA, OC, os, false, f2⟩)) := IW.out.on b5
          have J5 : Hid (IsB w5 (w.heap.size + 1) 51 #[.int .i64 3, .string nm, .string to, .slice B bs.length cc]) := JW.out.on b5
          have Z5 : Hid (IsB w5 (w.heap.size + 1 + 1) 68 vR0) := ZW.out.on b5
          have B5 : Hid (Below w.heap.size w w5) := BW.out.trans (b5.mono BW.out.size)
          clear r5 r5' n5 b5 ha5 j0 j1 j2 j3 l0 l1 l2 l3
          obtain ⟨⟨j0, j1, j2, j3⟩, l0, l1, l2, l3⟩ := J5.out.res
          unfold vB
          go_upto_region 18 with fail
          have hW2 : w5.grownBy (w5.setCell ⟨w.heap.size + 1, 3, none⟩ (.slice dA bs.length dc)) (some (w.heap.size + 1)) := g_set (p := ⟨w.heap.size + 1, 3, none⟩) (g_refl _ _) (.inl rfl) _
          have IW2 : Hid (IsB (w5.setCell ⟨w.heap.size + 1, 3, none⟩ (.slice dA bs.length dc)) w.heap.size 68 (RS.cells ⟨FA, FC, fs, OA, OC, os, false, f2⟩)) := I5.out.grown hW2 (by simp)
          have JW2 : Hid (IsB (w5.setCell ⟨w.heap.size + 1, 3, none⟩ (.slice dA bs.length dc)) (w.heap.size + 1) 51 #[.int .i64 3, .string nm, .string to, .slice dA bs.length dc]) := J5.out.set_ 3 _
          have ZW2 : Hid (IsB (w5.setCell ⟨w.heap.size + 1, 3, none⟩ (.slice dA bs.length dc)) (w.heap.size + 1 + 1) 68 vR0) := Z5.out.grown hW2 (by simp)
          have BW2 : Hid (Below w.heap.size w (w5.setCell ⟨w.heap.size + 1, 3, none⟩ (.slice dA bs.length dc))) := bel_grow B5.out hW2 (by omega) B5.out.size
          have RW2 : Hid (RB (w5.setCell ⟨w.heap.size + 1, 3, none⟩ (.slice dA bs.length dc)) ⟨dA, bs.length, dc⟩ bs) := R5.out.grown hW2 (RB.ne_cell J5.out (by decide) R5.out)
          clear hW2 j0 j1 j2 j3 l0 l1 l2 l3
          generalize w5.setCell ⟨w.heap.size + 1, 3, none⟩ (.slice dA bs.length dc) = W2 at *
          have hlt0 := IW2.out.lt
          have hlt1 := JW2.out.lt
          obtain ⟨⟨a0, a1, a2, a3⟩, b0, b1, b2, b3⟩ := IW2.out.res
          obtain ⟨⟨j0, j1, j2, j3⟩, l0, l1, l2, l3⟩ := JW2.out.res
          have HSrc : Hid (∀ w', Below W2.heap.size W2 w' → ∀ ad, OA = some ad → ∀ j u, (os.flatMap encL)[j]? = some u → w'.cell? (ad.add j) = some u) := fun w' hb => src_ops (own_on (own_on M0.out.row BW2.out) hb)
          have HNil : Hid (OA = none → os.length = 0) := fun e => nil_ops M0.out.row e
          have HTl : Hid ((os.flatMap encL).length = os.length * 4) := flat_len encL_len _
          clear B4 B5 I4 J4 Z4 I5 J5 Z5 R5 RW BW JW IW ZW
          go_region_law (first
            | (refine step_append_own_ (by rfl) (.const (.slice none 0 0)) (.tmp 91) 66 (by rfl) W2.heap.size 51 i0 _ 4 64 Try.underlying66 hi hz0 hz1 hz2 rfl (by omega) (.slice none 0 0) 0 [] (by rfl) (World.ownsRow_nil _ _ _ _) OA os.length OC (os.flatMap encL) (by rfl) HTl.out HNil.out (HSrc.out _ (bel_drew (Below.refl _ _))) (encL_one _) (by unfold maxLen; omega) (by omega) (by simp) ?_; intro v6 w6 ho6 hg6; have HO6 := Lib.hid ho6; have HBn : Hid (Below W2.heap.size W2 w6) := of_drew ((Below.refl _ _).grown hg6 (by simp) (fun q hq => by simp [Value.ownBlock] at hq)); have HB6 := Lib.hid HBn.out; have x1 : w6.cell? ⟨w.heap.size, 1, none⟩ = some (.slice OA os.length OC) := (HBn.out.cell (p := ⟨w.heap.size, 1, none⟩) hlt0).trans ((IW2.out.cell 1).trans rfl); have x2 : w6.frozen? ⟨w.heap.size, 1, none⟩ = false := (IW2.out.on HBn.out).frozen 1; have y0 : w6.cell? ⟨w.heap.size + 1, 0, none⟩ = some (.int .i64 3) := (HBn.out.cell (p := ⟨w.heap.size + 1, 0, none⟩) hlt1).trans ((JW2.out.cell 0).trans rfl); have y1 : w6.cell? ⟨w.heap.size + 1, 1, none⟩ = some (.string nm) := (HBn.out.cell (p := ⟨w.heap.size + 1, 1, none⟩) hlt1).trans ((JW2.out.cell 1).trans rfl); have y2 : w6.cell? ⟨w.heap.size + 1, 2, none⟩ = some (.string to) := (HBn.out.cell (p := ⟨w.heap.size + 1, 2, none⟩) hlt1).trans ((JW2.out.cell 2).trans rfl); have y3 : w6.cell? ⟨w.heap.size + 1, 3, none⟩ = some (.slice dA bs.length dc) := (HBn.out.cell (p := ⟨w.heap.size + 1, 3, none⟩) hlt1).trans ((JW2.out.cell 3).trans rfl); have hs6 := HBn.out.size; clear ho6 hg6 HBn)
            | (refine step_append_own_ (by rfl) (.const (.slice none 0 0)) (.tmp 91) 66 (by rfl) W2.heap.size 51 i0 _ 4 64 Try.underlying66 hi hz0 hz1 hz2 rfl (by omega) (.slice none 0 0) 0 [] (by rfl) (World.ownsRow_nil _ _ _ _) OA os.length OC (os.flatMap encL) (by rfl) HTl.out HNil.out (HSrc.out _ (bel_drew (bel1 _ _))) (encL_one _) (by unfold maxLen; omega) (by omega) (by simp) ?_; intro v6 w6 ho6 hg6; have HO6 := Lib.hid ho6; have HBn : Hid (Below W2.heap.size W2 w6) := (bel_drew (bel1 W2 _)).grown hg6 (by simp) (fun q hq => by simp [Value.ownBlock] at hq); have HB6 := Lib.hid HBn.out; have IS6 : Hid (IsB w6 W2.heap.size 51 #[.int .i64 3, .string nm, .string to, .slice dA bs.length dc]) := ((IsB.new W2 51 #[.int .i64 3, .string nm, .string to, .slice dA bs.length dc]).on_drew).grown hg6 (by simp [Value.ownBlock]); have x1 : w6.cell? ⟨w.heap.size, 1, none⟩ = some (.slice OA os.length OC) := (HBn.out.cell (p := ⟨w.heap.size, 1, none⟩) hlt0).trans ((IW2.out.cell 1).trans rfl); have x2 : w6.frozen? ⟨w.heap.size, 1, none⟩ = false := (IW2.out.on HBn.out).frozen 1; have y0 : w6.cell? ⟨w.heap.size + 1, 0, none⟩ = some (.int .i64 3) := (HBn.out.cell (p := ⟨w.heap.size + 1, 0, none⟩) hlt1).trans ((JW2.out.cell 0).trans rfl); have y1 : w6.cell? ⟨w.heap.size + 1, 1, none⟩ = some (.string nm) := (HBn.out.cell (p := ⟨w.heap.size + 1, 1, none⟩) hlt1).trans ((JW2.out.cell 1).trans rfl); have y2 : w6.cell? ⟨w.heap.size + 1, 2, none⟩ = some (.string to) := (HBn.out.cell (p := ⟨w.heap.size + 1, 2, none⟩) hlt1).trans ((JW2.out.cell 2).trans rfl); have y3 : w6.cell? ⟨w.heap.size + 1, 3, none⟩ = some (.slice dA bs.length dc) := (HBn.out.cell (p := ⟨w.heap.size + 1, 3, none⟩) hlt1).trans ((JW2.out.cell 3).trans rfl); have hs6 := HBn.out.size; clear ho6 hg6 HBn)
            | (refine step_append_own_ (by rfl) (.tmp 92) (.tmp 94) 66 (by rfl) W2.heap.size 51 i0 _ 4 64 Try.underlying66 hi hz0 hz1 hz2 rfl (by omega) v6 (0 + os.length) ([] ++ os.flatMap encL) (by rfl) (HO6.out.alloc _) (some ⟨w6.heap.size, 0, none⟩) 1 1 (encL (⟨3, nm, to, ⟨dA, bs.length, dc⟩, bs⟩ : LOp)) (by rfl) (by rfl) (by simp) (fun ad e j u hu => by injection e with e; subst e; rw [lit_add, Nat.zero_add, new_cell _ _ _ _ rfl]; simpa [encL] using hu) (encL_one' _) (by unfold maxLen; omega) (by omega) (by first | exact hs6 | (simp; omega)) ?_; intro v7 w7 ho7 hg7; obtain ⟨A7, c7, rfl⟩ := own_slice ho7; have HO7 := Lib.hid ho7; have HBn : Hid (Below W2.heap.size W2 w7) := (HB6.out.alloc hs6 _).grown hg7 (by simp; omega) (fun q hq => (HO6.out.lt q hq).1); have HB7 := Lib.hid HBn.out; have x1 : w7.cell? ⟨w.heap.size, 1, none⟩ = some (.slice OA os.length OC) := (HBn.out.cell (p := ⟨w.heap.size, 1, none⟩) hlt0).trans ((IW2.out.cell 1).trans rfl); have x2 : w7.frozen? ⟨w.heap.size, 1, none⟩ = false := (IW2.out.on HBn.out).frozen 1; have y0 : w7.cell? ⟨w.heap.size + 1, 0, none⟩ = some (.int .i64 3) := (HBn.out.cell (p := ⟨w.heap.size + 1, 0, none⟩) hlt1).trans ((JW2.out.cell 0).trans rfl); have y1 : w7.cell? ⟨w.heap.size + 1, 1, none⟩ = some (.string nm) := (HBn.out.cell (p := ⟨w.heap.size + 1, 1, none⟩) hlt1).trans ((JW2.out.cell 1).trans rfl); have y2 : w7.cell? ⟨w.heap.size + 1, 2, none⟩ = some (.string to) := (HBn.out.cell (p := ⟨w.heap.size + 1, 2, none⟩) hlt1).trans ((JW2.out.cell 2).trans rfl); have y3 : w7.cell? ⟨w.heap.size + 1, 3, none⟩ = some (.slice dA bs.length dc) := (HBn.out.cell (p := ⟨w.heap.size + 1, 3, none⟩) hlt1).trans ((JW2.out.cell 3).trans rfl); clear ho7 hg7 HBn)
            | (refine step_append_own_ (by rfl) (.tmp 92) (.tmp 94) 66 (by rfl) W2.heap.size 51 i0 _ 4 64 Try.underlying66 hi hz0 hz1 hz2 rfl (by omega) v6 (0 + os.length) ([] ++ os.flatMap encL) (by rfl) (HO6.out) (some ⟨W2.heap.size, 0, none⟩) 1 1 (encL (⟨3, nm, to, ⟨dA, bs.length, dc⟩, bs⟩ : LOp)) (by rfl) (by rfl) (by simp) (fun ad e j u hu => by injection e with e; subst e; rw [lit_add, Nat.zero_add, IS6.out.cell]; simpa [encL] using hu) (encL_one' _) (by unfold maxLen; omega) (by omega) (by first | exact hs6 | (simp; omega)) ?_; intro v7 w7 ho7 hg7; obtain ⟨A7, c7, rfl⟩ := own_slice ho7; have HO7 := Lib.hid ho7; have HBn : Hid (Below W2.heap.size W2 w7) := HB6.out.grown hg7 hs6 (fun q hq => (HO6.out.lt q hq).1); have HB7 := Lib.hid HBn.out; have x1 : w7.cell? ⟨w.heap.size, 1, none⟩ = some (.slice OA os.length OC) := (HBn.out.cell (p := ⟨w.heap.size, 1, none⟩) hlt0).trans ((IW2.out.cell 1).trans rfl); have x2 : w7.frozen? ⟨w.heap.size, 1, none⟩ = false := (IW2.out.on HBn.out).frozen 1; have y0 : w7.cell? ⟨w.heap.size + 1, 0, none⟩ = some (.int .i64 3) := (HBn.out.cell (p := ⟨w.heap.size + 1, 0, none⟩) hlt1).trans ((JW2.out.cell 0).trans rfl); have y1 : w7.cell? ⟨w.heap.size + 1, 1, none⟩ = some (.string nm) := (HBn.out.cell (p := ⟨w.heap.size + 1, 1, none⟩) hlt1).trans ((JW2.out.cell 1).trans rfl); have y2 : w7.cell? ⟨w.heap.size + 1, 2, none⟩ = some (.string to) := (HBn.out.cell (p := ⟨w.heap.size + 1, 2, none⟩) hlt1).trans ((JW2.out.cell 2).trans rfl); have y3 : w7.cell? ⟨w.heap.size + 1, 3, none⟩ = some (.slice dA bs.length dc) := (HBn.out.cell (p := ⟨w.heap.size + 1, 3, none⟩) hlt1).trans ((JW2.out.cell 3).trans rfl); clear ho7 hg7 HBn))
          all_goals (
            have hrow : Hid (w7.ownsRow 0 51 4 (.slice A7 (os.length + 1) c7) (os.length + 1) (os.flatMap encL ++ encL (⟨3, nm, to, ⟨dA, bs.length, dc⟩, bs⟩ : LOp))) := by
              have := ownsRow0 HO7.out
              show w7.ownsRow _ _ _ _ _ _
              simpa using this
            have I7 : Hid (IsB w7 w.heap.size 68 (RS.cells ⟨FA, FC, fs, OA, OC, os, false, f2⟩)) := IW2.out.on HB7.out
            have Z7 : Hid (IsB w7 (w.heap.size + 1 + 1) 68 vR0) := ZW2.out.on HB7.out
            have B7 : Hid (Below w.heap.size w w7) := BW2.out.trans (HB7.out.mono BW2.out.size)
            have R7 : Hid (RB w7 ⟨dA, bs.length, dc⟩ bs) := RW2.out.on HB7.out
            have hW3 : w7.grownBy (w7.setCell ⟨w.heap.size, 1, none⟩ (.slice A7 (os.length + 1) c7)) (some w.heap.size) := g_set (p := ⟨w.heap.size, 1, none⟩) (g_refl _ _) (.inl rfl) _
            have I8 : Hid (IsB (w7.setCell ⟨w.heap.size, 1, none⟩ (.slice A7 (os.length + 1) c7)) w.heap.size 68 (vR (.slice FA fs.length FC) (.slice A7 (os.length + 1) c7) false f2)) := I7.out.set_ 1 _
            have Z8 : Hid (IsB (w7.setCell ⟨w.heap.size, 1, none⟩ (.slice A7 (os.length + 1) c7)) (w.heap.size + 1 + 1) 68 vR0) := Z7.out.grown hW3 (by simp; omega)
            have B8 : Hid (Below w.heap.size w (w7.setCell ⟨w.heap.size, 1, none⟩ (.slice A7 (os.length + 1) c7))) := bel_grow B7.out hW3 (Nat.le_refl _) B7.out.size
            have R8 : Hid (RB (w7.setCell ⟨w.heap.size, 1, none⟩ (.slice A7 (os.length + 1) c7)) ⟨dA, bs.length, dc⟩ bs) := R7.out.grown hW3 (RB.ne_cell I7.out (by decide) R7.out)
            have O8 : Hid ((w7.setCell ⟨w.heap.size, 1, none⟩ (.slice A7 (os.length + 1) c7)).ownsRow 0 51 4 (.slice A7 (os.length + 1) c7) (os.length + 1) (os.flatMap encL ++ encL (⟨3, nm, to, ⟨dA, bs.length, dc⟩, bs⟩ : LOp))) := own_grown hrow.out hW3 I7.out (by decide)
            clear hW3 x1 x2 y0 y1 y2 y3 a0 a1 a2 a3 b0 b1 b2 b3 j0 j1 j2 j3 l0 l1 l2 l3
            generalize w7.setCell ⟨w.heap.size, 1, none⟩ (.slice A7 (os.length + 1) c7) = W8 at *
            obtain ⟨⟨a0, a1, a2, a3⟩, b0, b1, b2, b3⟩ := I8.out.res
            obtain ⟨⟨d0, d1, d2, d3⟩, e0, e1, e2, e3⟩ := Z8.out.res
            go_wp2_with fail
            have hg9 := setR_grow W8 (w.heap.size + 1 + 1) (.slice FA fs.length FC) (.slice A7 (os.length + 1) c7) false f2
            have hb9 := bel_grow B8.out hg9 (show w.heap.size ≤ w.heap.size + 1 + 1 by omega) B8.out.size
            have hIs : IsB (setR W8 (w.heap.size + 1 + 1) (.slice FA fs.length FC) (.slice A7 (os.length + 1) c7) false f2) (w.heap.size + 1 + 1) 68 (RS.cells ⟨FA, FC, fs, A7, c7, os ++ [(⟨3, nm, to, ⟨dA, bs.length, dc⟩, bs⟩ : LOp)], false, f2⟩) := by
              show IsB _ _ 68 (vR _ (.slice A7 (os ++ [(⟨3, nm, to, ⟨dA, bs.length, dc⟩, bs⟩ : LOp)]).length c7) _ _)
              rw [List.length_append]
              exact setR_is Z8.out _ _ _ _
            exact ret45 hIs rfl rfl rfl ⟨⟨FA, FC, fs, A7, c7, os ++ [(⟨3, nm, to, ⟨dA, bs.length, dc⟩, bs⟩ : LOp)], false, f2⟩, by rw [HE.out], RM.snoc (r := ⟨FA, FC, fs, OA, OC, os, false, f⟩) M0.out hb9 (own_grown O8.out hg9 Z8.out (by decide)) (R8.out.grown hg9 (RB.ne_cell Z8.out (by decide) R8.out)) ⟨HO.out.k1, HO.out.k4, HO.out.nm, HO.out.to, HO.out.len⟩, by rw [HSd.out, HF2.out]; exact RP.did (o := (⟨3, nm, to, ⟨B, bs.length, cc⟩, bs⟩ : LOp)) P0.out hlo rfl rfl rfl HDo.out HOk2.out HD.out HF1.out, NewR.snoc (r := ⟨FA, FC, fs, OA, OC, os, false, f⟩) N5.out, hb9⟩)
set_option maxRecDepth 100000 in
set_option maxHeartbeats 4000000 in
theorem RDo4_any (r : RS) (s : St) (nm to : ByteArray) (B : Option Addr) (cc : Nat) (bs : List UInt8) (n : Nat) (w : World) (hm : RM w r) (hp : RP r s) (ho : (⟨4, nm, to, ⟨B, bs.length, cc⟩, bs⟩ : LOp).Ok) (hr : RB w ⟨B, bs.length, cc⟩ bs) (hn : Cnt s.now n) (hok : Ok (reqS s n (⟨4, nm, to, ⟨B, bs.length, cc⟩, bs⟩ : LOp).op)) (hlo : r.os.length < 1000) :
    Calls Try.prog 45 #[.agg r.cells, .agg #[.int .i64 4, .string nm, .string to, .slice B bs.length cc]] w (DevE r (reqS s n (⟨4, nm, to, ⟨B, bs.length, cc⟩, bs⟩ : LOp).op) (reqE s n (⟨4, nm, to, ⟨B, bs.length, cc⟩, bs⟩ : LOp).op) w) := by
  obtain ⟨i0, hi, hz0, hz1, hz2⟩ := info_parts info51
  have M0 := Lib.hid hm
  have P0 := Lib.hid hp
  have HO := Lib.hid ho
  have HR := Lib.hid hr
  have HCn := Lib.hid hn
  have HOk := Lib.hid hok
  have HNm : Hid (okS nm) := names_ok _ ho.nm
  have HTo : Hid (okS to) := names_ok _ ho.to
  have hbl : bs.length ≤ 5 := ho.len
  clear hm hp ho hr hn hok
  have hf0 : 0 ≤ r.f := by rw [P0.out.f]; exact P0.out.ok.f0
  have hf1 : r.f ≤ 9223372036854775807 := by rw [P0.out.f]; exact P0.out.ok.f1
  obtain ⟨FA, FC, fs, OA, OC, os, dn, f⟩ := r
  simp only at hf0 hf1 hlo
  have HD : Hid (s.dn = dn) := P0.out.dn.symm
  have HF : Hid (s.f = f) := P0.out.f.symm
  obtain ⟨I0, J0, Z0, B0, s0⟩ := threeO_is w (RS.cells ⟨FA, FC, fs, OA, OC, os, dn, f⟩) #[.int .i64 4, .string nm, .string to, .slice B bs.length cc]
  have HI0 := Lib.hid I0
  have HJ0 := Lib.hid J0
  have HZ0 := Lib.hid Z0
  have HB0 := Lib.hid B0
  have M1 : Hid (RM (threeO w (RS.cells ⟨FA, FC, fs, OA, OC, os, dn, f⟩) #[.int .i64 4, .string nm, .string to, .slice B bs.length cc]) ⟨FA, FC, fs, OA, OC, os, dn, f⟩) := M0.out.on B0
  clear I0 J0 Z0 B0 s0
  have HS : Hid (∀ E, E ≠ 0 → gate s n (⟨4, nm, to, ⟨B, bs.length, cc⟩, bs⟩ : LOp).op = E → reqE s n (⟨4, nm, to, ⟨B, bs.length, cc⟩, bs⟩ : LOp).op = E ∧ reqS s n (⟨4, nm, to, ⟨B, bs.length, cc⟩, bs⟩ : LOp).op = s) := fun E hE h => by
    rw [reqE, reqS, h, if_neg hE, if_neg hE]
    exact ⟨rfl, rfl⟩
  cases dn
  case true =>
    have HG : Hid (gate s n (⟨4, nm, to, ⟨B, bs.length, cc⟩, bs⟩ : LOp).op = 303) := by simp [Hid, gate, LOp.op, HD.out]
    go_enter Try.func45, Try.ntmps45
    go_wp2_with fail
    refine bodyPost_ret (v := .tuple #[.agg (RS.cells ⟨FA, FC, fs, OA, OC, os, true, f⟩), .int .i64 303]) ?_ rfl ⟨⟨FA, FC, fs, OA, OC, os, true, f⟩, by rw [(HS.out 303 (by decide) HG.out).1], M0.out.on (((bel1 _ _).alloc (by simp) _).alloc (by simp; omega) _), by rw [(HS.out 303 (by decide) HG.out).2]; exact P0.out, NewR.mk_ (NewF.refl _ _) (fun _ h => h), ((bel1 _ _).alloc (by simp) _).alloc (by simp; omega) _⟩
    simp [results, Try.results45, go_sem]
  case false =>
    go_enter Try.func45, Try.ntmps45
    go_wp2_with fail
    refine (rName_any nm _ HNm.out).mono ?_
    rintro e w1 ⟨rfl, rfl⟩
    cases hnb : nameB nm
    case false =>
      have HG : Hid (gate s n (⟨4, nm, to, ⟨B, bs.length, cc⟩, bs⟩ : LOp).op = 300) := by simp [Hid, gate, LOp.op, HD.out, hnb]
      clear hnb
      go_wp2_with fail
      refine bodyPost_ret (v := .tuple #[.agg (RS.cells ⟨FA, FC, fs, OA, OC, os, false, f⟩), .int .i64 300]) ?_ rfl ⟨⟨FA, FC, fs, OA, OC, os, false, f⟩, by rw [(HS.out 300 (by decide) HG.out).1], M0.out.on (((bel1 _ _).alloc (by simp) _).alloc (by simp; omega) _), by rw [(HS.out 300 (by decide) HG.out).2]; exact P0.out, NewR.mk_ (NewF.refl _ _) (fun _ h => h), ((bel1 _ _).alloc (by simp) _).alloc (by simp; omega) _⟩
      simp [results, Try.results45, go_sem]
    case true =>
      have HNb := Lib.hid hnb
      clear hnb
      go_wp2_with fail
      refine (Files_any ⟨FA, FC, fs, OA, OC, os, false, f⟩ s _ M1.out P0.out).mono ?_
      rintro e w2 ⟨A, c, fs', rfl, hf, ha, _, hb'⟩
      have hb : Below (threeO w (RS.cells ⟨FA, FC, fs, OA, OC, os, false, f⟩) #[.int .i64 4, .string nm, .string to, .slice B bs.length cc]).heap.size (threeO w (RS.cells ⟨FA, FC, fs, OA, OC, os, false, f⟩) #[.int .i64 4, .string nm, .string to, .slice B bs.length cc]) w2 := hb'
      have F2 := Lib.hid hf
      have HA := Lib.hid ha
      have hl : fs'.length ≤ 256 := (pl_small hf.sort ha P0.out.ok.now).1
      have HLn : Hid (fs'.length = n) := (pl_cnt hf.sort ha).uniq HCn.out
      have HSm := Lib.hid (pl_small hf.sort ha P0.out.ok.now).2
      have I2 : Hid (IsB w2 w.heap.size 68 (RS.cells ⟨FA, FC, fs, OA, OC, os, false, f⟩)) := HI0.out.on hb
      have J2 : Hid (IsB w2 (w.heap.size + 1) 51 #[.int .i64 4, .string nm, .string to, .slice B bs.length cc]) := HJ0.out.on hb
      have Z2 : Hid (IsB w2 (w.heap.size + 1 + 1) 68 vR0) := HZ0.out.on hb
      have B2 : Hid (Below w.heap.size w w2) := HB0.out.trans (hb.mono HB0.out.size)
      have j1 : w2.cell? ⟨w.heap.size + 1, 1, none⟩ = some (.string nm) := J2.out.cell 1
      clear hf ha hb hb' HI0 HJ0 HZ0 HB0
      go_wp2_with fail
      refine (place_any A c fs' nm _ F2.out (by omega)).mono ?_
      rintro e w3 ⟨he, hb⟩
      have F3 : Hid (FL w3 A c fs') := F2.out.on hb
      have I3 : Hid (IsB w3 w.heap.size 68 (RS.cells ⟨FA, FC, fs, OA, OC, os, false, f⟩)) := I2.out.on hb
      have J3 : Hid (IsB w3 (w.heap.size + 1) 51 #[.int .i64 4, .string nm, .string to, .slice B bs.length cc]) := J2.out.on hb
      have Z3 : Hid (IsB w3 (w.heap.size + 1 + 1) 68 vR0) := Z2.out.on hb
      have B3 : Hid (Below w.heap.size w w3) := B2.out.trans (hb.mono B2.out.size)
      have HH : Hid (hasP fs' nm = (s.now nm).isSome) := by rw [Hid, hasP_asc F2.out.sort, HA.out]
      clear hb I2 J2 Z2 B2 j1
      obtain ⟨p, HP⟩ : ∃ p, Hid (posP fs' nm = p) := ⟨_, rfl⟩
      obtain ⟨b, Hb⟩ : ∃ b, Hid (hasP fs' nm = b) := ⟨_, rfl⟩
      rw [HP.out, Hb.out] at he
      subst he
      obtain ⟨⟨a0, a1, a2, a3⟩, b0, b1, b2, b3⟩ := I3.out.res
      obtain ⟨⟨j0, j1, j2, j3⟩, l0, l1, l2, l3⟩ := J3.out.res
      obtain ⟨⟨d0, d1, d2, d3⟩, e0, e1, e2, e3⟩ := Z3.out.res
      cases b
      · have HG : Hid (gate s n (⟨4, nm, to, ⟨B, bs.length, cc⟩, bs⟩ : LOp).op = 301) := by simp [Hid, gate, LOp.op, HD.out, HNb.out, ← HH.out, Hb.out]
        go_wp2_with fail
        have fin := same_fin (r := ⟨FA, FC, fs, OA, OC, os, false, f⟩) 301 M0.out P0.out B3.out (show w.heap.size ≤ w.heap.size + 1 + 1 by omega) Z3.out
        exact ret45 fin.1 rfl rfl rfl (by rw [(HS.out 301 (by decide) HG.out).1, (HS.out 301 (by decide) HG.out).2]; exact fin.2)
      · have HG : Hid (gate s n (⟨4, nm, to, ⟨B, bs.length, cc⟩, bs⟩ : LOp).op = 0) := by simp [Hid, gate, LOp.op, HD.out, HNb.out, ← HH.out, Hb.out]
        have HDo : Hid (Does s.now (⟨4, nm, to, ⟨B, bs.length, cc⟩, bs⟩ : LOp)) := fun _ => by rw [← HH.out, Hb.out]
        go_wp2_with fail
        refine (burnR_any FA fs.length FC OA os.length OC false f _ hf0 hf1).mono ?_
        rintro e w4 ⟨he, hb⟩
        have I4 : Hid (IsB w4 w.heap.size 68 (RS.cells ⟨FA, FC, fs, OA, OC, os, false, f⟩)) := I3.out.on hb
        have J4 : Hid (IsB w4 (w.heap.size + 1) 51 #[.int .i64 4, .string nm, .string to, .slice B bs.length cc]) := J3.out.on hb
        have Z4 : Hid (IsB w4 (w.heap.size + 1 + 1) 68 vR0) := Z3.out.on hb
        have B4 : Hid (Below w.heap.size w w4) := B3.out.trans (hb.mono B3.out.size)
        clear hb a0 a1 a2 a3 b0 b1 b2 b3 j0 j1 j2 j3 l0 l1 l2 l3 d0 d1 d2 d3 e0 e1 e2 e3
        obtain ⟨⟨a0, a1, a2, a3⟩, b0, b1, b2, b3⟩ := I4.out.res
        obtain ⟨⟨d0, d1, d2, d3⟩, e0, e1, e2, e3⟩ := Z4.out.res
        by_cases h1 : f = 1
        · subst h1
          have HE : Hid (reqE s n (⟨4, nm, to, ⟨B, bs.length, cc⟩, bs⟩ : LOp).op = 303) := by simp [Hid, reqE, HG.out, HF.out]
          have HSc : Hid (reqS s n (⟨4, nm, to, ⟨B, bs.length, cc⟩, bs⟩ : LOp).op = s.cut) := by simp [Hid, reqS, HG.out, HF.out]
          simp [burnF] at he
          subst he
          go_wp2_with fail
          have hW := setR_grow w4 w.heap.size (.slice FA fs.length FC) (.slice OA os.length OC) true 0
          have hb2 := bel_grow (bel_grow B4.out hW (Nat.le_refl _) B4.out.size) (setR_grow _ (w.heap.size + 1 + 1) (.slice FA fs.length FC) (.slice OA os.length OC) true 0) (by omega) (Nat.le_trans B4.out.size hW.size)
          exact ret45 (r' := ⟨FA, FC, fs, OA, OC, os, true, 0⟩) (setR_is (Z4.out.grown hW (by simp; omega)) (.slice FA fs.length FC) (.slice OA os.length OC) true 0) rfl rfl rfl ⟨⟨FA, FC, fs, OA, OC, os, true, 0⟩, by rw [HE.out], (M0.out.fields true 0).on hb2, by rw [HSc.out]; exact P0.out.cut, NewR.mk_ (NewF.refl _ _) (fun _ h => h), hb2⟩
        · have HE : Hid (reqE s n (⟨4, nm, to, ⟨B, bs.length, cc⟩, bs⟩ : LOp).op = 0) := by simp [Hid, reqE, HG.out, HF.out, h1]
          have HSd : Hid (reqS s n (⟨4, nm, to, ⟨B, bs.length, cc⟩, bs⟩ : LOp).op = s.did (⟨4, nm, to, ⟨B, bs.length, cc⟩, bs⟩ : LOp).op) := by simp [Hid, reqS, HG.out, HF.out, h1]
          have HOk2 : Hid (Ok (s.did (⟨4, nm, to, ⟨B, bs.length, cc⟩, bs⟩ : LOp).op)) := by have := HOk.out; rw [HSd.out] at this; exact this
          have HF1 : Hid (s.f ≠ 1) := by rw [Hid, HF.out]; exact h1
          simp only [if_neg h1, decide_eq_false h1, Bool.not_false] at he
          obtain ⟨f2, HF2⟩ : ∃ f2, Hid (f2 = burnF s.f) := ⟨_, rfl⟩
          rw [← HF.out, ← HF2.out] at he
          subst he
          clear h1
          go_upto_region 15 with fail
          have hW := setR_grow w4 w.heap.size (.slice FA fs.length FC) (.slice OA os.length OC) false f2
          have IW : Hid (IsB (setR w4 w.heap.size (.slice FA fs.length FC) (.slice OA os.length OC) false f2) w.heap.size 68 (RS.cells ⟨FA, FC, fs, OA, OC, os, false, f2⟩)) := setR_is I4.out _ _ _ _
          have JW : Hid (IsB (setR w4 w.heap.size (.slice FA fs.length FC) (.slice OA os.length OC) false f2) (w.heap.size + 1) 51 #[.int .i64 4, .string nm, .string to, .slice B bs.length cc]) := J4.out.grown hW (by simp)
          have ZW : Hid (IsB (setR w4 w.heap.size (.slice FA fs.length FC) (.slice OA os.length OC) false f2) (w.heap.size + 1 + 1) 68 vR0) := Z4.out.grown hW (by simp; omega)
          have BW : Hid (Below w.heap.size w (setR w4 w.heap.size (.slice FA fs.length FC) (.slice OA os.length OC) false f2)) := bel_grow B4.out hW (Nat.le_refl _) B4.out.size
          clear hW a0 a1 a2 a3 b0 b1 b2 b3 d0 d1 d2 d3 e0 e1 e2 e3
          unfold setR at IW JW ZW BW
          generalize (((w4.setCell ⟨w.heap.size, 0, none⟩ (.slice FA fs.length FC)).setCell ⟨w.heap.size, 1, none⟩ (.slice OA os.length OC)).setCell ⟨w.heap.size, 2, none⟩ (.bool false)).setCell ⟨w.heap.size, 3, none⟩ (.int .i64 f2) = W at *
          obtain ⟨⟨j0, j1, j2, j3⟩, l0, l1, l2, l3⟩ := JW.out.res
          have RW : Hid (RB W ⟨B, bs.length, cc⟩ bs) := HR.out.on BW.out
          go_wp2_with (at_builtin; refine halt_ ?_)
          refine wpList_append_bytes rfl _ _ rfl ⟨none, 0, 0⟩ [] rfl (RB.zero _) B cc bs rfl RW.out.src (by simp; omega) ?_
          rintro ⟨dA, dl, dc⟩ w5 hdl5 ha5
          clear hdl5
          obtain ⟨r5, n5, b5⟩ := AppB.new (w0 := W) ha5 (by simp [blk]) (Below.refl _ _)
          have r5' : RB w5 ⟨dA, dl, dc⟩ bs := r5
          obtain rfl : bs.length = dl := r5'.1
          have R5 := Lib.hid r5'
          have N5 : Hid (∀ g, blk ⟨dA, bs.length, dc⟩ = some g → w.heap.size ≤ g) := fun g hg => by have := n5 g hg; have := BW.out.size; omega
          have I5 : Hid (IsB w5 w.heap.size 68 (RS.cells ⟨FA, FC, fs, OA, OC, os, false, f2⟩)) := IW.out.on b5
          have J5 : Hid (IsB w5 (w.heap.size + 1) 51 #[.int .i64 4, .string nm, .string to, .slice B bs.length cc]) := JW.out.on b5
          have Z5 : Hid (IsB w5 (w.heap.size + 1 + 1) 68 vR0) := ZW.out.on b5
          have B5 : Hid (Below w.heap.size w w5) := BW.out.trans (b5.mono BW.out.size)
          clear r5 r5' n5 b5 ha5 j0 j1 j2 j3 l0 l1 l2 l3
          obtain ⟨⟨j0, j1, j2, j3⟩, l0, l1, l2, l3⟩ := J5.out.res
          unfold vB
          go_upto_region 18 with fail
          have hW2 : w5.grownBy (w5.setCell ⟨w.heap.size + 1, 3, none⟩ (.slice dA bs.length dc)) (some (w.heap.size + 1)) := g_set (p := ⟨w.heap.size + 1, 3, none⟩) (g_refl _ _) (.inl rfl) _
          have IW2 : Hid (IsB (w5.setCell ⟨w.heap.size + 1, 3, none⟩ (.slice dA bs.length dc)) w.heap.size 68 (RS.cells ⟨FA, FC, fs, OA, OC, os, false, f2⟩)) := I5.out.grown hW2 (by simp)
          have JW2 : Hid (IsB (w5.setCell ⟨w.heap.size + 1, 3, none⟩ (.slice dA bs.length dc)) (w.heap.size + 1) 51 #[.int .i64 4, .string nm, .string to, .slice dA bs.length dc]) := J5.out.set_ 3 _
          have ZW2 : Hid (IsB (w5.setCell ⟨w.heap.size + 1, 3, none⟩ (.slice dA bs.length dc)) (w.heap.size + 1 + 1) 68 vR0) := Z5.out.grown hW2 (by simp)
          have BW2 : Hid (Below w.heap.size w (w5.setCell ⟨w.heap.size + 1, 3, none⟩ (.slice dA bs.length dc))) := bel_grow B5.out hW2 (by omega) B5.out.size
          have RW2 : Hid (RB (w5.setCell ⟨w.heap.size + 1, 3, none⟩ (.slice dA bs.length dc)) ⟨dA, bs.length, dc⟩ bs) := R5.out.grown hW2 (RB.ne_cell J5.out (by decide) R5.out)
          clear hW2 j0 j1 j2 j3 l0 l1 l2 l3
          generalize w5.setCell ⟨w.heap.size + 1, 3, none⟩ (.slice dA bs.length dc) = W2 at *
          have hlt0 := IW2.out.lt
          have hlt1 := JW2.out.lt
          obtain ⟨⟨a0, a1, a2, a3⟩, b0, b1, b2, b3⟩ := IW2.out.res
          obtain ⟨⟨j0, j1, j2, j3⟩, l0, l1, l2, l3⟩ := JW2.out.res
          have HSrc : Hid (∀ w', Below W2.heap.size W2 w' → ∀ ad, OA = some ad → ∀ j u, (os.flatMap encL)[j]? = some u → w'.cell? (ad.add j) = some u) := fun w' hb => src_ops (own_on (own_on M0.out.row BW2.out) hb)
          have HNil : Hid (OA = none → os.length = 0) := fun e => nil_ops M0.out.row e
          have HTl : Hid ((os.flatMap encL).length = os.length * 4) := flat_len encL_len _
          clear B4 B5 I4 J4 Z4 I5 J5 Z5 R5 RW BW JW IW ZW
          go_region_law (first
            | (refine step_append_own_ (by rfl) (.const (.slice none 0 0)) (.tmp 91) 66 (by rfl) W2.heap.size 51 i0 _ 4 64 Try.underlying66 hi hz0 hz1 hz2 rfl (by omega) (.slice none 0 0) 0 [] (by rfl) (World.ownsRow_nil _ _ _ _) OA os.length OC (os.flatMap encL) (by rfl) HTl.out HNil.out (HSrc.out _ (bel_drew (Below.refl _ _))) (encL_one _) (by unfold maxLen; omega) (by omega) (by simp) ?_; intro v6 w6 ho6 hg6; have HO6 := Lib.hid ho6; have HBn : Hid (Below W2.heap.size W2 w6) := of_drew ((Below.refl _ _).grown hg6 (by simp) (fun q hq => by simp [Value.ownBlock] at hq)); have HB6 := Lib.hid HBn.out; have x1 : w6.cell? ⟨w.heap.size, 1, none⟩ = some (.slice OA os.length OC) := (HBn.out.cell (p := ⟨w.heap.size, 1, none⟩) hlt0).trans ((IW2.out.cell 1).trans rfl); have x2 : w6.frozen? ⟨w.heap.size, 1, none⟩ = false := (IW2.out.on HBn.out).frozen 1; have y0 : w6.cell? ⟨w.heap.size + 1, 0, none⟩ = some (.int .i64 4) := (HBn.out.cell (p := ⟨w.heap.size + 1, 0, none⟩) hlt1).trans ((JW2.out.cell 0).trans rfl); have y1 : w6.cell? ⟨w.heap.size + 1, 1, none⟩ = some (.string nm) := (HBn.out.cell (p := ⟨w.heap.size + 1, 1, none⟩) hlt1).trans ((JW2.out.cell 1).trans rfl); have y2 : w6.cell? ⟨w.heap.size + 1, 2, none⟩ = some (.string to) := (HBn.out.cell (p := ⟨w.heap.size + 1, 2, none⟩) hlt1).trans ((JW2.out.cell 2).trans rfl); have y3 : w6.cell? ⟨w.heap.size + 1, 3, none⟩ = some (.slice dA bs.length dc) := (HBn.out.cell (p := ⟨w.heap.size + 1, 3, none⟩) hlt1).trans ((JW2.out.cell 3).trans rfl); have hs6 := HBn.out.size; clear ho6 hg6 HBn)
            | (refine step_append_own_ (by rfl) (.const (.slice none 0 0)) (.tmp 91) 66 (by rfl) W2.heap.size 51 i0 _ 4 64 Try.underlying66 hi hz0 hz1 hz2 rfl (by omega) (.slice none 0 0) 0 [] (by rfl) (World.ownsRow_nil _ _ _ _) OA os.length OC (os.flatMap encL) (by rfl) HTl.out HNil.out (HSrc.out _ (bel_drew (bel1 _ _))) (encL_one _) (by unfold maxLen; omega) (by omega) (by simp) ?_; intro v6 w6 ho6 hg6; have HO6 := Lib.hid ho6; have HBn : Hid (Below W2.heap.size W2 w6) := (bel_drew (bel1 W2 _)).grown hg6 (by simp) (fun q hq => by simp [Value.ownBlock] at hq); have HB6 := Lib.hid HBn.out; have IS6 : Hid (IsB w6 W2.heap.size 51 #[.int .i64 4, .string nm, .string to, .slice dA bs.length dc]) := ((IsB.new W2 51 #[.int .i64 4, .string nm, .string to, .slice dA bs.length dc]).on_drew).grown hg6 (by simp [Value.ownBlock]); have x1 : w6.cell? ⟨w.heap.size, 1, none⟩ = some (.slice OA os.length OC) := (HBn.out.cell (p := ⟨w.heap.size, 1, none⟩) hlt0).trans ((IW2.out.cell 1).trans rfl); have x2 : w6.frozen? ⟨w.heap.size, 1, none⟩ = false := (IW2.out.on HBn.out).frozen 1; have y0 : w6.cell? ⟨w.heap.size + 1, 0, none⟩ = some (.int .i64 4) := (HBn.out.cell (p := ⟨w.heap.size + 1, 0, none⟩) hlt1).trans ((JW2.out.cell 0).trans rfl); have y1 : w6.cell? ⟨w.heap.size + 1, 1, none⟩ = some (.string nm) := (HBn.out.cell (p := ⟨w.heap.size + 1, 1, none⟩) hlt1).trans ((JW2.out.cell 1).trans rfl); have y2 : w6.cell? ⟨w.heap.size + 1, 2, none⟩ = some (.string to) := (HBn.out.cell (p := ⟨w.heap.size + 1, 2, none⟩) hlt1).trans ((JW2.out.cell 2).trans rfl); have y3 : w6.cell? ⟨w.heap.size + 1, 3, none⟩ = some (.slice dA bs.length dc) := (HBn.out.cell (p := ⟨w.heap.size + 1, 3, none⟩) hlt1).trans ((JW2.out.cell 3).trans rfl); have hs6 := HBn.out.size; clear ho6 hg6 HBn)
            | (refine step_append_own_ (by rfl) (.tmp 92) (.tmp 94) 66 (by rfl) W2.heap.size 51 i0 _ 4 64 Try.underlying66 hi hz0 hz1 hz2 rfl (by omega) v6 (0 + os.length) ([] ++ os.flatMap encL) (by rfl) (HO6.out.alloc _) (some ⟨w6.heap.size, 0, none⟩) 1 1 (encL (⟨4, nm, to, ⟨dA, bs.length, dc⟩, bs⟩ : LOp)) (by rfl) (by rfl) (by simp) (fun ad e j u hu => by injection e with e; subst e; rw [lit_add, Nat.zero_add, new_cell _ _ _ _ rfl]; simpa [encL] using hu) (encL_one' _) (by unfold maxLen; omega) (by omega) (by first | exact hs6 | (simp; omega)) ?_; intro v7 w7 ho7 hg7; obtain ⟨A7, c7, rfl⟩ := own_slice ho7; have HO7 := Lib.hid ho7; have HBn : Hid (Below W2.heap.size W2 w7) := (HB6.out.alloc hs6 _).grown hg7 (by simp; omega) (fun q hq => (HO6.out.lt q hq).1); have HB7 := Lib.hid HBn.out; have x1 : w7.cell? ⟨w.heap.size, 1, none⟩ = some (.slice OA os.length OC) := (HBn.out.cell (p := ⟨w.heap.size, 1, none⟩) hlt0).trans ((IW2.out.cell 1).trans rfl); have x2 : w7.frozen? ⟨w.heap.size, 1, none⟩ = false := (IW2.out.on HBn.out).frozen 1; have y0 : w7.cell? ⟨w.heap.size + 1, 0, none⟩ = some (.int .i64 4) := (HBn.out.cell (p := ⟨w.heap.size + 1, 0, none⟩) hlt1).trans ((JW2.out.cell 0).trans rfl); have y1 : w7.cell? ⟨w.heap.size + 1, 1, none⟩ = some (.string nm) := (HBn.out.cell (p := ⟨w.heap.size + 1, 1, none⟩) hlt1).trans ((JW2.out.cell 1).trans rfl); have y2 : w7.cell? ⟨w.heap.size + 1, 2, none⟩ = some (.string to) := (HBn.out.cell (p := ⟨w.heap.size + 1, 2, none⟩) hlt1).trans ((JW2.out.cell 2).trans rfl); have y3 : w7.cell? ⟨w.heap.size + 1, 3, none⟩ = some (.slice dA bs.length dc) := (HBn.out.cell (p := ⟨w.heap.size + 1, 3, none⟩) hlt1).trans ((JW2.out.cell 3).trans rfl); clear ho7 hg7 HBn)
            | (refine step_append_own_ (by rfl) (.tmp 92) (.tmp 94) 66 (by rfl) W2.heap.size 51 i0 _ 4 64 Try.underlying66 hi hz0 hz1 hz2 rfl (by omega) v6 (0 + os.length) ([] ++ os.flatMap encL) (by rfl) (HO6.out) (some ⟨W2.heap.size, 0, none⟩) 1 1 (encL (⟨4, nm, to, ⟨dA, bs.length, dc⟩, bs⟩ : LOp)) (by rfl) (by rfl) (by simp) (fun ad e j u hu => by injection e with e; subst e; rw [lit_add, Nat.zero_add, IS6.out.cell]; simpa [encL] using hu) (encL_one' _) (by unfold maxLen; omega) (by omega) (by first | exact hs6 | (simp; omega)) ?_; intro v7 w7 ho7 hg7; obtain ⟨A7, c7, rfl⟩ := own_slice ho7; have HO7 := Lib.hid ho7; have HBn : Hid (Below W2.heap.size W2 w7) := HB6.out.grown hg7 hs6 (fun q hq => (HO6.out.lt q hq).1); have HB7 := Lib.hid HBn.out; have x1 : w7.cell? ⟨w.heap.size, 1, none⟩ = some (.slice OA os.length OC) := (HBn.out.cell (p := ⟨w.heap.size, 1, none⟩) hlt0).trans ((IW2.out.cell 1).trans rfl); have x2 : w7.frozen? ⟨w.heap.size, 1, none⟩ = false := (IW2.out.on HBn.out).frozen 1; have y0 : w7.cell? ⟨w.heap.size + 1, 0, none⟩ = some (.int .i64 4) := (HBn.out.cell (p := ⟨w.heap.size + 1, 0, none⟩) hlt1).trans ((JW2.out.cell 0).trans rfl); have y1 : w7.cell? ⟨w.heap.size + 1, 1, none⟩ = some (.string nm) := (HBn.out.cell (p := ⟨w.heap.size + 1, 1, none⟩) hlt1).trans ((JW2.out.cell 1).trans rfl); have y2 : w7.cell? ⟨w.heap.size + 1, 2, none⟩ = some (.string to) := (HBn.out.cell (p := ⟨w.heap.size + 1, 2, none⟩) hlt1).trans ((JW2.out.cell 2).trans rfl); have y3 : w7.cell? ⟨w.heap.size + 1, 3, none⟩ = some (.slice dA bs.length dc) := (HBn.out.cell (p := ⟨w.heap.size + 1, 3, none⟩) hlt1).trans ((JW2.out.cell 3).trans rfl); clear ho7 hg7 HBn))
          all_goals (
            have hrow : Hid (w7.ownsRow 0 51 4 (.slice A7 (os.length + 1) c7) (os.length + 1) (os.flatMap encL ++ encL (⟨4, nm, to, ⟨dA, bs.length, dc⟩, bs⟩ : LOp))) := by
              have := ownsRow0 HO7.out
              show w7.ownsRow _ _ _ _ _ _
              simpa using this
            have I7 : Hid (IsB w7 w.heap.size 68 (RS.cells ⟨FA, FC, fs, OA, OC, os, false, f2⟩)) := IW2.out.on HB7.out
            have Z7 : Hid (IsB w7 (w.heap.size + 1 + 1) 68 vR0) := ZW2.out.on HB7.out
            have B7 : Hid (Below w.heap.size w w7) := BW2.out.trans (HB7.out.mono BW2.out.size)
            have R7 : Hid (RB w7 ⟨dA, bs.length, dc⟩ bs) := RW2.out.on HB7.out
            have hW3 : w7.grownBy (w7.setCell ⟨w.heap.size, 1, none⟩ (.slice A7 (os.length + 1) c7)) (some w.heap.size) := g_set (p := ⟨w.heap.size, 1, none⟩) (g_refl _ _) (.inl rfl) _
            have I8 : Hid (IsB (w7.setCell ⟨w.heap.size, 1, none⟩ (.slice A7 (os.length + 1) c7)) w.heap.size 68 (vR (.slice FA fs.length FC) (.slice A7 (os.length + 1) c7) false f2)) := I7.out.set_ 1 _
            have Z8 : Hid (IsB (w7.setCell ⟨w.heap.size, 1, none⟩ (.slice A7 (os.length + 1) c7)) (w.heap.size + 1 + 1) 68 vR0) := Z7.out.grown hW3 (by simp; omega)
            have B8 : Hid (Below w.heap.size w (w7.setCell ⟨w.heap.size, 1, none⟩ (.slice A7 (os.length + 1) c7))) := bel_grow B7.out hW3 (Nat.le_refl _) B7.out.size
            have R8 : Hid (RB (w7.setCell ⟨w.heap.size, 1, none⟩ (.slice A7 (os.length + 1) c7)) ⟨dA, bs.length, dc⟩ bs) := R7.out.grown hW3 (RB.ne_cell I7.out (by decide) R7.out)
            have O8 : Hid ((w7.setCell ⟨w.heap.size, 1, none⟩ (.slice A7 (os.length + 1) c7)).ownsRow 0 51 4 (.slice A7 (os.length + 1) c7) (os.length + 1) (os.flatMap encL ++ encL (⟨4, nm, to, ⟨dA, bs.length, dc⟩, bs⟩ : LOp))) := own_grown hrow.out hW3 I7.out (by decide)
            clear hW3 x1 x2 y0 y1 y2 y3 a0 a1 a2 a3 b0 b1 b2 b3 j0 j1 j2 j3 l0 l1 l2 l3
            generalize w7.setCell ⟨w.heap.size, 1, none⟩ (.slice A7 (os.length + 1) c7) = W8 at *
            obtain ⟨⟨a0, a1, a2, a3⟩, b0, b1, b2, b3⟩ := I8.out.res
            obtain ⟨⟨d0, d1, d2, d3⟩, e0, e1, e2, e3⟩ := Z8.out.res
            go_wp2_with fail
            have hg9 := setR_grow W8 (w.heap.size + 1 + 1) (.slice FA fs.length FC) (.slice A7 (os.length + 1) c7) false f2
            have hb9 := bel_grow B8.out hg9 (show w.heap.size ≤ w.heap.size + 1 + 1 by omega) B8.out.size
            have hIs : IsB (setR W8 (w.heap.size + 1 + 1) (.slice FA fs.length FC) (.slice A7 (os.length + 1) c7) false f2) (w.heap.size + 1 + 1) 68 (RS.cells ⟨FA, FC, fs, A7, c7, os ++ [(⟨4, nm, to, ⟨dA, bs.length, dc⟩, bs⟩ : LOp)], false, f2⟩) := by
              show IsB _ _ 68 (vR _ (.slice A7 (os ++ [(⟨4, nm, to, ⟨dA, bs.length, dc⟩, bs⟩ : LOp)]).length c7) _ _)
              rw [List.length_append]
              exact setR_is Z8.out _ _ _ _
            exact ret45 hIs rfl rfl rfl ⟨⟨FA, FC, fs, A7, c7, os ++ [(⟨4, nm, to, ⟨dA, bs.length, dc⟩, bs⟩ : LOp)], false, f2⟩, by rw [HE.out], RM.snoc (r := ⟨FA, FC, fs, OA, OC, os, false, f⟩) M0.out hb9 (own_grown O8.out hg9 Z8.out (by decide)) (R8.out.grown hg9 (RB.ne_cell Z8.out (by decide) R8.out)) ⟨HO.out.k1, HO.out.k4, HO.out.nm, HO.out.to, HO.out.len⟩, by rw [HSd.out, HF2.out]; exact RP.did (o := (⟨4, nm, to, ⟨B, bs.length, cc⟩, bs⟩ : LOp)) P0.out hlo rfl rfl rfl HDo.out HOk2.out HD.out HF1.out, NewR.snoc (r := ⟨FA, FC, fs, OA, OC, os, false, f⟩) N5.out, hb9⟩)
end Go.Proofs.Ytddjkkmdcdiofaa
