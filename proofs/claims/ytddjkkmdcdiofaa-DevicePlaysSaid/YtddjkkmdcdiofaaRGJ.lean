/- RG RH RI RJ in one text. -/
import Derived.Test.YtddjkkmdcdiofaaRF
namespace Go.Proofs.Ytddjkkmdcdiofaa
open Go.RowKit Go.MapKept Go.ChangeMaps

abbrev vR0 : Array Value := vR (.slice none 0 0) (.slice none 0 0) false 0
abbrev setR (w : World) (g : Nat) (F O : Value) (dn : Bool) (f : Int) : World := (((w.setCell ⟨g, 0, none⟩ F).setCell ⟨g, 1, none⟩ O).setCell ⟨g, 2, none⟩ (.bool dn)).setCell ⟨g, 3, none⟩ (.int .i64 f)
theorem setR_is {w : World} {g : Nat} {a b : Value} {c : Bool} {d : Int} (h : IsB w g 68 (vR a b c d)) (F O : Value) (dn : Bool) (f : Int) : IsB (setR w g F O dn f) g 68 (vR F O dn f) :=
  (((h.set_ 0 F).set_ 1 O).set_ 2 (.bool dn)).set_ 3 (.int .i64 f)
theorem setR_grow (w : World) (g : Nat) (F O : Value) (dn : Bool) (f : Int) : w.grownBy (setR w g F O dn f) (some g) :=
  g_set (p := ⟨g, 3, none⟩) (g_set (p := ⟨g, 2, none⟩) (g_set (p := ⟨g, 1, none⟩) (g_set (p := ⟨g, 0, none⟩) (g_refl _ _) (.inl rfl) _) (.inl rfl) _) (.inl rfl) _) (.inl rfl) _
theorem bel_grow {B : Nat} {w w1 w' : World} {g : Nat} (h : Below B w w1) (hg : w1.grownBy w' (some g)) (hB : B ≤ g) (hw : B ≤ w1.heap.size) : Below B w w' := h.grown hg hw (fun q hq => by injection hq with hq; omega)
def BurnR (F O : Value) (dn : Bool) (f : Int) (w : World) (e : Ending) (w' : World) : Prop := e = .returned (.tuple #[.agg (vR F O (if f = 1 then true else dn) (burnF f)), .bool (!decide (f = 1))]) ∧ Below w.heap.size w w'
set_option maxRecDepth 100000 in
set_option maxHeartbeats 4000000 in
theorem burnR_any (A : Option Addr) (n c : Nat) (A' : Option Addr) (n' c' : Nat) (dn : Bool) (f : Int) (w : World) (hf0 : 0 ≤ f) (hf1 : f ≤ 9223372036854775807) : Calls Try.prog 61 #[.agg (vR (.slice A n c) (.slice A' n' c') dn f)] w (BurnR (.slice A n c) (.slice A' n' c') dn f w) := by
  by_cases h0 : f = 0
  · subst h0
    go_enter Try.func61, Try.ntmps61
    go_wp2_with fail
    refine bodyPost_ret (v := .tuple #[.agg (vR (.slice A n c) (.slice A' n' c') dn 0), .bool true]) ?_ rfl ⟨by simp [burnF], (bel1 _ _).alloc (by simp) _⟩
    simp [results, Try.results61, go_sem]
  by_cases h1 : f = 1
  · subst h1
    go_enter Try.func61, Try.ntmps61
    go_wp2_with fail
    refine bodyPost_ret (v := .tuple #[.agg (vR (.slice A n c) (.slice A' n' c') true 0), .bool false]) ?_ rfl ⟨by simp [burnF], (bel1 _ _).alloc (by simp) _⟩
    simp [results, Try.results61, go_sem]
  · have e0 : (f == 0) = false := by simpa using h0
    have e1 : (f - 1 == 0) = false := by rw [beq_eq_false_iff_ne]; omega
    go_enter Try.func61, Try.ntmps61
    go_wp2_with fail
    refine bodyPost_ret (v := .tuple #[.agg (vR (.slice A n c) (.slice A' n' c') dn (f - 1)), .bool true]) ?_ rfl ⟨by simp [burnF, h0, h1], (bel1 _ _).alloc (by simp) _⟩
    simp [results, Try.results61, go_sem]
end Go.Proofs.Ytddjkkmdcdiofaa
namespace Go.Proofs.Ytddjkkmdcdiofaa
open Go.RowKit Go.MapKept Go.ChangeMaps

/-- The bytes that the reference's device holds. -/
def RS.rd (r : RS) : List (BD × List UInt8) := r.fs.map (fun x => (x.d, x.bs)) ++ r.os.map (fun o => (o.d, o.bs))
def NewR (H : Nat) (r r' : RS) : Prop := ∀ y ∈ r'.rd, (∃ x ∈ r.rd, y.1 = x.1) ∨ ∀ g, blk y.1 = some g → H ≤ g
theorem NewR.mk_ {H : Nat} {r r' : RS} (hf : NewF H r.fs r'.fs) (ho : ∀ o ∈ r'.os, o ∈ r.os) : NewR H r r' := fun y hy => by
  rcases List.mem_append.1 hy with h | h
  · obtain ⟨x, hx, rfl⟩ := List.mem_map.1 h
    rcases hf x hx with ⟨z, hz, e⟩ | h2
    · exact .inl ⟨(z.d, z.bs), List.mem_append.2 (.inl (List.mem_map.2 ⟨z, hz, rfl⟩)), e⟩
    · exact .inr h2
  · obtain ⟨o, ho2, rfl⟩ := List.mem_map.1 h
    exact .inl ⟨(o.d, o.bs), List.mem_append.2 (.inr (List.mem_map.2 ⟨o, ho o ho2, rfl⟩)), rfl⟩
/-- The next device of the reference, and the error. -/
def DevE (r : RS) (s' : St) (E : Int) (w : World) (e : Ending) (w' : World) : Prop := ∃ r' : RS, e = .returned (.tuple #[.agg r'.cells, .int .i64 E]) ∧ RM w' r' ∧ RP r' s' ∧ NewR w.heap.size r r' ∧ Below w.heap.size w w'
def Dev1 (r : RS) (s' : St) (w : World) (e : Ending) (w' : World) : Prop := ∃ r' : RS, e = .returned (.agg r'.cells) ∧ RM w' r' ∧ RP r' s' ∧ NewR w.heap.size r r' ∧ Below w.heap.size w w'
def RReadPost (s : St) (nm : ByteArray) (w : World) (e : Ending) (w' : World) : Prop := ∃ d : BD, e = .returned (.tuple #[.slice d.A d.len d.cap, .int .i64 (readE s nm)]) ∧ RB w' d (readB s nm) ∧ Below w.heap.size w w'
theorem rread_bad {s : St} {nm : ByteArray} {w w' : World} {E : Int} (h : readE s nm = E) (hE : E ≠ 0) (hb : Below w.heap.size w w') : RReadPost s nm w (.returned (.tuple #[.slice none 0 0, .int .i64 E])) w' :=
  ⟨⟨none, 0, 0⟩, by rw [h], by unfold readB; rw [h, if_neg hE]; exact RB.zero _, hb⟩
set_option maxRecDepth 100000 in
set_option maxHeartbeats 4000000 in
theorem RRead_any (r : RS) (s : St) (nm : ByteArray) (w : World) (hm : RM w r) (hp : RP r s) (hn : nm.size ≤ maxLen) : Calls Try.prog 44 #[.agg r.cells, .string nm] w (RReadPost s nm w) := by
  have M0 := Lib.hid hm
  have P0 := Lib.hid hp
  have M1 : Hid (RM (w.alloc (.cells r.cells 68)) r) := hm.on (bel1 _ _)
  have B0 : Hid (Below w.heap.size w (w.alloc (.cells r.cells 68))) := bel1 _ _
  have HD : Hid (r.dn = s.dn) := hp.dn
  clear hm hp
  obtain ⟨FA, FC, fs, OA, OC, os, dn, f⟩ := r
  cases dn
  case true =>
    have HE : Hid (readE s nm = 303) := by rw [Hid, readE, checkP, ← HD.out]; rfl
    clear HD
    go_enter Try.func44, Try.ntmps44
    go_wp2_with fail
    go_ret2
    exact rread_bad HE.out (by decide) B0.out
  case false =>
    have HDn : Hid (s.dn = false) := by rw [Hid, ← HD.out]
    clear HD
    go_enter Try.func44, Try.ntmps44
    go_wp2_with fail
    refine (rName_any nm _ hn).mono ?_
    rintro e w1 ⟨rfl, rfl⟩
    cases hnb : nameB nm
    case false =>
      have HE : Hid (readE s nm = 300) := by simp [Hid, readE, checkP, HDn.out, hnb]
      clear hnb
      go_wp2_with fail
      go_ret2
      exact rread_bad HE.out (by decide) B0.out
    case true =>
      have HNb := Lib.hid hnb
      clear hnb
      go_wp2_with fail
      refine (Files_any _ s _ M1.out P0.out).mono ?_
      rintro e w2 ⟨A, c, fs', rfl, hf, ha, _, hb⟩
      have F2 := Lib.hid hf
      have HA := Lib.hid ha
      have B2 : Hid (Below w.heap.size w w2) := B0.out.trans (hb.mono B0.out.size)
      have hl : fs'.length ≤ 100000 := by have := (pl_small hf.sort ha P0.out.ok.now).1; omega
      clear hf ha hb
      go_wp2_with fail
      refine (place_any A c fs' nm _ F2.out hl).mono ?_
      rintro e w3 ⟨he, hb⟩
      have F3 : Hid (FL w3 A c fs') := F2.out.on hb
      have B3 : Hid (Below w.heap.size w w3) := B2.out.trans (hb.mono B2.out.size)
      have HH : Hid (hasP fs' nm = (s.now nm).isSome) := by rw [Hid, hasP_asc F2.out.sort, HA.out]
      clear hb
      obtain ⟨p, HP⟩ : ∃ p, Hid (posP fs' nm = p) := ⟨_, rfl⟩
      obtain ⟨b, Hb⟩ : ∃ b, Hid (hasP fs' nm = b) := ⟨_, rfl⟩
      rw [HP.out, Hb.out] at he
      subst he
      cases b
      · have HE : Hid (readE s nm = 301) := by simp [Hid, readE, checkP, HDn.out, HNb.out, ← HH.out, Hb.out]
        go_wp2_with fail
        go_ret2
        exact rread_bad HE.out (by decide) B3.out
      · have HE : Hid (readE s nm = 0) := by simp [Hid, readE, checkP, HDn.out, HNb.out, ← HH.out, Hb.out]
        obtain ⟨x, hx, hxn, hxa⟩ := posP_at F3.out.sort Hb.out
        rw [HP.out] at hx
        obtain ⟨g, hAg, hgl, _, c1⟩ := rowF F3.out.row hx
        have hplt := (List.getElem?_eq_some_iff.1 hx).1
        have RX : Hid (RB w3 x.d x.bs) := F3.out.rb _ (List.mem_of_getElem? hx)
        have HB : Hid (readB s nm = x.bs) := by
          rw [Hid, readB, HE.out, if_pos rfl, ← HA.out, hxa]
          rfl
        have hp0 : (0 : Int) ≤ p := by omega
        have hpi : (p : Int) < fs'.length := by omega
        clear hx hxn hxa
        subst hAg
        go_wp2_with fail
        go_ret2
        exact ⟨x.d, by rw [HE.out]; rfl, by rw [HB.out]; exact RX.out, B3.out⟩
theorem RP.fuse {r : RS} {s : St} (h : RP r s) (f : Int) (h0 : 0 ≤ f) (h1 : f ≤ 9223372036854775807) : RP { r with f := f } { s with f := f } := ⟨h.K, h.ops, h.dn, rfl, ⟨h0, h1, h.ok.pre, h.ok.ops⟩, h.ex, h.len⟩
theorem RP.power {r : RS} {s : St} (h : RP r s) (dn : Bool) : RP { r with dn := dn } { s with dn := dn } := ⟨h.K, h.ops, rfl, h.f, ⟨h.ok.f0, h.ok.f1, h.ok.pre, h.ok.ops⟩, h.ex, h.len⟩
theorem RM.fields {w : World} {r : RS} (h : RM w r) (dn : Bool) (f : Int) : RM w { r with dn := dn, f := f } := ⟨h.fl, h.row, h.rb, h.ok⟩
theorem RP.cut {r : RS} {s : St} (h : RP r s) : RP { r with dn := true, f := 0 } s.cut := (h.power true).fuse 0 (by omega) (by omega)
/-- Decided files, nothing pending. -/
theorem RP.none {fs : List RFile} {A : Option Addr} {c : Nat} {K : FF} {dn : Bool} {f : Int} (hK : ∀ m, asc (pl fs) m = K m) (h : Ok ⟨K, [], dn, f⟩) : RP ⟨A, c, fs, none, 0, [], dn, f⟩ ⟨K, [], dn, f⟩ :=
  ⟨hK, rfl, rfl, rfl, h, by simp, by simp⟩
theorem RM.none {w : World} {fs : List RFile} {A : Option Addr} {c : Nat} {dn : Bool} {f : Int} (h : FL w A c fs) : RM w ⟨A, c, fs, none, 0, [], dn, f⟩ := ⟨h, World.ownsRow_nil _ _ _ _, by simp, by simp⟩
end Go.Proofs.Ytddjkkmdcdiofaa
namespace Go.Proofs.Ytddjkkmdcdiofaa
open Go.RowKit Go.MapKept Go.ChangeMaps

/-- What a result's block needs: its cells are there and may be written. -/
theorem IsB.res {w : World} {g : Nat} {t : TypeId} {a b c d : Value} (h : IsB w g t #[a, b, c, d]) : (w.cell? ⟨g, 0, none⟩ = some a ∧ w.cell? ⟨g, 1, none⟩ = some b ∧ w.cell? ⟨g, 2, none⟩ = some c ∧ w.cell? ⟨g, 3, none⟩ = some d) ∧ (w.frozen? ⟨g, 0, none⟩ = false ∧ w.frozen? ⟨g, 1, none⟩ = false ∧ w.frozen? ⟨g, 2, none⟩ = false ∧ w.frozen? ⟨g, 3, none⟩ = false) :=
  ⟨⟨(h.cell 0).trans rfl, (h.cell 1).trans rfl, (h.cell 2).trans rfl, (h.cell 3).trans rfl⟩, h.frozen 0, h.frozen 1, h.frozen 2, h.frozen 3⟩
/-- The argument's block and the result's block. -/
abbrev two (w : World) (cs : Array Value) : World := (w.alloc (.cells cs 68)).alloc (.cells vR0 68)
theorem two_is (w : World) (cs : Array Value) : IsB (two w cs) w.heap.size 68 cs ∧ IsB (two w cs) (w.heap.size + 1) 68 vR0 ∧ Below w.heap.size w (two w cs) ∧ (two w cs).heap.size = w.heap.size + 2 := by
  refine ⟨(IsB.new _ _ _).alloc _, ?_, (bel1 _ _).alloc (by simp) _, by simp [two]⟩
  have := IsB.new (w.alloc (.cells cs 68)) 68 vR0
  simpa [two] using this
theorem ret39 {r' : RS} {E : Int} {Q : Ending → World → Prop} {W : World} {a : Act} {g : Nat} (hb : IsB W g 68 r'.cells) (ha : a.defers = []) (h2 : a.eval (.tmp 2) = .pointer (some ⟨g, 0, none⟩)) (h3 : a.eval (.tmp 3) = .int .i64 E) (hQ : Q (.returned (.tuple #[.agg r'.cells, .int .i64 E])) W) : bodyPost Try.prog Try.f39 Q .ret a W := by
  obtain ⟨⟨c0, c1, c2, c3⟩, _⟩ := hb.res
  refine bodyPost_ret (v := .tuple #[.agg r'.cells, .int .i64 E]) ?_ ha hQ
  simp [Act.eval] at h2 h3
  simp [results, Try.results39, go_sem, h2, h3, c0, c1, c2, c3]
theorem ret45 {r' : RS} {E : Int} {Q : Ending → World → Prop} {W : World} {a : Act} {g : Nat} (hb : IsB W g 68 r'.cells) (ha : a.defers = []) (h2 : a.eval (.tmp 4) = .pointer (some ⟨g, 0, none⟩)) (h3 : a.eval (.tmp 5) = .int .i64 E) (hQ : Q (.returned (.tuple #[.agg r'.cells, .int .i64 E])) W) : bodyPost Try.prog Try.f45 Q .ret a W := by
  obtain ⟨⟨c0, c1, c2, c3⟩, _⟩ := hb.res
  refine bodyPost_ret (v := .tuple #[.agg r'.cells, .int .i64 E]) ?_ ha hQ
  simp [Act.eval] at h2 h3
  simp [results, Try.results45, go_sem, h2, h3, c0, c1, c2, c3]
theorem ret43 {r' : RS} {E : Int} {Q : Ending → World → Prop} {W : World} {a : Act} {g : Nat} (hb : IsB W g 68 r'.cells) (ha : a.defers = []) (h2 : a.eval (.tmp 8) = .pointer (some ⟨g, 0, none⟩)) (h3 : a.eval (.tmp 9) = .int .i64 E) (hQ : Q (.returned (.tuple #[.agg r'.cells, .int .i64 E])) W) : bodyPost Try.prog Try.f43 Q .ret a W := by
  obtain ⟨⟨c0, c1, c2, c3⟩, _⟩ := hb.res
  refine bodyPost_ret (v := .tuple #[.agg r'.cells, .int .i64 E]) ?_ ha hQ
  simp [Act.eval] at h2 h3
  simp [results, Try.results43, go_sem, h2, h3, c0, c1, c2, c3]
theorem ret63 {r' : RS} {Q : Ending → World → Prop} {W : World} {a : Act} {g : Nat} (hb : IsB W g 68 r'.cells) (ha : a.defers = []) (h2 : a.eval (.tmp 4) = .pointer (some ⟨g, 0, none⟩)) (hQ : Q (.returned (.agg r'.cells)) W) : bodyPost Try.prog Try.f63 Q .ret a W := by
  obtain ⟨⟨c0, c1, c2, c3⟩, _⟩ := hb.res
  refine bodyPost_ret (v := .agg r'.cells) ?_ ha hQ
  simp [Act.eval] at h2
  simp [results, Try.results63, go_sem, h2, c0, c1, c2, c3]
theorem ret40 {r' : RS} {Q : Ending → World → Prop} {W : World} {a : Act} {g : Nat} (hb : IsB W g 68 r'.cells) (ha : a.defers = []) (h2 : a.eval (.tmp 4) = .pointer (some ⟨g, 0, none⟩)) (hQ : Q (.returned (.agg r'.cells)) W) : bodyPost Try.prog Try.f40 Q .ret a W := by
  obtain ⟨⟨c0, c1, c2, c3⟩, _⟩ := hb.res
  refine bodyPost_ret (v := .agg r'.cells) ?_ ha hQ
  simp [Act.eval] at h2
  simp [results, Try.results40, go_sem, h2, c0, c1, c2, c3]
theorem ret41 {r' : RS} {Q : Ending → World → Prop} {W : World} {a : Act} {g : Nat} (hb : IsB W g 68 r'.cells) (ha : a.defers = []) (h2 : a.eval (.tmp 2) = .pointer (some ⟨g, 0, none⟩)) (hQ : Q (.returned (.agg r'.cells)) W) : bodyPost Try.prog Try.f41 Q .ret a W := by
  obtain ⟨⟨c0, c1, c2, c3⟩, _⟩ := hb.res
  refine bodyPost_ret (v := .agg r'.cells) ?_ ha hQ
  simp [Act.eval] at h2
  simp [results, Try.results41, go_sem, h2, c0, c1, c2, c3]
theorem own_grown {w w' : World} {e : TypeId} {size n g : Nat} {v : Value} {xs : List Value} {cs : Array Value} (h : w.ownsRow 0 e size v n xs) (hg : w.grownBy w' (some g)) (hi : IsB w g 68 cs) (hne : e ≠ 68) : w'.ownsRow 0 e size v n xs := by
  refine own_ch h (M := fun i => i = g) (G := []) ⟨hg.os, hg.tape, hg.output, hg.size, fun i hi2 hm _ => hg.block i hi2 (fun e => hm (by injection e)), by simp⟩ (fun i hi2 => ⟨fun e2 => ?_, by simp⟩)
  subst e2
  exact absurd hi2 (hi.own_ne h hne)
theorem FL.grown_ {w w' : World} {g : Nat} {A : Option Addr} {c : Nat} {fs : List RFile} {cs : Array Value} (h : FL w A c fs) (hg : w.grownBy w' (some g)) (hi : IsB w g 68 cs) : FL w' A c fs :=
  ⟨own_grown h.row hg hi (by decide), fun x hx => (h.rb x hx).grown hg (RB.ne_cell hi (by decide) (h.rb x hx)), h.sort, h.ok⟩
set_option maxRecDepth 100000 in
set_option maxHeartbeats 4000000 in
theorem RSync_any (r : RS) (s : St) (w : World) (hm : RM w r) (hp : RP r s) : Calls Try.prog 39 #[.agg r.cells] w (DevE r (syncS s) (syncE s) w) := by
  have M0 := Lib.hid hm
  have P0 := Lib.hid hp
  have hf0 : 0 ≤ r.f := by rw [hp.f]; exact hp.ok.f0
  have hf1 : r.f ≤ 9223372036854775807 := by rw [hp.f]; exact hp.ok.f1
  clear hm hp
  obtain ⟨FA, FC, fs, OA, OC, os, dn, f⟩ := r
  simp only at hf0 hf1
  have HD : Hid (s.dn = dn) := P0.out.dn.symm
  have HF : Hid (s.f = f) := P0.out.f.symm
  cases dn
  case true =>
    have HE : Hid (syncE s = 303) := by rw [Hid, syncE, HD.out]; rfl
    have HS : Hid (syncS s = s) := by rw [Hid, syncS, HD.out]; rfl
    go_enter Try.func39, Try.ntmps39
    go_wp2_with fail
    refine bodyPost_ret (v := .tuple #[.agg (RS.cells ⟨FA, FC, fs, OA, OC, os, true, f⟩), .int .i64 303]) ?_ rfl ⟨⟨FA, FC, fs, OA, OC, os, true, f⟩, by rw [HE.out], M0.out.on ((bel1 _ _).alloc (by simp) _), by rw [HS.out]; exact P0.out, NewR.mk_ (NewF.refl _ _) (fun _ h => h), (bel1 _ _).alloc (by simp) _⟩
    simp [results, Try.results39, go_sem]
  case false =>
    obtain ⟨I0, Z0, B0, s0⟩ := two_is w (RS.cells ⟨FA, FC, fs, OA, OC, os, false, f⟩)
    have HI0 := Lib.hid I0
    have HZ0 := Lib.hid Z0
    have HB0 := Lib.hid B0
    have Hs0 := Lib.hid s0
    clear I0 Z0 B0 s0
    go_enter Try.func39, Try.ntmps39
    go_wp2_with fail
    refine (burnR_any FA fs.length FC OA os.length OC false f _ hf0 hf1).mono ?_
    rintro e w1 ⟨he, hb0⟩
    have hb : Below (two w (RS.cells ⟨FA, FC, fs, OA, OC, os, false, f⟩)).heap.size (two w (RS.cells ⟨FA, FC, fs, OA, OC, os, false, f⟩)) w1 := hb0
    have I1 : Hid (IsB w1 w.heap.size 68 (RS.cells ⟨FA, FC, fs, OA, OC, os, false, f⟩)) := HI0.out.on hb
    have Z1 : Hid (IsB w1 (w.heap.size + 1) 68 vR0) := HZ0.out.on hb
    have B1 : Hid (Below w.heap.size w w1) := HB0.out.trans (hb.mono (by rw [Hs0.out]; omega))
    have s1 : w.heap.size + 2 ≤ w1.heap.size := by have := hb.size; rw [Hs0.out] at this; exact this
    clear hb hb0 HI0 HZ0 HB0 Hs0
    obtain ⟨⟨a0, a1, a2, a3⟩, b0, b1, b2, b3⟩ := I1.out.res
    obtain ⟨⟨d0, d1, d2, d3⟩, e0, e1, e2, e3⟩ := Z1.out.res
    by_cases h1 : f = 1
    · subst h1
      have HE : Hid (syncE s = 303) := by simp [Hid, syncE, HD.out, HF.out]
      have HS : Hid (syncS s = s.cut) := by simp [Hid, syncS, HD.out, HF.out]
      simp [burnF] at he
      subst he
      go_wp2_with fail
      have hW := setR_grow w1 w.heap.size (.slice FA fs.length FC) (.slice OA os.length OC) true 0
      have hb2 := bel_grow (bel_grow B1.out hW (Nat.le_refl _) B1.out.size) (setR_grow _ (w.heap.size + 1) (.slice FA fs.length FC) (.slice OA os.length OC) true 0) (by omega) (Nat.le_trans B1.out.size hW.size)
      exact ret39 (r' := ⟨FA, FC, fs, OA, OC, os, true, 0⟩) (setR_is (Z1.out.grown hW (by simp)) (.slice FA fs.length FC) (.slice OA os.length OC) true 0) rfl rfl rfl ⟨⟨FA, FC, fs, OA, OC, os, true, 0⟩, by rw [HE.out], (M0.out.fields true 0).on hb2, by rw [HS.out]; exact P0.out.cut, NewR.mk_ (NewF.refl _ _) (fun _ h => h), hb2⟩
    · have HE : Hid (syncE s = 0) := by simp [Hid, syncE, HD.out, HF.out, h1]
      have HS : Hid (syncS s = ⟨s.now, [], false, burnF f⟩) := by simp [Hid, syncS, HD.out, HF.out, h1]
      simp only [if_neg h1, decide_eq_false h1, Bool.not_false] at he
      have g0 : 0 ≤ burnF f := by unfold burnF; split <;> omega
      have g1 : burnF f ≤ 9223372036854775807 := by unfold burnF; split <;> omega
      have PF : Hid (RP ⟨FA, FC, fs, OA, OC, os, false, burnF f⟩ { s with f := burnF f }) := P0.out.fuse _ g0 g1
      have MF : Hid (RM w ⟨FA, FC, fs, OA, OC, os, false, burnF f⟩) := M0.out.fields false (burnF f)
      have OKs : Hid (Ok ⟨s.now, [], false, burnF f⟩) := by have := P0.out.ok.sync; rw [HF.out] at this; exact this
      generalize burnF f = f2 at *
      subst he
      go_wp2_with fail
      have hW := setR_grow w1 w.heap.size (.slice FA fs.length FC) (.slice OA os.length OC) false f2
      have IW : Hid (IsB (setR w1 w.heap.size (.slice FA fs.length FC) (.slice OA os.length OC) false f2) w.heap.size 68 (RS.cells ⟨FA, FC, fs, OA, OC, os, false, f2⟩)) := setR_is I1.out _ _ _ _
      have ZW : Hid (IsB (setR w1 w.heap.size (.slice FA fs.length FC) (.slice OA os.length OC) false f2) (w.heap.size + 1) 68 vR0) := Z1.out.grown hW (by simp)
      have BW : Hid (Below w.heap.size w (setR w1 w.heap.size (.slice FA fs.length FC) (.slice OA os.length OC) false f2)) := bel_grow B1.out hW (Nat.le_refl _) B1.out.size
      clear hW
      unfold setR at IW ZW BW
      generalize (((w1.setCell ⟨w.heap.size, 0, none⟩ (.slice FA fs.length FC)).setCell ⟨w.heap.size, 1, none⟩ (.slice OA os.length OC)).setCell ⟨w.heap.size, 2, none⟩ (.bool false)).setCell ⟨w.heap.size, 3, none⟩ (.int .i64 f2) = W at *
      clear a0 a1 a2 a3 b0 b1 b2 b3 d0 d1 d2 d3 e0 e1 e2 e3
      have MW : Hid (RM W.drew ⟨FA, FC, fs, OA, OC, os, false, f2⟩) := MF.out.on (bel_drew BW.out)
      obtain ⟨⟨a0, a1, a2, a3⟩, b0, b1, b2, b3⟩ := IW.out.res
      obtain ⟨⟨d0, d1, d2, d3⟩, e0, e1, e2, e3⟩ := ZW.out.res
      go_region_held3 (fun w' => ((w'.cell? ⟨w.heap.size, 0, none⟩ = some (.slice FA fs.length FC) ∧ w'.cell? ⟨w.heap.size, 1, none⟩ = some (.slice OA os.length OC) ∧ w'.cell? ⟨w.heap.size, 2, none⟩ = some (.bool false) ∧ w'.cell? ⟨w.heap.size, 3, none⟩ = some (.int .i64 f2)) ∧ w'.frozen? ⟨w.heap.size + 1, 0, none⟩ = false ∧ w'.frozen? ⟨w.heap.size + 1, 1, none⟩ = false ∧ w'.frozen? ⟨w.heap.size + 1, 2, none⟩ = false ∧ w'.frozen? ⟨w.heap.size + 1, 3, none⟩ = false))
        (first | exact K2.out | go_keep)
        (first
          | (go_at_call 62; (with_reducible refine (Files_any ⟨FA, FC, fs, OA, OC, os, false, f2⟩ _ W.drew MW.out PF.out).mono ?_); rintro e w2 ⟨A2, c2, fs2, rfl, hf2, ha2, hn2, hb2'⟩; have hb2 := of_drew hb2'; have F2 := Lib.hid hf2; have A2' := Lib.hid ha2; have N2 := Lib.hid hn2; have I2 : Hid (IsB w2 w.heap.size 68 (RS.cells ⟨FA, FC, fs, OA, OC, os, false, f2⟩)) := IW.out.on hb2; have Z2 : Hid (IsB w2 (w.heap.size + 1) 68 vR0) := ZW.out.on hb2; have B2 : Hid (Below w.heap.size w w2) := BW.out.trans (hb2.mono BW.out.size); have K2 : Hid ((w2.cell? ⟨w.heap.size, 0, none⟩ = some (.slice FA fs.length FC) ∧ w2.cell? ⟨w.heap.size, 1, none⟩ = some (.slice OA os.length OC) ∧ w2.cell? ⟨w.heap.size, 2, none⟩ = some (.bool false) ∧ w2.cell? ⟨w.heap.size, 3, none⟩ = some (.int .i64 f2)) ∧ w2.frozen? ⟨w.heap.size + 1, 0, none⟩ = false ∧ w2.frozen? ⟨w.heap.size + 1, 1, none⟩ = false ∧ w2.frozen? ⟨w.heap.size + 1, 2, none⟩ = false ∧ w2.frozen? ⟨w.heap.size + 1, 3, none⟩ = false) := ⟨I2.out.res.1, Z2.out.res.2⟩; obtain ⟨⟨m0, m1, m2, m3⟩, _⟩ := Z2.out.res; clear hf2 ha2 hn2 hb2 hb2'))
      all_goals (
        go_wp2_with fail
        have hb3 := bel_grow B2.out (setR_grow w2 (w.heap.size + 1) (.slice A2 fs2.length c2) (.slice none 0 0) false f2) (by omega) B2.out.size
        exact ret39 (r' := ⟨A2, c2, fs2, none, 0, [], false, f2⟩) (setR_is Z2.out (.slice A2 fs2.length c2) (.slice none 0 0) false f2) rfl rfl rfl ⟨⟨A2, c2, fs2, none, 0, [], false, f2⟩, by rw [HE.out], RM.none (F2.out.grown_ (setR_grow _ _ _ _ _ _) Z2.out), by rw [HS.out]; exact RP.none A2'.out OKs.out, NewR.mk_ (fun y hy => (N2.out y hy).imp id (fun h g hg => by have := h g hg; have := BW.out.size; have : W.drew.heap.size = W.heap.size := rfl; omega)) (by simp), hb3⟩)
end Go.Proofs.Ytddjkkmdcdiofaa
namespace Go.Proofs.Ytddjkkmdcdiofaa
open Go.RowKit Go.MapKept Go.ChangeMaps

abbrev three (w : World) (cs ls : Array Value) : World := ((w.alloc (.cells cs 68)).alloc (.cells ls 32)).alloc (.cells vR0 68)
theorem three_is (w : World) (cs ls : Array Value) : IsB (three w cs ls) w.heap.size 68 cs ∧ IsB (three w cs ls) (w.heap.size + 1) 32 ls ∧ IsB (three w cs ls) (w.heap.size + 2) 68 vR0 ∧ Below w.heap.size w (three w cs ls) ∧ (three w cs ls).heap.size = w.heap.size + 3 := by
  refine ⟨((IsB.new _ _ _).alloc _).alloc _, ?_, ?_, ((bel1 _ _).alloc (by simp) _).alloc (by simp; omega) _, by simp [three]⟩
  · have := (IsB.new (w.alloc (.cells cs 68)) 32 ls).alloc (.cells vR0 68)
    simpa [three] using this
  · have := IsB.new ((w.alloc (.cells cs 68)).alloc (.cells ls 32)) 68 vR0
    simpa [three] using this
theorem decide_fin {r : RS} {s : St} {keep torn : Int} {w wr : World} {A : Option Addr} {c : Nat} {fs' : List RFile} (hp : RP r s) (hF : FL wr A c fs') (hA : ∀ m, asc (pl fs') m = lossF s keep torn m) (hN : NewF w.heap.size r.fs fs') (hB : Below w.heap.size w wr) (hZ : IsB wr (w.heap.size + 1 + 1) 68 vR0) :
    IsB (setR wr (w.heap.size + 1 + 1) (.slice A fs'.length c) (.slice none 0 0) r.dn r.f) (w.heap.size + 1 + 1) 68 (RS.cells ⟨A, c, fs', none, 0, [], r.dn, r.f⟩) ∧ Dev1 r (decideS s keep torn) w (.returned (.agg (RS.cells ⟨A, c, fs', none, 0, [], r.dn, r.f⟩))) (setR wr (w.heap.size + 1 + 1) (.slice A fs'.length c) (.slice none 0 0) r.dn r.f) := by
  have hg := setR_grow wr (w.heap.size + 1 + 1) (.slice A fs'.length c) (.slice none 0 0) r.dn r.f
  refine ⟨setR_is hZ _ _ _ _, ⟨A, c, fs', none, 0, [], r.dn, r.f⟩, rfl, RM.none (hF.grown_ hg hZ), ?_, NewR.mk_ hN (by simp), bel_grow hB hg (by omega) hB.size⟩
  have := hp.ok.decide keep torn
  rw [decideS, ← hp.dn, ← hp.f] at this ⊢
  exact RP.none hA this
theorem Dev1.more {r : RS} {s' : St} {w w' w'' : World} {e : Ending} (h : Dev1 r s' w e w') (hb : Below w'.heap.size w' w'') : Dev1 r s' w e w'' := by
  obtain ⟨r', h1, h2, h3, h4, h5⟩ := h
  exact ⟨r', h1, h2.on hb, h3, h4, h5.trans (hb.mono h5.size)⟩
theorem LOp.tears {o : LOp} : o.op.tears = true ↔ o.k = 1 ∨ o.k = 2 := by
  unfold LOp.op
  by_cases h1 : o.k = 1
  · simp [h1]
  · by_cases h2 : o.k = 2
    · simp [h2]
    · by_cases h3 : o.k = 3
      · simp [h3]
      · simp [h1, h2, h3]
theorem LOp.cut {o : LOp} (d : BD) (t : Int) (T : Nat) (hk : o.k = 1 ∨ o.k = 2) (hT : o.bs.take T = o.bs.take t.toNat) : (⟨o.k, o.nm, o.to, d, o.bs.take T⟩ : LOp).op = o.op.cutTo t := by
  rcases hk with hk | hk <;> simp [LOp.op, hk, POp.cutTo, hT]
set_option maxRecDepth 100000 in
set_option maxHeartbeats 4000000 in
theorem Decide_any (r : RS) (s : St) (keep torn : Int) (w : World) (hm : RM w r) (hp : RP r s) (ht : torn ≤ 9223372036854775807) : Calls Try.prog 63 #[.agg r.cells, .agg #[.int .i64 keep, .int .i64 torn]] w (Dev1 r (decideS s keep torn) w) := by
  have M0 := Lib.hid hm
  have P0 := Lib.hid hp
  have hlen := hp.len
  have HLn : Hid (s.ops.length = r.os.length) := by rw [Hid, hp.ops]; simp
  have L00 : Hid (FoldL r s 0 w w r.FA r.FC r.fs) := ⟨hm.fl, hp.K, NewF.refl _ _⟩
  clear hm hp
  obtain ⟨I0, J0, Z0, B0, s0⟩ := three_is w r.cells #[.int .i64 keep, .int .i64 torn]
  have L0 : Hid (FoldL r s 0 w (three w r.cells #[.int .i64 keep, .int .i64 torn]) r.FA r.FC r.fs) := ⟨L00.out.1.on B0, L00.out.2.1, L00.out.2.2⟩
  have HI0 := Lib.hid I0
  have HJ0 := Lib.hid J0
  have HZ0 := Lib.hid Z0
  have HB0 := Lib.hid B0
  clear I0 J0 Z0 B0 s0 L00
  obtain ⟨K, hK⟩ : ∃ K : Nat, max 0 (min keep (r.os.length : Int)) = (K : Int) := ⟨(max 0 (min keep (r.os.length : Int))).toNat, by omega⟩
  have hKn : K ≤ r.os.length := by omega
  have HKc : Hid ((keep < 0 ∧ K = 0) ∨ (0 ≤ keep ∧ keep < r.os.length ∧ (K : Int) = keep) ∨ ((r.os.length : Int) ≤ keep ∧ K = r.os.length)) := by rw [Hid]; omega
  go_enter Try.func63, Try.ntmps63
  go_wp2_with fail
  clear hK
  go_loopw [6, 7] (fun vl vi wr => ∃ (k : Nat) (A : Option Addr) (c : Nat) (fs' : List RFile), k ≤ K ∧ vi = .int .i64 k ∧ vl = .slice A fs'.length c ∧ FoldL r s k w wr A c fs' ∧ IsB wr w.heap.size 68 r.cells ∧ IsB wr (w.heap.size + 1) 32 #[.int .i64 keep, .int .i64 torn] ∧ IsB wr (w.heap.size + 1 + 1) 68 vR0 ∧ Below w.heap.size w wr) (fun _ vi _ => K - (intOf vi).toNat)
  case atStart => exact ⟨0, r.FA, r.FC, r.fs, by omega, rfl, rfl, L0.out, HI0.out, HJ0.out, HZ0.out, HB0.out⟩
  case round =>
    obtain ⟨k, A, c, fs', hk, rfl, rfl, hL, hI, hJ, hZ, hB⟩ := hrel
    have L1 := Lib.hid hL
    have I1 := Lib.hid hI
    have J1 := Lib.hid hJ
    have Z1 := Lib.hid hZ
    have B1 := Lib.hid hB
    have hwl : w.heap.size + 1 + 1 < wr.heap.size := hZ.lt
    clear hL hI hJ hZ hB
    have q1 : wr.cell? ⟨w.heap.size, 1, none⟩ = some (.slice r.OA r.os.length r.OC) := I1.out.cell 1
    have q2 : wr.cell? ⟨w.heap.size, 2, none⟩ = some (.bool r.dn) := I1.out.cell 2
    have q3 : wr.cell? ⟨w.heap.size, 3, none⟩ = some (.int .i64 r.f) := I1.out.cell 3
    have p0 : wr.cell? ⟨w.heap.size + 1, 0, none⟩ = some (.int .i64 keep) := J1.out.cell 0
    have p1 : wr.cell? ⟨w.heap.size + 1, 1, none⟩ = some (.int .i64 torn) := J1.out.cell 1
    obtain ⟨⟨d0, d1, d2, d3⟩, e0, e1, e2, e3⟩ := Z1.out.res
    by_cases hlt : k < K
    · obtain ⟨o, ho⟩ : ∃ o, r.os[k]? = some o := ⟨_, List.getElem?_eq_getElem (by omega)⟩
      obtain ⟨g, hg, hgl, c0, c1, c2, c3⟩ := rowL (M0.out.on B1.out) ho
      rw [hg] at q1
      have hko : k < r.os.length := by omega
      have HC := Lib.hid (fold_round M0.out P0.out B1.out L1.out ho)
      clear ho hg
      go_wp2_with fail
      refine HC.out.mono ?_
      rintro e w2 ⟨A2, c2, fs2, rfl, hL2, hb2⟩
      have L2 := Lib.hid hL2
      have I2 : Hid (IsB w2 w.heap.size 68 r.cells) := I1.out.on hb2
      have J2 : Hid (IsB w2 (w.heap.size + 1) 32 #[.int .i64 keep, .int .i64 torn]) := J1.out.on hb2
      have Z2 : Hid (IsB w2 (w.heap.size + 1 + 1) 68 vR0) := Z1.out.on hb2
      have B2 : Hid (Below w.heap.size w w2) := B1.out.trans (hb2.mono B1.out.size)
      clear hL2 hb2
      go_wp2_with fail
      go_roundw
      case rel => exact ⟨k + 1, A2, c2, fs2, by omega, by go_num, rfl, L2.out, I2.out, J2.out, Z2.out, B2.out⟩
      case measure => simp [intOf]; omega
    · obtain rfl : k = K := by omega
      rcases HKc.out with ⟨hneg, hK0⟩ | ⟨hk0, hkn, hkk⟩ | ⟨hge, hKl⟩
      · subst hK0
        have hng : ¬ (0 ≤ keep) := by omega
        have HA : Hid (∀ m, asc (pl fs') m = lossF s keep torn m) := fun m => by rw [L1.out.2.1 m, lossF, if_pos hneg]; rfl
        go_wp2_with fail
        have fin := decide_fin (keep := keep) (torn := torn) P0.out L1.out.1 HA.out L1.out.2.2 B1.out Z1.out
        exact ret63 (r' := ⟨A, c, fs', none, 0, [], r.dn, r.f⟩) fin.1 rfl rfl fin.2
      · subst hkk
        have hkl : k < r.os.length := by omega
        obtain ⟨o, ho⟩ : ∃ o, r.os[k]? = some o := ⟨_, List.getElem?_eq_getElem hkl⟩
        have HO := Lib.hid ho
        by_cases ht0 : torn < 0
        · have hnt : ¬ (0 ≤ torn) := by omega
          have HA : Hid (∀ m, asc (pl fs') m = lossF s (k : Int) torn m) := fun m => by rw [L1.out.2.1 m, loss_stop s k torn k (P0.out.at_ HO.out) (Int.le_refl _) (.inr (Int.le_refl _)) (fun h => hnt h.2.2)]
          clear ho
          go_wp2_with fail
          have fin := decide_fin (keep := (k : Int)) (torn := torn) P0.out L1.out.1 HA.out L1.out.2.2 B1.out Z1.out
          exact ret63 (r' := ⟨A, c, fs', none, 0, [], r.dn, r.f⟩) fin.1 rfl rfl fin.2
        · obtain ⟨t, rfl⟩ : ∃ t : Nat, torn = (t : Int) := ⟨torn.toNat, by omega⟩
          obtain ⟨g, hg, hgl, c0, c1, c2, c3⟩ := rowL (M0.out.on B1.out) ho
          rw [hg] at q1
          have hmem := List.mem_of_getElem? ho
          have HOk := Lib.hid (M0.out.ok o hmem)
          have HR : Hid (RB wr o.d o.bs) := (M0.out.rb o hmem).on B1.out
          clear ho hg ht0 hmem
          obtain ⟨ok, nm, to, ⟨dA, dl, dc⟩, bs⟩ := o
          have hwl1 : w.heap.size + 1 < wr.heap.size := by omega
          have hwl0 : w.heap.size < wr.heap.size := by omega
          simp only at c0 c1 c2 c3
          have hdl : bs.length = dl := HR.out.1
          have hdc : dl ≤ dc := HR.out.2.1
          by_cases hk2 : ok ≤ 2
          · by_cases htl : t ≤ dl
            · have hmin : min (t : Int) (dl : Int) = (t : Int) := by omega
              have hlt3 : (t : Int) ≤ dl := by omega
              have hlt4 : ¬ ((dl : Int) < t) := by omega
              have hTc : t ≤ dc := by omega
              have HT : Hid (bs.take t = bs.take (t : Int).toNat) := by
                rw [Hid]
                by_cases h : t ≤ dl
                · first | rfl | (congr 1; omega)
                · rw [List.take_of_length_le (by omega), List.take_of_length_le (by omega)]
              have hkk : ok = 1 ∨ ok = 2 := by have := HOk.out.k1; simp only at this; omega
              have RT : Hid (RB wr ⟨dA, t, dc⟩ (bs.take t)) := HR.out.take (by omega)
              have HDo : Hid (Does (foldK s k) ⟨ok, nm, to, ⟨dA, t, dc⟩, bs.take t⟩) := P0.out.ex k (⟨ok, nm, to, ⟨dA, dl, dc⟩, bs⟩ : LOp) HO.out
              have hsm := pl_small L1.out.1.sort L1.out.2.1 (P0.out.ok.pre k)
              have HC : Hid (Calls Try.prog 71 #[.slice A fs'.length c, .agg #[.int .i64 ok, .string nm, .string to, .slice dA t dc]] (wr.alloc (.cells #[.int .i64 ok, .string nm, .string to, .slice dA t dc] 51)) (RDoPost fs' ⟨ok, nm, to, ⟨dA, t, dc⟩, bs.take t⟩ (wr.alloc (.cells #[.int .i64 ok, .string nm, .string to, .slice dA t dc] 51)))) :=
                rdo_any A c fs' ⟨ok, nm, to, ⟨dA, t, dc⟩, bs.take t⟩ _ (L1.out.1.on (bel1 _ _)) (by omega) (RT.out.on (bel1 _ _)) (names_ok _ HOk.out.nm) (names_ok _ HOk.out.to) (by have := HOk.out.len; simp only [List.length_take] at *; omega) (fun x hx => by have := hsm.2 x hx; omega) HOk.out.k1 HOk.out.k4
              have HLs : Hid (lossF s (k : Int) (t : Int) = applyF (foldK s k) (⟨ok, nm, to, ⟨dA, t, dc⟩, bs.take t⟩ : LOp).op) := by
                rw [Hid, loss_torn s k t k (P0.out.at_ HO.out) rfl (LOp.tears.2 hkk) (by omega), ← LOp.cut (o := ⟨ok, nm, to, ⟨dA, dl, dc⟩, bs⟩) ⟨dA, t, dc⟩ t t hkk HT.out]
              have HK1 := HOk.out.k1
              have HK4 := HOk.out.k4
              simp only at HK1 HK4
              clear hsm hkk hdl
              go_wp2_with fail
              refine HC.out.mono ?_
              rintro e w2 ⟨A2, c2', fs2, rfl, hf2, ha2, hn2, hb2⟩
              have F2 := Lib.hid hf2
              have HA : Hid (∀ m, asc (pl fs2) m = lossF s (k : Int) (t : Int) m) := fun m => by
                have hfun : asc (pl fs') = foldK s k := funext L1.out.2.1
                rw [ha2 m, hfun, do_apply HDo.out HK1 HK4, HLs.out]
              have hbr : Below wr.heap.size wr w2 := (bel1 wr _).trans (hb2.mono (by simp))
              have N2 : Hid (NewF w.heap.size r.fs fs2) := L1.out.2.2.trans hn2 (Nat.le_trans B1.out.size (by simp))
              have I2 : Hid (IsB w2 w.heap.size 68 r.cells) := I1.out.on hbr
              have Z2 : Hid (IsB w2 (w.heap.size + 1 + 1) 68 vR0) := Z1.out.on hbr
              have B2 : Hid (Below w.heap.size w w2) := B1.out.trans (hbr.mono B1.out.size)
              have L2 : Hid (FL w2 A2 c2' fs2 ∧ True ∧ NewF w.heap.size r.fs fs2) := ⟨F2.out, trivial, N2.out⟩
              clear hf2 ha2 hn2 hb2 hbr q1 q2 q3 p0 p1 d0 d1 d2 d3 e0 e1 e2 e3 c0 c1 c2 c3
              have q2 : w2.cell? ⟨w.heap.size, 2, none⟩ = some (.bool r.dn) := I2.out.cell 2
              have q3 : w2.cell? ⟨w.heap.size, 3, none⟩ = some (.int .i64 r.f) := I2.out.cell 3
              obtain ⟨⟨d0, d1, d2, d3⟩, e0, e1, e2, e3⟩ := Z2.out.res
              go_wp2_with fail
              have fin := decide_fin (keep := (k : Int)) (torn := (t : Int)) P0.out L2.out.1 HA.out L2.out.2.2 B2.out Z2.out
              exact ret63 (r' := ⟨A2, c2', fs2, none, 0, [], r.dn, r.f⟩) fin.1 rfl rfl fin.2
            · have hlt3 : (dl : Int) < (t : Int) := by omega
              have hmin : min (t : Int) (dl : Int) = (dl : Int) := by omega
              have hTc : dl ≤ dc := by omega
              have HT : Hid (bs.take dl = bs.take (t : Int).toNat) := by
                rw [Hid]
                by_cases h : t ≤ dl
                · first | rfl | (congr 1; omega)
                · rw [List.take_of_length_le (by omega), List.take_of_length_le (by omega)]
              have hkk : ok = 1 ∨ ok = 2 := by have := HOk.out.k1; simp only at this; omega
              have RT : Hid (RB wr ⟨dA, dl, dc⟩ (bs.take dl)) := HR.out.take (by omega)
              have HDo : Hid (Does (foldK s k) ⟨ok, nm, to, ⟨dA, dl, dc⟩, bs.take dl⟩) := P0.out.ex k (⟨ok, nm, to, ⟨dA, dl, dc⟩, bs⟩ : LOp) HO.out
              have hsm := pl_small L1.out.1.sort L1.out.2.1 (P0.out.ok.pre k)
              have HC : Hid (Calls Try.prog 71 #[.slice A fs'.length c, .agg #[.int .i64 ok, .string nm, .string to, .slice dA dl dc]] (wr.alloc (.cells #[.int .i64 ok, .string nm, .string to, .slice dA dl dc] 51)) (RDoPost fs' ⟨ok, nm, to, ⟨dA, dl, dc⟩, bs.take dl⟩ (wr.alloc (.cells #[.int .i64 ok, .string nm, .string to, .slice dA dl dc] 51)))) :=
                rdo_any A c fs' ⟨ok, nm, to, ⟨dA, dl, dc⟩, bs.take dl⟩ _ (L1.out.1.on (bel1 _ _)) (by omega) (RT.out.on (bel1 _ _)) (names_ok _ HOk.out.nm) (names_ok _ HOk.out.to) (by have := HOk.out.len; simp only [List.length_take] at *; omega) (fun x hx => by have := hsm.2 x hx; omega) HOk.out.k1 HOk.out.k4
              have HLs : Hid (lossF s (k : Int) (t : Int) = applyF (foldK s k) (⟨ok, nm, to, ⟨dA, dl, dc⟩, bs.take dl⟩ : LOp).op) := by
                rw [Hid, loss_torn s k t k (P0.out.at_ HO.out) rfl (LOp.tears.2 hkk) (by omega), ← LOp.cut (o := ⟨ok, nm, to, ⟨dA, dl, dc⟩, bs⟩) ⟨dA, dl, dc⟩ t dl hkk HT.out]
              have HK1 := HOk.out.k1
              have HK4 := HOk.out.k4
              simp only at HK1 HK4
              clear hsm hkk hdl
              go_wp2_with fail
              refine HC.out.mono ?_
              rintro e w2 ⟨A2, c2', fs2, rfl, hf2, ha2, hn2, hb2⟩
              have F2 := Lib.hid hf2
              have HA : Hid (∀ m, asc (pl fs2) m = lossF s (k : Int) (t : Int) m) := fun m => by
                have hfun : asc (pl fs') = foldK s k := funext L1.out.2.1
                rw [ha2 m, hfun, do_apply HDo.out HK1 HK4, HLs.out]
              have hbr : Below wr.heap.size wr w2 := (bel1 wr _).trans (hb2.mono (by simp))
              have N2 : Hid (NewF w.heap.size r.fs fs2) := L1.out.2.2.trans hn2 (Nat.le_trans B1.out.size (by simp))
              have I2 : Hid (IsB w2 w.heap.size 68 r.cells) := I1.out.on hbr
              have Z2 : Hid (IsB w2 (w.heap.size + 1 + 1) 68 vR0) := Z1.out.on hbr
              have B2 : Hid (Below w.heap.size w w2) := B1.out.trans (hbr.mono B1.out.size)
              have L2 : Hid (FL w2 A2 c2' fs2 ∧ True ∧ NewF w.heap.size r.fs fs2) := ⟨F2.out, trivial, N2.out⟩
              clear hf2 ha2 hn2 hb2 hbr q1 q2 q3 p0 p1 d0 d1 d2 d3 e0 e1 e2 e3 c0 c1 c2 c3
              have q2 : w2.cell? ⟨w.heap.size, 2, none⟩ = some (.bool r.dn) := I2.out.cell 2
              have q3 : w2.cell? ⟨w.heap.size, 3, none⟩ = some (.int .i64 r.f) := I2.out.cell 3
              obtain ⟨⟨d0, d1, d2, d3⟩, e0, e1, e2, e3⟩ := Z2.out.res
              go_wp2_with fail
              have fin := decide_fin (keep := (k : Int)) (torn := (t : Int)) P0.out L2.out.1 HA.out L2.out.2.2 B2.out Z2.out
              exact ret63 (r' := ⟨A2, c2', fs2, none, 0, [], r.dn, r.f⟩) fin.1 rfl rfl fin.2
          · have hk3 : 2 < ok := by omega
            have hk4 : ¬ (ok ≤ 2) := by omega
            clear hk2 hdl
            have HA : Hid (∀ m, asc (pl fs') m = lossF s (k : Int) (t : Int) m) := fun m => by rw [L1.out.2.1 m, loss_stop s k t k (P0.out.at_ HO.out) (Int.le_refl _) (.inr (Int.le_refl _)) (fun h => by have := LOp.tears.1 h.2.1; simp only at this; omega)]
            go_wp2_with fail
            have fin := decide_fin (keep := (k : Int)) (torn := (t : Int)) P0.out L1.out.1 HA.out L1.out.2.2 B1.out Z1.out
            exact ret63 (r' := ⟨A, c, fs', none, 0, [], r.dn, r.f⟩) (fin.1.alloc _) rfl rfl (fin.2.more (bel1 _ _))
      · subst hKl
        have hge0 : 0 ≤ keep := by omega
        have HA : Hid (∀ m, asc (pl fs') m = lossF s keep torn m) := fun m => by rw [L1.out.2.1 m, loss_all s keep torn (by rw [HLn.out]; exact hge), ← HLn.out, foldK_all]
        go_wp2_with fail
        have fin := decide_fin (keep := keep) (torn := torn) P0.out L1.out.1 HA.out L1.out.2.2 B1.out Z1.out
        exact ret63 (r' := ⟨A, c, fs', none, 0, [], r.dn, r.f⟩) fin.1 rfl rfl fin.2
end Go.Proofs.Ytddjkkmdcdiofaa
