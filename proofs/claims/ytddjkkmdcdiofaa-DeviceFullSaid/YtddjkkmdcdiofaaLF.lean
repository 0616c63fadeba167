/- Walks of laws: Full. -/
import Derived.Test.YtddjkkmdcdiofaaLA
import Derived.Test.YtddjkkmdcdiofaaNA
import Derived.IntWalk
namespace Go.Proofs.Ytddjkkmdcdiofaa
open Go.RowKit Go.MapKept Go.ChangeMaps

theorem Names_L {b p : Nat} {s : St} {w : World} {R : List (BD × List UInt8)} (h : LDev b w p s R) : Calls Try.prog 35 #[.pointer (some ⟨p, 0, none⟩)] w (NamesPost s.now w) := by
  obtain ⟨_, r, h1, _⟩ := h
  exact Names_any p r s w h1
def fb (j : Nat) : List UInt8 := [102, UInt8.ofNat (97 + j / 16), UInt8.ofNat (97 + j % 16)]
def fname (j : Nat) : ByteArray := ⟨(fb j).toArray⟩
abbrev nG : ByteArray := ⟨#[103]⟩
theorem okG : okS nG := by simp [okS, maxLen, ByteArray.size]
theorem ok_fname (j : Nat) : okS (fname j) := by simp [okS, maxLen, fname, fb, ByteArray.size]
theorem fname_valid : ∀ j : Fin 256, nameB (fname j.val) = true := by decide +kernel
theorem fname_inj {i j : Nat} (hi : i < 256) (hj : j < 256) (h : fname i = fname j) : i = j := by
  have h1 : (fb i) = (fb j) := by
    have := congrArg (fun x : ByteArray => x.data.toList) h
    simpa [fname] using this
  simp only [fb, List.cons.injEq, true_and, and_true] at h1
  have h2 := congrArg UInt8.toNat h1.1
  have h3 := congrArg UInt8.toNat h1.2
  rw [UInt8.toNat_ofNat', UInt8.toNat_ofNat'] at h2 h3
  omega
theorem fname_g (j : Nat) : fname j ≠ nG := by
  intro h
  have := congrArg (fun x : ByteArray => x.data.size) h
  simp [fname, fb] at this
/-- The device with the first i files. -/
structure FU (i : Nat) (s : St) : Prop where
  dn : s.dn = false
  f : s.f = 0
  len : s.ops.length = i
  cnt : Cnt s.now i
  has : ∀ j, j < 256 → ((s.now (fname j)).isSome = true ↔ j < i)
  g : s.now nG = none
theorem FU.step {i : Nat} {s : St} (h : FU i s) (hi : i < 256) : FU (i + 1) { s with ops := s.ops ++ [⟨.create, fname i, ByteArray.empty, [], true⟩] } := by
  have hn : (s.now (fname i)).isSome ≠ true := fun e => by have := (h.has i hi).1 e; omega
  have e : St.now { s with ops := s.ops ++ [⟨.create, fname i, ByteArray.empty, [], true⟩] } = s.now.set (fname i) (some []) := by simp [St.now, applyF]
  refine ⟨h.dn, h.f, by simp [h.len], ?_, fun j hj => ?_, ?_⟩
  · rw [e]
    have := h.cnt.put (fname i) []
    rwa [if_neg hn] at this
  · rw [e]
    unfold FF.set
    by_cases he : fname i = fname j
    · rw [if_pos he]
      have := fname_inj hi hj he
      subst this
      simp
    · rw [if_neg he, h.has j hj]
      constructor
      · intro h1; omega
      · intro h1
        have : j ≠ i := fun e2 => he (by rw [e2])
        omega
  · rw [e]
    unfold FF.set
    rw [if_neg (fname_g i)]
    exact h.g
theorem gate_remove {s : St} {n : Nat} {nm : ByteArray} (hd : s.dn = false) (hn : nameB nm = true) (hs : (s.now nm).isSome = true) : gate s n ⟨.remove, nm, ByteArray.empty, [], false⟩ = 0 := by
  simp [gate, hd, hn, hs]
theorem gate_full {s : St} {n : Nat} {nm : ByteArray} (hd : s.dn = false) (hn : nameB nm = true) (hs : (s.now nm).isSome = false) (h : 256 ≤ n) : gate s n ⟨.create, nm, ByteArray.empty, [], true⟩ = 302 := by
  simp [gate, hd, hn, hs, h]
theorem req_ok' {s : St} {n : Nat} {o : POp} (hf : s.f = 0) (hg : gate s n o = 0) : reqE s n o = 0 ∧ reqS s n o = { s with ops := s.ops ++ [o] } := req_ok hg hf
theorem now_snoc (s : St) (o : POp) : St.now { s with ops := s.ops ++ [o] } = applyF s.now o := by simp [St.now]
set_option maxRecDepth 100000 in
set_option maxHeartbeats 8000000 in
theorem law8 (n0 : Int) (w : World) : Calls Try.prog 8 #[.int .i64 n0] w (Gives (.bool true) w) := by
  have kc := fun (w : World) (C : Array Value) (n c : Nat) => Lib.run_convert_bytes_const (P := Try.prog) w 22 5 C n c Try.underlying22 Try.underlying5
  have KC := Lib.hid kc
  clear kc
  go_enter Try.func8, Try.ntmps8
  go_wp2_with fail
  refine (New_any _).mono ?_
  rintro e w1 ⟨rfl, hd, hb⟩
  have D_w1 : Hid (LDev w.heap.size w1 (w.heap.size + 2) St.new) := LDev.new hd hb
  have B_w1 : Hid (Below w.heap.size w w1) := (Below.refl w.heap.size w).trans (hb.mono (Below.refl w.heap.size w).size)
  clear hd hb
  go_wp2_with fail
  refine (known_any _).mono ?_
  rintro e w2 ⟨rfl, hb⟩
  have D_w2 : Hid (LDev w.heap.size w2 (w.heap.size + 2) (St.new) []) := D_w1.out.on hb
  have B_w2 : Hid (Below w.heap.size w w2) := B_w1.out.trans (hb.mono B_w1.out.size)
  clear hb
  have F0 : Hid (FU 0 St.new) := ⟨rfl, rfl, rfl, Cnt.none, fun j _ => by simp [St.now, St.new], rfl⟩
  go_wp2_with fail
  go_loopw [4] (fun v wr => ∃ (i : Nat) (s : St), i ≤ 256 ∧ v = .int .i64 i ∧ FU i s ∧ LDev w.heap.size wr (w.heap.size + 2) s ∧ Below w.heap.size w wr) (fun v _ => 256 - (intOf v).toNat)
  case atStart => exact ⟨0, _, by omega, rfl, F0.out, D_w2.out, B_w2.out⟩
  case round =>
    obtain ⟨i, st, hi, rfl, hfu, hd, hb⟩ := hrel
    have FU1 := Lib.hid hfu
    have D_wr := Lib.hid hd
    have B_wr := Lib.hid hb
    have hLs : st.ops.length ≤ 256 := by rw [hfu.len]; omega
    clear hfu hd hb F0
    by_cases hlt : i < 256
    · have hq : (97 : Int) + (i : Int) / 16 = ((97 + i / 16 : Nat) : Int) := by omega
      have hr : (97 : Int) + (i : Int) % 16 = ((97 + i % 16 : Nat) : Int) := by omega
      have u1 : IntKind.u8.wrap ((97 : Int) + (i : Int) / 16) = (97 : Int) + (i : Int) / 16 := IntWalk.u8_in _ (by omega)
      have u2 : IntKind.u8.wrap ((97 : Int) + (i : Int) % 16) = (97 : Int) + (i : Int) % 16 := IntWalk.u8_in _ (by omega)
      have hcv : (convert 22 9 (.slice (some ⟨wr.heap.size, 0, none⟩) 3 3)).run Try.prog (wr.alloc (.cells #[.int .u8 102, .int .u8 (97 + (i : Int) / 16), .int .u8 (97 + (i : Int) % 16)] 5)) = .ok (.string (fname i)) (wr.alloc (.cells #[.int .u8 102, .int .u8 (97 + (i : Int) / 16), .int .u8 (97 + (i : Int) % 16)] 5)) := by
        have h1 := conv_str (sb_const wr _ rfl (fb i) (0, 0)) 3
        have e : ((fb i).map encU).toArray = #[.int .u8 102, .int .u8 (97 + (i : Int) / 16), .int .u8 (97 + (i : Int) % 16)] := by
          simp only [fb, encU, List.map_cons, List.map_nil]
          have a1 : (UInt8.ofNat (97 + i / 16)).toNat = 97 + i / 16 := by rw [UInt8.toNat_ofNat']; omega
          have a2 : (UInt8.ofNat (97 + i % 16)).toNat = 97 + i % 16 := by rw [UInt8.toNat_ofNat']; omega
          rw [a1, a2, ← hq, ← hr]
          rfl
        rw [e] at h1
        exact h1
      clear hq hr
      go_wp2_with fail
      refine (Create_L (fname i) none 0 [] (D_wr.out.on (bel1 _ _)) (ok_fname i) ⟨fun _ => rfl, (fun ad e => by cases e)⟩ (by omega) (by simp)).mono ?_
      rintro e w21 ⟨n, hn, he, hd, hb⟩
      obtain ⟨e1, e2⟩ := req_ok (s := st) (n := n) (o := ⟨.create, fname i, ByteArray.empty, [], true⟩) (gate_create (nm := fname i) (bs := []) FU1.out.dn (fname_valid ⟨i, hlt⟩) (by simp) (.inr (by have := hn.uniq FU1.out.cnt; omega))) FU1.out.f
      rw [e1] at he; rw [e2] at hd; subst he
      have D_w21 : Hid (LDev w.heap.size w21 (w.heap.size + 2) ({ (st : St) with ops := (st : St).ops ++ [⟨.create, fname i, ByteArray.empty, [], true⟩] }) []) := hd
      have B_w21 : Hid (Below w.heap.size w w21) := (bAl B_wr.out _).trans hb
      clear hd hb e1 e2 hn
      have FU2 := Lib.hid (FU1.out.step hlt)
      clear hcv u1 u2
      go_wp2_with fail
      go_roundw
      case rel => exact ⟨i + 1, _, by omega, by go_num, FU2.out, D_w21.out, B_w21.out⟩
      case measure => simp [intOf]; omega
    · obtain rfl : i = 256 := by omega
      go_wp2_with fail
      refine (Fold_any n0 256 _ (by omega)).mono ?_
      rintro e wf ⟨x, hx, rfl, rfl⟩
      obtain ⟨m, rfl⟩ : ∃ m : Nat, x = (m : Int) := ⟨x.toNat, by have := hx.1; omega⟩
      have hm : m < 256 := by have := hx.2.1 (by omega); omega
      clear hx
      have hq : (97 : Int) + (m : Int) / 16 = ((97 + m / 16 : Nat) : Int) := by omega
      have hr : (97 : Int) + (m : Int) % 16 = ((97 + m % 16 : Nat) : Int) := by omega
      have u1 : IntKind.u8.wrap ((97 : Int) + (m : Int) / 16) = (97 : Int) + (m : Int) / 16 := IntWalk.u8_in _ (by omega)
      have u2 : IntKind.u8.wrap ((97 : Int) + (m : Int) % 16) = (97 : Int) + (m : Int) % 16 := IntWalk.u8_in _ (by omega)
      have hcv : (convert 22 9 (.slice (some ⟨wr.heap.size, 0, none⟩) 3 3)).run Try.prog (wr.alloc (.cells #[.int .u8 102, .int .u8 (97 + (m : Int) / 16), .int .u8 (97 + (m : Int) % 16)] 5)) = .ok (.string (fname m)) (wr.alloc (.cells #[.int .u8 102, .int .u8 (97 + (m : Int) / 16), .int .u8 (97 + (m : Int) % 16)] 5)) := by
        have h1 := conv_str (sb_const wr _ rfl (fb m) (0, 0)) 3
        have e : ((fb m).map encU).toArray = #[.int .u8 102, .int .u8 (97 + (m : Int) / 16), .int .u8 (97 + (m : Int) % 16)] := by
          simp only [fb, encU, List.map_cons, List.map_nil]
          have a1 : (UInt8.ofNat (97 + m / 16)).toNat = 97 + m / 16 := by rw [UInt8.toNat_ofNat']; omega
          have a2 : (UInt8.ofNat (97 + m % 16)).toNat = 97 + m % 16 := by rw [UInt8.toNat_ofNat']; omega
          rw [a1, a2, ← hq, ← hr]
          rfl
        rw [e] at h1
        exact h1
      clear hq hr
      have hgn : nameB nG = true := by decide +kernel
      have hmv : nameB (fname m) = true := fname_valid ⟨m, hm⟩
      have HGN := Lib.hid hgn
      have HMV := Lib.hid hmv
      have HAS : Hid ((st.now (fname m)).isSome = true) := (FU1.out.has m hm).2 hm
      have kc := KC.out
      clear hgn hmv
      go_wp2_with fail
      refine (Create_L nG none 0 [] (D_wr.out.on (bel1 _ _)) okG ⟨fun _ => rfl, (fun ad e => by cases e)⟩ (by omega) (by simp)).mono ?_
      rintro e w41 ⟨n, hn, he, hd, hb⟩
      obtain ⟨e1, e2⟩ := req_no (s := st) (n := n) (o := ⟨.create, nG, ByteArray.empty, [], true⟩) (v := 302) (gate_full FU1.out.dn HGN.out (by rw [FU1.out.g]; rfl) (by have := hn.uniq FU1.out.cnt; omega)) (by decide)
      rw [e1] at he; rw [e2] at hd; subst he
      have D_w41 : Hid (LDev w.heap.size w41 (w.heap.size + 2) (st) []) := hd
      have B_w41 : Hid (Below w.heap.size w w41) := (bAl B_wr.out _).trans hb
      clear hd hb e1 e2 hn
      go_wp2_with fail
      have hs1 : Hid (SB (w41.alloc (.cells #[.int .u8 120] 5 (1, 2))) (some ⟨w41.heap.size, 0, none⟩) [120]) := sb_const w41 _ rfl [120] (1, 2)
      go_wp2_with fail
      refine (Create_L (fname m) _ 1 [120] (D_w41.out.on (bel1 _ _)) (ok_fname m) hs1.out (by omega) (by simp)).mono ?_
      rintro e w42 ⟨n, hn, he, hd, hb⟩
      obtain ⟨e1, e2⟩ := req_ok (s := st) (n := n) (o := ⟨.create, fname m, ByteArray.empty, [120], true⟩) (gate_create (nm := fname m) (bs := [120]) FU1.out.dn HMV.out (by simp) (.inl HAS.out)) FU1.out.f
      rw [e1] at he; rw [e2] at hd; subst he
      have D_w42 : Hid (LDev w.heap.size w42 (w.heap.size + 2) ({ (st : St) with ops := (st : St).ops ++ [⟨.create, fname m, ByteArray.empty, [120], true⟩] }) []) := hd
      have B_w42 : Hid (Below w.heap.size w w42) := (bAl B_w41.out _).trans hb
      clear hd hb e1 e2 hn
      obtain ⟨s2, hs2⟩ : ∃ s2 : St, s2 = { st with ops := st.ops ++ [⟨.create, fname m, ByteArray.empty, [120], true⟩] } := ⟨_, rfl⟩
      have E2 : Hid (s2.now = st.now.set (fname m) (some [120])) := by rw [Hid, hs2, now_snoc]; rfl
      have X2 : Hid (s2.dn = false ∧ s2.f = 0 ∧ s2.ops.length ≤ 300) := by rw [hs2]; exact ⟨FU1.out.dn, FU1.out.f, by simp; omega⟩
      have C2 : Hid (Cnt s2.now 256) := by rw [Hid, E2.out]; have := FU1.out.cnt.put (fname m) [120]; rwa [if_pos HAS.out] at this
      have Y2 : Hid (s2.now nG = none) := by rw [Hid, E2.out]; unfold FF.set; rw [if_neg (fname_g m)]; exact FU1.out.g
      have Z2 : Hid ((s2.now (fname m)).isSome = true) := by rw [Hid, E2.out]; simp [FF.set]
      have D2_w42 : Hid (LDev w.heap.size w42 (w.heap.size + 2) s2 []) := by rw [hs2]; exact D_w42.out
      clear hs2 D_w42
      go_wp2_with fail
      refine (Append_L nG none 0 [] D2_w42.out okG ⟨fun _ => rfl, (fun ad e => by cases e)⟩ (by have := X2.out.2.2; omega) (by simp)).mono ?_
      rintro e w43 ⟨n, hn, he, hd, hb⟩
      obtain ⟨e1, e2⟩ := req_no (s := s2) (n := n) (o := ⟨.add, nG, ByteArray.empty, [], true⟩) (v := 301) (by simp [gate, X2.out.1, HGN.out, Y2.out]) (by decide)
      rw [e1] at he; rw [e2] at hd; subst he
      have D2_w43 : Hid (LDev w.heap.size w43 (w.heap.size + 2) (s2) []) := hd
      have B_w43 : Hid (Below w.heap.size w w43) := B_w42.out.trans hb
      clear hd hb e1 e2 hn
      go_wp2_with fail
      refine (Delete_L (fname m) D2_w43.out (ok_fname m) (by have := X2.out.2.2; omega)).mono ?_
      rintro e w44 ⟨n, hn, he, hd, hb⟩
      obtain ⟨e1, e2⟩ := req_ok (s := s2) (n := n) (o := ⟨.remove, fname m, ByteArray.empty, [], false⟩) (gate_remove X2.out.1 HMV.out Z2.out) X2.out.2.1
      rw [e1] at he; rw [e2] at hd; subst he
      have D2_w44 : Hid (LDev w.heap.size w44 (w.heap.size + 2) ({ (s2 : St) with ops := (s2 : St).ops ++ [⟨.remove, fname m, ByteArray.empty, [], false⟩] }) []) := hd
      have B_w44 : Hid (Below w.heap.size w w44) := B_w43.out.trans hb
      clear hd hb e1 e2 hn
      obtain ⟨s3, hs3⟩ : ∃ s3 : St, s3 = { s2 with ops := s2.ops ++ [⟨.remove, fname m, ByteArray.empty, [], false⟩] } := ⟨_, rfl⟩
      have E3 : Hid (s3.now = s2.now.set (fname m) none) := by rw [Hid, hs3, now_snoc]; rfl
      have X3 : Hid (s3.dn = false ∧ s3.f = 0 ∧ s3.ops.length ≤ 301) := by rw [hs3]; exact ⟨X2.out.1, X2.out.2.1, by have := X2.out.2.2; simp; omega⟩
      have C3 : Hid (Cnt s3.now 255) := by rw [Hid, E3.out]; have := C2.out.drop (fname m); rwa [if_pos Z2.out] at this
      have Y3 : Hid (s3.now nG = none ∧ s3.now (fname m) = none) := by rw [Hid, E3.out]; unfold FF.set; rw [if_neg (fname_g m), if_pos rfl]; exact ⟨Y2.out, rfl⟩
      have D3_w44 : Hid (LDev w.heap.size w44 (w.heap.size + 2) s3 []) := by rw [hs3]; exact D2_w44.out
      clear hs3 D2_w44
      go_wp2_with fail
      refine (Create_L nG none 0 [] D3_w44.out okG ⟨fun _ => rfl, (fun ad e => by cases e)⟩ (by have := X3.out.2.2; omega) (by simp)).mono ?_
      rintro e w45 ⟨n, hn, he, hd, hb⟩
      obtain ⟨e1, e2⟩ := req_ok (s := s3) (n := n) (o := ⟨.create, nG, ByteArray.empty, [], true⟩) (gate_create (nm := nG) (bs := []) X3.out.1 HGN.out (by simp) (.inr (by have := hn.uniq C3.out; omega))) X3.out.2.1
      rw [e1] at he; rw [e2] at hd; subst he
      have D3_w45 : Hid (LDev w.heap.size w45 (w.heap.size + 2) ({ (s3 : St) with ops := (s3 : St).ops ++ [⟨.create, nG, ByteArray.empty, [], true⟩] }) []) := hd
      have B_w45 : Hid (Below w.heap.size w w45) := B_w44.out.trans hb
      clear hd hb e1 e2 hn
      obtain ⟨s4, hs4⟩ : ∃ s4 : St, s4 = { s3 with ops := s3.ops ++ [⟨.create, nG, ByteArray.empty, [], true⟩] } := ⟨_, rfl⟩
      have E4 : Hid (s4.now = s3.now.set nG (some [])) := by rw [Hid, hs4, now_snoc]; rfl
      have X4 : Hid (s4.dn = false ∧ s4.f = 0 ∧ s4.ops.length ≤ 302) := by rw [hs4]; exact ⟨X3.out.1, X3.out.2.1, by have := X3.out.2.2; simp; omega⟩
      have C4 : Hid (Cnt s4.now 256) := by rw [Hid, E4.out]; have := C3.out.put nG []; rwa [if_neg (by rw [Y3.out.1]; simp)] at this
      have Y4 : Hid (s4.now (fname m) = none) := by rw [Hid, E4.out]; unfold FF.set; rw [if_neg (fun e => fname_g m e.symm)]; exact Y3.out.2
      have D4_w45 : Hid (LDev w.heap.size w45 (w.heap.size + 2) s4 []) := by rw [hs4]; exact D3_w45.out
      clear hs4 D3_w45
      go_wp2_with fail
      refine (Create_L (fname m) none 0 [] D4_w45.out (ok_fname m) ⟨fun _ => rfl, (fun ad e => by cases e)⟩ (by have := X4.out.2.2; omega) (by simp)).mono ?_
      rintro e w46 ⟨n, hn, he, hd, hb⟩
      obtain ⟨e1, e2⟩ := req_no (s := s4) (n := n) (o := ⟨.create, fname m, ByteArray.empty, [], true⟩) (v := 302) (gate_full X4.out.1 HMV.out (by rw [Y4.out]; rfl) (by have := hn.uniq C4.out; omega)) (by decide)
      rw [e1] at he; rw [e2] at hd; subst he
      have D4_w46 : Hid (LDev w.heap.size w46 (w.heap.size + 2) (s4) []) := hd
      have B_w46 : Hid (Below w.heap.size w w46) := B_w45.out.trans hb
      clear hd hb e1 e2 hn
      go_wp2_with fail
      refine (Names_L D4_w46.out).mono ?_
      rintro e w47 ⟨NA, Nc, ns, rfl, hls, hrs, hb⟩
      have HNL : ns.length = 256 := Cnt.uniq (f := s4.now) ⟨ns, hls.nodup, hls.mem, rfl⟩ C4.out
      have D4_w47 : Hid (LDev w.heap.size w47 (w.heap.size + 2) (s4) []) := D4_w46.out.on hb
      have B_w47 : Hid (Below w.heap.size w w47) := B_w46.out.trans (hb.mono B_w46.out.size)
      clear hls hrs hb
      rw [HNL]
      clear HNL
      go_wp2_with fail
      go_ret
      exact ⟨rfl, B_w47.out⟩
end Go.Proofs.Ytddjkkmdcdiofaa
