/- Contracts: operation, do of the laws. -/
import Derived.Test.YtddjkkmdcdiofaaTC
import Derived.Outline
namespace Go.Proofs.Ytddjkkmdcdiofaa
open Go.RowKit Go.MapKept Go.ChangeMaps

/-- An operation as a law has it. -/
structure LOp where
  k : Int
  nm : ByteArray
  to : ByteArray
  d : BD
  bs : List UInt8
def LOp.val (o : LOp) : Value := .agg #[.int .i64 o.k, .string o.nm, .string o.to, .slice o.d.A o.d.len o.d.cap]
def LOp.op (o : LOp) : POp := if o.k = 1 then ⟨.create, o.nm, ByteArray.empty, o.bs, true⟩ else if o.k = 2 then ⟨.add, o.nm, ByteArray.empty, o.bs, true⟩ else if o.k = 3 then ⟨.rename, o.nm, o.to, [], false⟩ else ⟨.remove, o.nm, ByteArray.empty, [], false⟩
structure LOp.Ok (o : LOp) : Prop where
  k1 : 1 ≤ o.k
  k4 : o.k ≤ 4
  nm : o.nm ∈ NAMES
  to : o.to ∈ NAMES
  len : o.bs.length ≤ 5
/-- An operation from the tape. -/
def OpT (x N : Nat) (w : World) (e : Ending) (w' : World) : Prop :=
  ∃ o : LOp, o.Ok ∧ e = .returned o.val ∧ RB w' o.d o.bs ∧ (∀ g, blk o.d = some g → w.heap.size ≤ g) ∧ Tp w' x (N + 20) ∧ w.grownBy w' (some x)
abbrev vL (k : Int) (nm to : ByteArray) (v : Value) : Array Value := #[.int .i64 k, .string nm, .string to, v]
abbrev e0 : ByteArray := ⟨#[]⟩
theorem e0_mem : e0 ∈ NAMES := by simp [NAMES]
abbrev set4 (w : World) (g : Nat) (k : Int) (nm to : ByteArray) (v : Value) : World := (((w.setCell ⟨g, 0, none⟩ (.int .i64 k)).setCell ⟨g, 1, none⟩ (.string nm)).setCell ⟨g, 2, none⟩ (.string to)).setCell ⟨g, 3, none⟩ v
theorem set4_is {w : World} {g : Nat} {a : Int} {b c : ByteArray} {d : Value} (h : IsB w g 51 (vL a b c d)) (k : Int) (nm to : ByteArray) (v : Value) : IsB (set4 w g k nm to v) g 51 (vL k nm to v) :=
  (((h.set_ 0 (.int .i64 k)).set_ 1 (.string nm)).set_ 2 (.string to)).set_ 3 v
theorem set4_grow (w : World) (g : Nat) (k : Int) (nm to : ByteArray) (v : Value) : w.grownBy (set4 w g k nm to v) (some g) :=
  g_set (p := ⟨g, 3, none⟩) (g_set (p := ⟨g, 2, none⟩) (g_set (p := ⟨g, 1, none⟩) (g_set (p := ⟨g, 0, none⟩) (g_refl _ _) (.inl rfl) _) (.inl rfl) _) (.inl rfl) _) (.inl rfl) _
theorem g_new {w w1 w' : World} {x g : Nat} (h : w.grownBy w1 (some x)) (hg : w1.grownBy w' (some g)) (hl : w.heap.size ≤ g) : w.grownBy w' (some x) :=
  ⟨hg.os.trans h.os, hg.tape.trans h.tape, hg.output.trans h.output, Nat.le_trans h.size hg.size, fun i hi hne => (hg.block i (Nat.lt_of_lt_of_le hi h.size) (fun e => by injection e with e; omega)).trans (h.block i hi hne)⟩
theorem Tp.new_ {w w' : World} {x N g : Nat} (h : Tp w x N) (hg : w.grownBy w' (some g)) (hx : x < g) : Tp w' x N := h.kept hg (fun k hk => by injection hk with hk; omega)
/-- The operation lies in its block: the result. -/
theorem op_ret {x N : Nat} {w W : World} {a : Act} {k : Int} {nm to : ByteArray} {d : BD} {bs : List UInt8} (hb : IsB W w.heap.size 51 (vL k nm to (.slice d.A d.len d.cap))) (ha : a.defers = []) (h2 : a.eval (.tmp 2) = .pointer (some ⟨w.heap.size, 0, none⟩))
    (hk1 : 1 ≤ k) (hk4 : k ≤ 4) (hnm : nm ∈ NAMES) (hto : to ∈ NAMES) (hl : bs.length ≤ 5) (hr : RB W d bs) (hf : ∀ g, blk d = some g → w.heap.size ≤ g) (ht : Tp W x (N + 20)) (hg : w.grownBy W (some x)) : bodyPost Try.prog Try.f30 (OpT x N w) .ret a W := by
  have c0 : W.cell? ⟨w.heap.size, 0, none⟩ = some (.int .i64 k) := hb.cell 0
  have c1 : W.cell? ⟨w.heap.size, 1, none⟩ = some (.string nm) := hb.cell 1
  have c2 : W.cell? ⟨w.heap.size, 2, none⟩ = some (.string to) := hb.cell 2
  have c3 : W.cell? ⟨w.heap.size, 3, none⟩ = some (.slice d.A d.len d.cap) := hb.cell 3
  refine bodyPost_ret (v := (⟨k, nm, to, d, bs⟩ : LOp).val) ?_ ha ⟨⟨k, nm, to, d, bs⟩, ⟨hk1, hk4, hnm, hto, hl⟩, rfl, hr, hf, ht, hg⟩
  simp [Act.eval] at h2
  simp [results, Try.results30, go_sem, h2, c0, c1, c2, c3, LOp.val]
set_option maxRecDepth 100000 in
set_option maxHeartbeats 4000000 in
theorem operation_any (x N : Nat) (w : World) (hN : N ≤ 800000) (ht : Tp w x N) : Calls Try.prog 30 #[.pointer (some ⟨x, 0, none⟩)] w (OpT x N w) := by
  have Ht := Lib.hid (ht.alloc (.cells (vL 0 e0 e0 (.slice none 0 0)) 51))
  have hxl := ht.lt
  have HI : Hid (IsB (w.alloc (.cells (vL 0 e0 e0 (.slice none 0 0)) 51)) w.heap.size 51 (vL 0 e0 e0 (.slice none 0 0))) := IsB.new _ _ _
  clear ht
  go_enter Try.func30, Try.ntmps30
  go_wp2_with fail
  refine (Next_any 4 x N _ (by omega) (by omega) Ht.out).mono ?_
  rintro e w1 ⟨y, hy, rfl, ht1, hg1⟩
  have I1 := Lib.hid (HI.out.grown hg1 (fun e => by injection e with e; omega))
  have T1 := Lib.hid ht1
  have G1 : Hid (w.grownBy w1 (some x)) := g_trans (World.grownBy_alloc _ _ _) hg1
  have hy0 := hy.1
  have hy1 := hy.2.1 (by omega)
  clear ht1 hg1 hy
  go_wp2_with fail
  refine (name_any x (N + 1) _ (by omega) T1.out).mono ?_
  rintro e w2 ⟨nm, hnm, rfl, ht2, hg2⟩
  have I2 := Lib.hid (I1.out.grown hg2 (fun e => by injection e with e; omega))
  have T2 := Lib.hid ht2
  have G2 : Hid (w.grownBy w2 (some x)) := g_trans G1.out hg2
  have HNm := Lib.hid hnm
  have s2 := G2.out.size
  have s2' := I2.out.lt
  have q0 : w2.cell? ⟨w.heap.size, 0, none⟩ = some (.int .i64 0) := I2.out.cell 0
  have q1 : w2.cell? ⟨w.heap.size, 1, none⟩ = some (.string e0) := I2.out.cell 1
  have q2 : w2.cell? ⟨w.heap.size, 2, none⟩ = some (.string e0) := I2.out.cell 2
  have q3 : w2.cell? ⟨w.heap.size, 3, none⟩ = some (.slice none 0 0) := I2.out.cell 3
  have f0 : w2.frozen? ⟨w.heap.size, 0, none⟩ = false := I2.out.frozen 0
  have f1 : w2.frozen? ⟨w.heap.size, 1, none⟩ = false := I2.out.frozen 1
  have f2 : w2.frozen? ⟨w.heap.size, 2, none⟩ = false := I2.out.frozen 2
  have f3 : w2.frozen? ⟨w.heap.size, 3, none⟩ = false := I2.out.frozen 3
  clear ht2 hg2 hnm
  rcases (by omega : y = 0 ∨ y = 1 ∨ y = 2 ∨ y = 3) with rfl | rfl | rfl | rfl
  · clear hy0 hy1
    go_wp2_with fail
    have J2 : Hid (IsB (w2.alloc (.cells (vL 1 nm e0 (.slice none 0 0)) 51)) w2.heap.size 51 (vL 1 nm e0 (.slice none 0 0))) := IsB.new _ _ _
    have K2 : Hid (IsB (w2.alloc (.cells (vL 1 nm e0 (.slice none 0 0)) 51)) w.heap.size 51 (vL 0 e0 e0 (.slice none 0 0))) := I2.out.alloc _
    refine (Next_any 6 x (N + 1 + 2) _ (by omega) (by omega) (T2.out.alloc _)).mono ?_
    rintro e w3 ⟨z, hz, rfl, ht3, hg3⟩
    have J3 := Lib.hid (J2.out.grown hg3 (fun e => by injection e with e; omega))
    have K3 := Lib.hid (K2.out.grown hg3 (fun e => by injection e with e; omega))
    have T3 := Lib.hid ht3
    have G3 : Hid (w.grownBy w3 (some x)) := g_trans (g_alloc G2.out _) hg3
    have s3 := G3.out.size
    obtain ⟨n, rfl⟩ : ∃ n : Nat, z = (n : Int) := ⟨z.toNat, by have := hz.1; omega⟩
    have hn : n < 6 := by have := hz.2.1 (by omega); omega
    clear ht3 hg3 hz q0 q1 q2 q3 f0 f1 f2 f3
    go_wp2_with fail
    refine (Bytes_any n 4 x (N + 1 + 2 + 1) _ (by omega) (by omega) (by omega) (by omega) T3.out).mono ?_
    rintro e w4 ⟨d, bs, rfl, hbl, hr4, hf4, ht4, hg4⟩
    have J4 := Lib.hid (J3.out.grown hg4 (fun e => by injection e with e; omega))
    have K4 := Lib.hid (K3.out.grown hg4 (fun e => by injection e with e; omega))
    have R4 := Lib.hid hr4
    have F4 : Hid (∀ g, blk d = some g → w.heap.size ≤ g) := fun g hg => by have := hf4 g hg; omega
    have T4 : Hid (Tp w4 x (N + 20)) := ht4.more (by omega)
    have G4 : Hid (w.grownBy w4 (some x)) := g_trans G3.out hg4
    have HBL := Lib.hid hbl
    have hq1 := J4.out.lt
    have hne : w2.heap.size ≠ w.heap.size := by omega
    have hne2 : w.heap.size ≠ w2.heap.size := by omega
    have j0 : w4.cell? ⟨w2.heap.size, 0, none⟩ = some (.int .i64 1) := J4.out.cell 0
    have j1 : w4.cell? ⟨w2.heap.size, 1, none⟩ = some (.string nm) := J4.out.cell 1
    have j2 : w4.cell? ⟨w2.heap.size, 2, none⟩ = some (.string e0) := J4.out.cell 2
    have j3 : w4.cell? ⟨w2.heap.size, 3, none⟩ = some (.slice none 0 0) := J4.out.cell 3
    have k0 : w4.cell? ⟨w.heap.size, 0, none⟩ = some (.int .i64 0) := K4.out.cell 0
    have k1 : w4.cell? ⟨w.heap.size, 1, none⟩ = some (.string e0) := K4.out.cell 1
    have k2 : w4.cell? ⟨w.heap.size, 2, none⟩ = some (.string e0) := K4.out.cell 2
    have k3 : w4.cell? ⟨w.heap.size, 3, none⟩ = some (.slice none 0 0) := K4.out.cell 3
    have jf0 : w4.frozen? ⟨w2.heap.size, 0, none⟩ = false := J4.out.frozen 0
    have jf1 : w4.frozen? ⟨w2.heap.size, 1, none⟩ = false := J4.out.frozen 1
    have jf2 : w4.frozen? ⟨w2.heap.size, 2, none⟩ = false := J4.out.frozen 2
    have jf3 : w4.frozen? ⟨w2.heap.size, 3, none⟩ = false := J4.out.frozen 3
    have kf0 : w4.frozen? ⟨w.heap.size, 0, none⟩ = false := K4.out.frozen 0
    have kf1 : w4.frozen? ⟨w.heap.size, 1, none⟩ = false := K4.out.frozen 1
    have kf2 : w4.frozen? ⟨w.heap.size, 2, none⟩ = false := K4.out.frozen 2
    have kf3 : w4.frozen? ⟨w.heap.size, 3, none⟩ = false := K4.out.frozen 3
    clear hbl hr4 hf4 ht4 hg4
    unfold vB
    go_wp2_with fail
    have gq : w4.grownBy (w4.setCell ⟨w2.heap.size, 3, none⟩ (.slice d.A d.len d.cap)) (some w2.heap.size) := g_set (p := ⟨w2.heap.size, 3, none⟩) (g_refl _ _) (.inl rfl) _
    have KQ : IsB (w4.setCell ⟨w2.heap.size, 3, none⟩ (.slice d.A d.len d.cap)) w.heap.size 51 (vL 0 e0 e0 (.slice none 0 0)) := K4.out.grown gq (fun e => by injection e with e; omega)
    have RQ : RB (w4.setCell ⟨w2.heap.size, 3, none⟩ (.slice d.A d.len d.cap)) d bs := R4.out.grown gq (RB.ne_cell J4.out (by decide) R4.out)
    exact op_ret (set4_is KQ _ _ _ _) rfl rfl (by omega) (by omega) HNm.out e0_mem (by rw [HBL.out]; omega) (RQ.grown (set4_grow _ _ _ _ _ _) (RB.ne_cell KQ (by decide) RQ)) F4.out
      ((T4.out.new_ gq (by omega)).new_ (set4_grow _ _ _ _ _ _) hxl) (g_new (g_new G4.out gq (by omega)) (set4_grow _ _ _ _ _ _) (Nat.le_refl _))
  · clear hy0 hy1
    go_wp2_with fail
    have J2 : Hid (IsB (w2.alloc (.cells (vL 2 nm e0 (.slice none 0 0)) 51)) w2.heap.size 51 (vL 2 nm e0 (.slice none 0 0))) := IsB.new _ _ _
    have K2 : Hid (IsB (w2.alloc (.cells (vL 2 nm e0 (.slice none 0 0)) 51)) w.heap.size 51 (vL 0 e0 e0 (.slice none 0 0))) := I2.out.alloc _
    refine (Next_any 6 x (N + 1 + 2) _ (by omega) (by omega) (T2.out.alloc _)).mono ?_
    rintro e w3 ⟨z, hz, rfl, ht3, hg3⟩
    have J3 := Lib.hid (J2.out.grown hg3 (fun e => by injection e with e; omega))
    have K3 := Lib.hid (K2.out.grown hg3 (fun e => by injection e with e; omega))
    have T3 := Lib.hid ht3
    have G3 : Hid (w.grownBy w3 (some x)) := g_trans (g_alloc G2.out _) hg3
    have s3 := G3.out.size
    obtain ⟨n, rfl⟩ : ∃ n : Nat, z = (n : Int) := ⟨z.toNat, by have := hz.1; omega⟩
    have hn : n < 6 := by have := hz.2.1 (by omega); omega
    clear ht3 hg3 hz q0 q1 q2 q3 f0 f1 f2 f3
    go_wp2_with fail
    refine (Bytes_any n 4 x (N + 1 + 2 + 1) _ (by omega) (by omega) (by omega) (by omega) T3.out).mono ?_
    rintro e w4 ⟨d, bs, rfl, hbl, hr4, hf4, ht4, hg4⟩
    have J4 := Lib.hid (J3.out.grown hg4 (fun e => by injection e with e; omega))
    have K4 := Lib.hid (K3.out.grown hg4 (fun e => by injection e with e; omega))
    have R4 := Lib.hid hr4
    have F4 : Hid (∀ g, blk d = some g → w.heap.size ≤ g) := fun g hg => by have := hf4 g hg; omega
    have T4 : Hid (Tp w4 x (N + 20)) := ht4.more (by omega)
    have G4 : Hid (w.grownBy w4 (some x)) := g_trans G3.out hg4
    have HBL := Lib.hid hbl
    have hq1 := J4.out.lt
    have hne : w2.heap.size ≠ w.heap.size := by omega
    have hne2 : w.heap.size ≠ w2.heap.size := by omega
    have j0 : w4.cell? ⟨w2.heap.size, 0, none⟩ = some (.int .i64 2) := J4.out.cell 0
    have j1 : w4.cell? ⟨w2.heap.size, 1, none⟩ = some (.string nm) := J4.out.cell 1
    have j2 : w4.cell? ⟨w2.heap.size, 2, none⟩ = some (.string e0) := J4.out.cell 2
    have j3 : w4.cell? ⟨w2.heap.size, 3, none⟩ = some (.slice none 0 0) := J4.out.cell 3
    have k0 : w4.cell? ⟨w.heap.size, 0, none⟩ = some (.int .i64 0) := K4.out.cell 0
    have k1 : w4.cell? ⟨w.heap.size, 1, none⟩ = some (.string e0) := K4.out.cell 1
    have k2 : w4.cell? ⟨w.heap.size, 2, none⟩ = some (.string e0) := K4.out.cell 2
    have k3 : w4.cell? ⟨w.heap.size, 3, none⟩ = some (.slice none 0 0) := K4.out.cell 3
    have jf0 : w4.frozen? ⟨w2.heap.size, 0, none⟩ = false := J4.out.frozen 0
    have jf1 : w4.frozen? ⟨w2.heap.size, 1, none⟩ = false := J4.out.frozen 1
    have jf2 : w4.frozen? ⟨w2.heap.size, 2, none⟩ = false := J4.out.frozen 2
    have jf3 : w4.frozen? ⟨w2.heap.size, 3, none⟩ = false := J4.out.frozen 3
    have kf0 : w4.frozen? ⟨w.heap.size, 0, none⟩ = false := K4.out.frozen 0
    have kf1 : w4.frozen? ⟨w.heap.size, 1, none⟩ = false := K4.out.frozen 1
    have kf2 : w4.frozen? ⟨w.heap.size, 2, none⟩ = false := K4.out.frozen 2
    have kf3 : w4.frozen? ⟨w.heap.size, 3, none⟩ = false := K4.out.frozen 3
    clear hbl hr4 hf4 ht4 hg4
    unfold vB
    go_wp2_with fail
    have gq : w4.grownBy (w4.setCell ⟨w2.heap.size, 3, none⟩ (.slice d.A d.len d.cap)) (some w2.heap.size) := g_set (p := ⟨w2.heap.size, 3, none⟩) (g_refl _ _) (.inl rfl) _
    have KQ : IsB (w4.setCell ⟨w2.heap.size, 3, none⟩ (.slice d.A d.len d.cap)) w.heap.size 51 (vL 0 e0 e0 (.slice none 0 0)) := K4.out.grown gq (fun e => by injection e with e; omega)
    have RQ : RB (w4.setCell ⟨w2.heap.size, 3, none⟩ (.slice d.A d.len d.cap)) d bs := R4.out.grown gq (RB.ne_cell J4.out (by decide) R4.out)
    exact op_ret (set4_is KQ _ _ _ _) rfl rfl (by omega) (by omega) HNm.out e0_mem (by rw [HBL.out]; omega) (RQ.grown (set4_grow _ _ _ _ _ _) (RB.ne_cell KQ (by decide) RQ)) F4.out
      ((T4.out.new_ gq (by omega)).new_ (set4_grow _ _ _ _ _ _) hxl) (g_new (g_new G4.out gq (by omega)) (set4_grow _ _ _ _ _ _) (Nat.le_refl _))
  · clear hy0 hy1
    go_wp2_with fail
    have J2 : Hid (IsB (w2.alloc (.cells (vL 3 nm e0 (.slice none 0 0)) 51)) w2.heap.size 51 (vL 3 nm e0 (.slice none 0 0))) := IsB.new _ _ _
    have K2 : Hid (IsB (w2.alloc (.cells (vL 3 nm e0 (.slice none 0 0)) 51)) w.heap.size 51 (vL 0 e0 e0 (.slice none 0 0))) := I2.out.alloc _
    refine (name_any x (N + 1 + 2) _ (by omega) (T2.out.alloc _)).mono ?_
    rintro e w3 ⟨to, hto, rfl, ht3, hg3⟩
    have J3 := Lib.hid (J2.out.grown hg3 (fun e => by injection e with e; omega))
    have K3 := Lib.hid (K2.out.grown hg3 (fun e => by injection e with e; omega))
    have T3 : Hid (Tp w3 x (N + 20)) := ht3.more (by omega)
    have G3 : Hid (w.grownBy w3 (some x)) := g_trans (g_alloc G2.out _) hg3
    have HTo := Lib.hid hto
    have hq1 := J3.out.lt
    have hne : w2.heap.size ≠ w.heap.size := by omega
    have hne2 : w.heap.size ≠ w2.heap.size := by omega
    have j0 : w3.cell? ⟨w2.heap.size, 0, none⟩ = some (.int .i64 3) := J3.out.cell 0
    have j1 : w3.cell? ⟨w2.heap.size, 1, none⟩ = some (.string nm) := J3.out.cell 1
    have j2 : w3.cell? ⟨w2.heap.size, 2, none⟩ = some (.string e0) := J3.out.cell 2
    have j3 : w3.cell? ⟨w2.heap.size, 3, none⟩ = some (.slice none 0 0) := J3.out.cell 3
    have k0 : w3.cell? ⟨w.heap.size, 0, none⟩ = some (.int .i64 0) := K3.out.cell 0
    have k1 : w3.cell? ⟨w.heap.size, 1, none⟩ = some (.string e0) := K3.out.cell 1
    have k2 : w3.cell? ⟨w.heap.size, 2, none⟩ = some (.string e0) := K3.out.cell 2
    have k3 : w3.cell? ⟨w.heap.size, 3, none⟩ = some (.slice none 0 0) := K3.out.cell 3
    have jf0 : w3.frozen? ⟨w2.heap.size, 0, none⟩ = false := J3.out.frozen 0
    have jf1 : w3.frozen? ⟨w2.heap.size, 1, none⟩ = false := J3.out.frozen 1
    have jf2 : w3.frozen? ⟨w2.heap.size, 2, none⟩ = false := J3.out.frozen 2
    have jf3 : w3.frozen? ⟨w2.heap.size, 3, none⟩ = false := J3.out.frozen 3
    have kf0 : w3.frozen? ⟨w.heap.size, 0, none⟩ = false := K3.out.frozen 0
    have kf1 : w3.frozen? ⟨w.heap.size, 1, none⟩ = false := K3.out.frozen 1
    have kf2 : w3.frozen? ⟨w.heap.size, 2, none⟩ = false := K3.out.frozen 2
    have kf3 : w3.frozen? ⟨w.heap.size, 3, none⟩ = false := K3.out.frozen 3
    clear ht3 hg3 hto q0 q1 q2 q3 f0 f1 f2 f3
    go_wp2_with fail
    have gq : w3.grownBy (w3.setCell ⟨w2.heap.size, 2, none⟩ (.string to)) (some w2.heap.size) := g_set (p := ⟨w2.heap.size, 2, none⟩) (g_refl _ _) (.inl rfl) _
    have KQ : IsB (w3.setCell ⟨w2.heap.size, 2, none⟩ (.string to)) w.heap.size 51 (vL 0 e0 e0 (.slice none 0 0)) := K3.out.grown gq (fun e => by injection e with e; omega)
    exact op_ret (d := ⟨none, 0, 0⟩) (bs := []) (set4_is KQ _ _ _ _) rfl rfl (by omega) (by omega) HNm.out HTo.out (by simp) (vd_rb _) (fun g hg => by cases hg)
      ((T3.out.new_ gq (by omega)).new_ (set4_grow _ _ _ _ _ _) hxl) (g_new (g_new G3.out gq (by omega)) (set4_grow _ _ _ _ _ _) (Nat.le_refl _))
  · clear hy0 hy1
    go_wp2_with fail
    exact op_ret (d := ⟨none, 0, 0⟩) (bs := []) ((set4_is I2.out _ _ _ _).alloc _) rfl rfl (by omega) (by omega) HNm.out e0_mem (by simp) (vd_rb _) (fun g hg => by cases hg)
      (((T2.out.more (by omega)).new_ (set4_grow _ _ _ _ _ _) hxl).alloc _) (g_alloc (g_new G2.out (set4_grow _ _ _ _ _ _) (Nat.le_refl _)) _)
end Go.Proofs.Ytddjkkmdcdiofaa
