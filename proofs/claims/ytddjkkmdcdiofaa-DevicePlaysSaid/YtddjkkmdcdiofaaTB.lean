/- Contracts: Bytes, plain, name, loss of the tape. -/
import Derived.Test.YtddjkkmdcdiofaaDF
import Derived.IntWalk
import Derived.Laws.MakeOwn
namespace Go.Proofs.Ytddjkkmdcdiofaa
open Go.RowKit Go.MapKept Go.ChangeMaps

theorem Tp.low {w w' : World} {x N b : Nat} (h : Tp w x N) (hb : Below b w w') (hx : x < b := by omega) : Tp w' x N := by
  obtain ⟨A, c, a, L, h1, h2, h3, h4⟩ := h
  exact ⟨A, c, a, L, (hb.block x hx).trans h1, h2, h3, h4.keep fun b' o hb' => hb.cell (p := ⟨b', o, none⟩) (by show b' < b; omega)⟩
/-- New bytes from the tape. -/
def NewT (n : Nat) (x N : Nat) (w : World) (e : Ending) (w' : World) : Prop :=
  ∃ d bs, e = .returned (vB d) ∧ bs.length = n ∧ RB w' d bs ∧ (∀ g, blk d = some g → w.heap.size ≤ g) ∧ Tp w' x (N + n) ∧ w.grownBy w' (some x)
theorem app_low {w w0 w' : World} {d d' : BD} {bs : List UInt8} (h : AppB w d bs d' w') (hd : ∀ g, blk d = some g → w0.heap.size ≤ g) (h0 : w0.heap.size ≤ w.heap.size) : RB w' d' bs ∧ (∀ g, blk d' = some g → w0.heap.size ≤ g) ∧ Below w0.heap.size w w' := by
  obtain ⟨h1, ⟨e, _, _, hc⟩ | ⟨H, e, hH, hb⟩⟩ := h
  · refine ⟨h1, fun g hg => hd g (by rw [← e]; exact hg), ⟨hc.os, hc.tape, hc.output, hc.size, fun i hi => hc.block i (by omega) (fun h => h) (fun q hq e' => ?_)⟩⟩
    have := hd q.1 (mem_room.1 hq).1
    omega
  · refine ⟨h1, fun g hg => ?_, hb.mono h0⟩
    rw [e] at hg
    injection hg with hg
    omega
theorem g_low {w0 w w' : World} {x : Nat} (h : w0.grownBy w (some x)) (hb : Below w0.heap.size w w') : w0.grownBy w' (some x) :=
  ⟨hb.os.trans h.os, hb.tape.trans h.tape, hb.output.trans h.output, Nat.le_trans h.size hb.size, fun i hi hne => (hb.block i hi).trans (h.block i hi hne)⟩
theorem mk_slice (w : World) (n : Nat) (hn : n ≤ 1000) : ∃ cs : Array Value, n ≤ cs.size ∧ (Instr.makeSlice 22 (.int .i64 0) (.int .i64 n)).run Try.prog w = .ok (.slice (some ⟨w.heap.size, 0, none⟩) 0 n) (w.alloc (.cells cs 5)) := by
  obtain ⟨i0, hi, hz0, hz1, hz2⟩ := info_parts info5
  have := run_makeSlice (P := Try.prog) w 22 5 i0 _ Try.underlying22 hi hz0 .i64 .i64 0 n (by omega) (by omega) (by rw [hz1]; omega) (by rw [hz2]; omega) (by omega)
  simp only [Int.toNat_zero, Int.toNat_natCast] at this
  exact ⟨_, by rw [size_madeCells, hz1]; omega, this⟩
set_option maxRecDepth 100000 in
set_option maxHeartbeats 4000000 in
theorem Bytes_any (n : Nat) (k : Int) (x N : Nat) (w : World) (hn : n ≤ 100) (hk : 1 < k) (hk2 : k ≤ 256) (hN : N ≤ 900000) (ht : Tp w x N) :
    Calls Try.prog 25 #[.pointer (some ⟨x, 0, none⟩), .int .i64 n, .int .i64 k] w (NewT n x N w) := by
  have Ht := Lib.hid ht
  have hxl := ht.lt
  clear ht
  obtain ⟨cs, hcs, hmk⟩ := mk_slice w n (by omega)
  have hmx : max (n : Int) 0 = n := by omega
  have hneg : ¬ ((n : Int) < 0) := by omega
  have R0 : Hid (RB (w.alloc (.cells cs 5)) ⟨some ⟨w.heap.size, 0, none⟩, 0, n⟩ []) := new_bytes w cs _ _ _ _ rfl rfl (Nat.zero_le _) hcs (by simp)
  go_enter Try.func25, Try.ntmps25
  go_wp2_with fail
  go_loopw [7, 8] (fun v i wr => ∃ (j : Nat) (d : BD) (bs : List UInt8), j ≤ n ∧ i = .int .i64 j ∧ v = .slice d.A d.len d.cap ∧ Hid (bs.length = j) ∧ RB wr d bs ∧ (∀ g, blk d = some g → w.heap.size ≤ g) ∧ Tp wr x (N + j) ∧ w.grownBy wr (some x)) (fun _ i _ => n - (intOf i).toNat)
  case atStart => exact ⟨0, ⟨some ⟨w.heap.size, 0, none⟩, 0, n⟩, [], by omega, rfl, rfl, rfl, R0.out, (fun g hg => by simp [blk] at hg; omega), Ht.out.alloc _, World.grownBy_alloc _ _ _⟩
  case round =>
    obtain ⟨j, d, bs, hj, rfl, rfl, HL, hr, hf, ht, hg⟩ := hrel
    have HR := Lib.hid hr
    have HF := Lib.hid hf
    have HT := Lib.hid ht
    have HG := Lib.hid hg
    have hgs := hg.size
    clear hr hf ht hg hmk
    by_cases hlt : j < n
    · go_wp2_with (first
        | (go_at_call 23; refine halt_ ?_)
        | (at_builtin; refine halt_ ?_))
      refine (Next_any k x (N + j) _ (by omega) (by omega) HT.out).mono ?_
      rintro e w1 ⟨y, hy, rfl, ht1, hg1⟩
      have hy0 := hy.1
      have hy1 := hy.2.1 hk
      have hyw : IntKind.u8.wrap y = y := IntWalk.u8_in y (by omega)
      obtain ⟨yb, hyb⟩ : ∃ yb : UInt8, ((yb.toNat : Nat) : Int) = y := ⟨UInt8.ofNat y.toNat, by rw [UInt8.toNat_ofNat']; omega⟩
      subst hyb
      have R1 : Hid (RB w1 d bs) := HR.out.grown hg1 (fun e => by have := HF.out x e; omega)
      have T1 := Lib.hid ht1
      have G1 : Hid (w.grownBy w1 (some x)) := g_trans HG.out hg1
      have g1s := G1.out.size
      clear ht1 hg1 hy
      go_wp2_with (at_builtin; refine halt_ ?_)
      have S1 : Hid (SB (w1.alloc (.cells #[.int .u8 ((yb.toNat : Nat) : Int)] 5)) (some ⟨w1.heap.size, 0, none⟩) [yb]) := sb_const w1 _ rfl [yb] (0, 0)
      refine wpList_append_bytes rfl _ _ rfl d bs rfl (R1.out.on (bel1 _ _)) (some ⟨w1.heap.size, 0, none⟩) 1 [yb] rfl S1.out (by rw [HL.out]; simp only [List.length_cons, List.length_nil]; omega) ?_
      intro d2 w2 hl2 happ
      obtain ⟨r1, r2, r3⟩ := app_low (w0 := w) happ HF.out (by simp; omega)
      have R2 := Lib.hid r1
      have F2 := Lib.hid r2
      have T2 : Hid (Tp w2 x (N + (j + 1))) := by
        have := (T1.out.alloc (.cells #[.int .u8 ((yb.toNat : Nat) : Int)] 5)).low r3
        rwa [Nat.add_assoc] at this
      have G2 : Hid (w.grownBy w2 (some x)) := g_low (g_alloc G1.out _) r3
      have HL2 : Hid ((bs ++ [yb]).length = j + 1) := by rw [Hid, List.length_append, HL.out]; rfl
      clear r1 r2 r3 happ hl2 hyw hy0 hy1
      unfold vB
      go_wp2_with fail
      go_roundw
      case rel => exact ⟨j + 1, d2, bs ++ [yb], by omega, by go_num, rfl, HL2.out, R2.out, F2.out, T2.out, G2.out⟩
      case measure => simp [intOf]; omega
    · obtain rfl : j = n := by omega
      go_wp2_with fail
      go_ret
      exact ⟨d, bs, rfl, HL.out, HR.out, HF.out, HT.out, HG.out⟩
end Go.Proofs.Ytddjkkmdcdiofaa
