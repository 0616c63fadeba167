/- The law's state: a device, the reference's device, a tape. -/
import Derived.Test.YtddjkkmdcdiofaaRT
import Derived.Test.YtddjkkmdcdiofaaLA
namespace Go.Proofs.Ytddjkkmdcdiofaa
open Go.RowKit Go.MapKept Go.ChangeMaps

theorem tape0R {A : Option Addr} {l : List Int} {c : Nat} {w : World} (hr : RdT w w.heap.size A l) (hn : l.length ≤ 9223372036854775807) : Tp (w.alloc (.cells #[.slice A l.length c, .int .i64 0] 39)) w.heap.size 0 :=
  ⟨A, c, 0, l, IsB.new _ _ _, Nat.le_refl _, hn, hr.keep fun b o hb => ((Below.refl w.heap.size w).alloc (Nat.le_refl _) _).cell (p := ⟨b, o, none⟩) hb⟩
theorem law_endR {w w' : World} (h : w.grownBy w' (some w.heap.size)) : Below w.heap.size w w' :=
  ⟨h.os, h.tape, h.output, h.size, fun i hi => h.block i hi (fun e => by injection e with e; omega)⟩
theorem g_low1R {w w1 w' : World} (h : w.grownBy w1 (some w.heap.size)) (hb : Below (w.heap.size + 1) w1 w') : w.grownBy w' (some w.heap.size) :=
  ⟨hb.os.trans h.os, hb.tape.trans h.tape, hb.output.trans h.output, Nat.le_trans h.size hb.size, fun i hi hne => (hb.block i (by omega)).trans (h.block i hi hne)⟩
abbrev nZ : ByteArray := ⟨#[122]⟩
theorem RDo_any (r : RS) (s : St) (o : LOp) (n : Nat) (w : World) (hm : RM w r) (hp : RP r s) (ho : o.Ok) (hr : RB w o.d o.bs) (hn : Cnt s.now n) (hok : Ok (reqS s n o.op)) (hlo : r.os.length < 1000) :
    Calls Try.prog 45 #[.agg r.cells, o.val] w (DevE r (reqS s n o.op) (reqE s n o.op) w) := by
  obtain ⟨k, nm, to, ⟨B, m, cc⟩, bs⟩ := o
  obtain rfl : bs.length = m := hr.1
  have h1 := ho.k1
  have h4 := ho.k4
  simp only at h1 h4
  have hk : k = 1 ∨ k = 2 ∨ k = 3 ∨ k = 4 := by omega
  rcases hk with rfl | rfl | rfl | rfl
  · exact RDo1_any r s nm to B cc bs n w hm hp ho hr hn hok hlo
  · exact RDo2_any r s nm to B cc bs n w hm hp ho hr hn hok hlo
  · exact RDo3_any r s nm to B cc bs n w hm hp ho hr hn hok hlo
  · exact RDo4_any r s nm to B cc bs n w hm hp ho hr hn hok hlo
/-- A device beside a block of another type that is written. -/
theorem DV.other {p g : Nat} {t : TypeId} {cs : Array Value} {w w' : World} {r : Rp} {s : St} (h : DV w p r s) (hx : IsB w g t cs) (h5 : t ≠ 5) (h81 : t ≠ 81) (h88 : t ≠ 88) (hg : w.grownBy w' (some g)) : DV w' p r s := by
  have own : ∀ i, r.own p i → i ≠ g := by
    rintro i hi rfl
    rcases hi with rfl | rfl | rfl | e
    · exact absurd (IsB.type hx h.dev.cells) h81
    · exact is_map h.dev.kept.1 hx
    · exact is_map h.dev.now.1 hx
    · obtain ⟨cur, hcur⟩ := row_is h.dev.pend e
      exact absurd (IsB.type hx hcur) h88
  refine ⟨h.dev.ch (grown_ch hg []) (fun i hi => ⟨own i hi, by simp⟩) (fun d hd => ⟨fun g hg' e => ?_, by simp⟩), h.ok⟩
  rcases hd with ⟨e1, he, rfl⟩ | ⟨e1, he, rfl⟩ | ⟨e1, he, rfl⟩
  · exact RB.ne_cell hx h5 (h.dev.kept.2.1 e1 he) (by rw [hg', e])
  · exact RB.ne_cell hx h5 (h.dev.now.2.1 e1 he) (by rw [hg', e])
  · exact RB.ne_cell hx h5 (h.dev.ops e1 he).1 (by rw [hg', e])
theorem Devs.other {b g : Nat} {t : TypeId} {cs : Array Value} {w w' : World} {l : List (Nat × St)} {R : List (BD × List UInt8)} (h : Devs b w l R) (hx : IsB w g t cs) (h5 : t ≠ 5) (h81 : t ≠ 81) (h88 : t ≠ 88) (hg : w.grownBy w' (some g)) : Devs b w' l R := by
  obtain ⟨h0, L, h1, h2, h3, h4⟩ := h
  exact ⟨Nat.le_trans h0 hg.size, L, h1, fun y hy => ⟨(h2 y hy).1.other hx h5 h81 h88 hg, (h2 y hy).2⟩, h3, fun y hy => ⟨(h4 y hy).1.grown hg (RB.ne_cell hx h5 (h4 y hy).1), (h4 y hy).2⟩⟩
theorem Devs.sub {b : Nat} {w : World} {l : List (Nat × St)} {R R' : List (BD × List UInt8)} (h : Devs b w l R) (hR : ∀ y ∈ R', y ∈ R) : Devs b w l R' := by
  obtain ⟨h0, L, h1, h2, h3, h4⟩ := h
  exact ⟨h0, L, h1, h2, h3, fun y hy => h4 y (hR y hy)⟩
/-- What lies in memory ahead of a call of the law. -/
structure PM (w wr : World) (g pd N : Nat) (s : St) (r : RS) : Prop where
  dv : Devs (w.heap.size + 1) wr [(pd, s)] r.rd
  rm : RM wr r
  cell : IsB wr g 68 r.cells
  tp : Tp wr w.heap.size N
  gr : w.grownBy wr (some w.heap.size)
  low : w.heap.size + 1 ≤ g
section
variable {w wr w1 w' : World} {g pd N N' : Nat} {s s' : St} {r r' : RS}
theorem PM.more (h : PM w wr g pd N s r) (hN : N ≤ N') : PM w wr g pd N' s r := ⟨h.dv, h.rm, h.cell, h.tp.more hN, h.gr, h.low⟩
theorem PM.tape (h : PM w wr g pd N s r) (ht : Tp w' w.heap.size N') (hg : wr.grownBy w' (some w.heap.size)) : PM w w' g pd N' s r :=
  ⟨h.dv.tape h.tp hg, h.rm.tape h.tp hg, h.cell.grown hg (fun e => by injection e with e; have := h.low; omega), ht, g_trans h.gr hg, h.low⟩
theorem PM.on (h : PM w wr g pd N s r) (hb : Below wr.heap.size wr w') : PM w w' g pd N s r :=
  ⟨h.dv.on hb, h.rm.on hb, h.cell.on hb, h.tp.on hb, g_below h.gr hb, h.low⟩
theorem PM.dev (h : PM w wr g pd N s r) (hd : Devs (w.heap.size + 1) w' [(pd, s')] r.rd) (hb : Below (w.heap.size + 1) wr w') (hk : KB wr w') : PM w w' g pd N s' r :=
  ⟨hd, h.rm.dev hk hd, hk _ _ _ (by decide) (by decide) (by decide) h.cell, h.tp.low hb, g_low1R h.gr hb, h.low⟩
theorem PM.ref (h : PM w wr g pd N s r) (hb : Below wr.heap.size wr w1) (hm : RM w1 r') (hn : NewR wr.heap.size r r') : PM w (setR w1 g r'.F r'.O r'.dn r'.f) g pd N s r' := by
  have hgw := setR_grow w1 g r'.F r'.O r'.dn r'.f
  have hc := h.cell.on hb
  have hl := h.low
  exact ⟨(h.dv.next hb hm hn).other hc (by decide) (by decide) (by decide) hgw, hm.grown_ hgw hc, setR_is hc _ _ _ _, (h.tp.on hb).new_ hgw (by omega), g_new (g_below h.gr hb) hgw (by omega), h.low⟩
theorem PM.fuse (h : PM w wr g pd N s r) (f : Int) : PM w (wr.setCell ⟨g, 3, none⟩ (.int .i64 f)) g pd N s { r with f := f } := by
  have hgw : wr.grownBy (wr.setCell ⟨g, 3, none⟩ (.int .i64 f)) (some g) := g_set (p := ⟨g, 3, none⟩) (g_refl _ _) (.inl rfl) _
  have hl := h.low
  exact ⟨h.dv.other h.cell (by decide) (by decide) (by decide) hgw, (h.rm.grown_ hgw h.cell).fields r.dn f, h.cell.set_ 3 _, h.tp.new_ hgw (by omega), g_new h.gr hgw (by omega), h.low⟩
theorem PM.ok (h : PM w wr g pd N s r) : Ok s := by
  obtain ⟨q, hq⟩ := h.dv.dv (x := (pd, s)) (by simp)
  exact hq.ok
theorem PM.same (h : PM w wr g pd N s r) (hp : RP r s) : Calls Try.prog 46 #[.pointer (some ⟨pd, 0, none⟩), .agg r.cells] wr (Gives (.bool true) wr) := by
  obtain ⟨q, hq⟩ := h.dv.dv (x := (pd, s)) (by simp)
  exact same_true pd q r s wr hq h.rm hp
theorem Fuse_D {b p : Nat} {s : St} {w : World} {l : List (Nat × St)} {R : List (BD × List UInt8)} (n : Int) (h : Devs b w ((p, s) :: l) R) (hn : n ≤ 9223372036854775807) : Calls Try.prog 22 #[.pointer (some ⟨p, 0, none⟩), .int .i64 n] w (fun e w' => e = .returned (.tuple #[]) ∧ Devs b w' ((p, { s with f := max n 0 }) :: l) R ∧ Below b w w' ∧ KB w w') := goes_D (fun r hd => Fuse_any p r s n w hd hn) h
theorem Flip_D {b p : Nat} {s : St} {w : World} {l : List (Nat × St)} {R : List (BD × List UInt8)} (nm : ByteArray) (off bit : Int) (h : Devs b w ((p, s) :: l) R) (hn : okS nm) (hL : s.ops.length ≤ 1000000) : Calls Try.prog 28 #[.pointer (some ⟨p, 0, none⟩), .string nm, .int .i64 off, .int .i64 bit] w (fun e w' => e = .returned (.int .i64 (flipE s nm off bit)) ∧ Devs b w' ((p, flipS s nm off bit) :: l) R ∧ Below b w w' ∧ KB w w') := goes_D (fun r hd => Flip_any p r s nm off bit w hd hn hL) h
theorem Read_D {b p : Nat} {s : St} {w : World} {l : List (Nat × St)} {R : List (BD × List UInt8)} (nm : ByteArray) (h : Devs b w ((p, s) :: l) R) (hn : okS nm) : Calls Try.prog 20 #[.pointer (some ⟨p, 0, none⟩), .string nm] w (ReadPost s nm w) := by
  obtain ⟨q, hq⟩ := h.dv (x := (p, s)) (by simp)
  exact Read_any p q s nm w hq hn
theorem PM.new {w0 : World} {A : Option Addr} {l : List Int} {c : Nat} (hw : w0 = w.alloc (.cells #[.slice A l.length c, .int .i64 0] 39)) (ht : Tp w0 w.heap.size 0) (hd : DV w1 (w0.heap.size + 2) ⟨w0.heap.size, w0.heap.size + 1, [], [], none, 0, []⟩ St.new) (hb : Below w0.heap.size w0 w1) : PM w (w1.alloc (.cells vR0 68)) w1.heap.size (w0.heap.size + 2) 0 St.new ⟨none, 0, [], none, 0, [], false, 0⟩ := by
  have hs : w0.heap.size = w.heap.size + 1 := by rw [hw]; simp
  have hg0 : w.grownBy w0 (some w.heap.size) := by rw [hw]; exact World.grownBy_alloc _ _ _
  have hD : Devs (w.heap.size + 1) w1 [(w0.heap.size + 2, St.new)] := (Devs.one (LDev.new hd hb)).low (by omega)
  have hbs := hb.size
  exact ⟨hD.on (bel1 _ _), ⟨⟨World.ownsRow_nil _ _ _ _, by simp, by simp [SortedF], by simp⟩, World.ownsRow_nil _ _ _ _, by simp, by simp⟩, IsB.new _ _ _, (ht.on hb).alloc _, g_alloc (g_below hg0 hb) _, by omega⟩
theorem rp_new : RP ⟨none, 0, [], none, 0, [], false, 0⟩ St.new := by
  refine ⟨fun m => rfl, rfl, rfl, rfl, ?_, by simp, by simp⟩
  refine ⟨by simp [St.new], by simp [St.new], fun k => ?_, by simp [St.new]⟩
  simp only [St.new, List.take_nil, List.foldl_nil]
  exact ⟨fun n bs h => by simp at h, 0, by omega, [], List.nodup_nil, by simp, rfl⟩
end
/-- How many operations are pending. -/
theorem sync_len (s : St) : (syncS s).ops.length ≤ s.ops.length := by
  unfold syncS
  split
  · exact Nat.le_refl _
  · split
    · exact Nat.le_refl _
    · simp
theorem restart_len (s : St) : (restartS s).ops.length ≤ s.ops.length := by
  unfold restartS
  split
  · simp [decideS]
  · exact Nat.le_refl _
theorem flip_olen (s : St) (nm : ByteArray) (a b : Int) : (flipS s nm a b).ops.length ≤ s.ops.length := by
  unfold flipS
  split <;> exact Nat.le_refl _
theorem req_len (s : St) (n : Nat) (o : POp) : (reqS s n o).ops.length ≤ s.ops.length + 1 := by
  unfold reqS
  split
  · split
    · exact Nat.le_succ _
    · simp [St.did]
  · exact Nat.le_succ _
end Go.Proofs.Ytddjkkmdcdiofaa
