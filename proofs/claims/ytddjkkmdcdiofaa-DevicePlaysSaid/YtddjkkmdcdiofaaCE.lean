/- Contracts: equal, played. -/
import Derived.Test.YtddjkkmdcdiofaaCQ
import Derived.Test.YtddjkkmdcdiofaaLA
namespace Go.Proofs.Ytddjkkmdcdiofaa
open Go.RowKit Go.MapKept Go.ChangeMaps

theorem sorted_uniq {α : Type} [LE α] (anti : ∀ a b : α, a ≤ b → b ≤ a → a = b) : ∀ {l l' : List α}, l.Perm l' → l.Pairwise (· ≤ ·) → l'.Pairwise (· ≤ ·) → l = l'
  | [], l', hp, _, _ => (List.Perm.nil_eq hp)
  | a :: l, [], hp, _, _ => by have := hp.length_eq; simp at this
  | a :: l, b :: l', hp, h1, h2 => by
    obtain ⟨ha, hl⟩ := List.pairwise_cons.1 h1
    obtain ⟨hb, hl'⟩ := List.pairwise_cons.1 h2
    have e : a = b := by
      have m1 : a ∈ b :: l' := hp.mem_iff.1 List.mem_cons_self
      have m2 : b ∈ a :: l := hp.mem_iff.2 List.mem_cons_self
      rcases List.mem_cons.1 m1 with h | h
      · exact h
      · rcases List.mem_cons.1 m2 with h' | h'
        · exact h'.symm
        · exact anti a b (ha b h') (hb a h)
    subst e
    rw [sorted_uniq anti (hp.cons_inv) hl hl']
theorem Listed.uniq {N : FF} {ns ns' : List ByteArray} (h : Listed N ns) (h' : Listed N ns') : ns = ns' := by
  have hp : ns.Perm ns' := (List.perm_ext_iff_of_nodup h.nodup h'.nodup).2 (fun a => (h.mem a).trans (h'.mem a).symm)
  have := sorted_uniq (α := List UInt8) (fun a b h1 h2 => List.le_antisymm h1 h2) (hp.map bl) h.asc h'.asc
  exact (List.map_inj_right (fun _ _ e => bl_inj e)).1 this
theorem Listed.congr {N N' : FF} {ns : List ByteArray} (h : Listed N ns) (e : ∀ n, N n = N' n) : Listed N' ns := ⟨h.nodup, fun m => by rw [← e m]; exact h.mem m, h.asc⟩
set_option maxRecDepth 100000 in
set_option maxHeartbeats 4000000 in
theorem equal_true (p1 p2 : Nat) (r1 r2 : Rp) (s1 s2 : St) (w : World) (h1 : DV w p1 r1 s1) (h2 : DV w p2 r2 s2) (hn : ∀ n, s1.now n = s2.now n) (hd : s1.dn = s2.dn) : Calls Try.prog 38 #[.pointer (some ⟨p1, 0, none⟩), .pointer (some ⟨p2, 0, none⟩)] w (Gives (.bool true) w) := by
  have H1 := Lib.hid h1
  have H2 := Lib.hid h2
  have HN := Lib.hid hn
  have HRE : Hid (∀ n, readE s2 n = readE s1 n ∧ readB s2 n = readB s1 n) := fun n => by
    have : readE s2 n = readE s1 n := by unfold readE; rw [hd, hn n]
    refine ⟨this, ?_⟩
    unfold readB
    rw [this, hn n]
  clear h1 h2 hn hd
  go_enter Try.func38, Try.ntmps38
  go_wp2_with fail
  refine (Names_any p1 r1 s1 w H1.out).mono ?_
  rintro e w1 ⟨A1, c1, ns, rfl, hl1, hr1, hb1⟩
  have L1 := Lib.hid hl1
  have R1 := Lib.hid hr1
  have B1 := Lib.hid hb1
  have hnl : ns.length ≤ 256 := by
    obtain ⟨_, c, hc, hc2⟩ := H1.out.ok.now
    have := hc2.uniq (f := s1.now) ⟨ns, hl1.nodup, hl1.mem, rfl⟩
    omega
  clear hl1 hr1 hb1
  go_wp2_with fail
  refine (Names_any p2 r2 s2 w1 (H2.out.on B1.out)).mono ?_
  rintro e w2 ⟨A2, c2, ns2, rfl, hl2, hr2, hb2⟩
  obtain rfl : ns = ns2 := (L1.out.congr HN.out).uniq hl2
  have R2 := Lib.hid hr2
  have R1' : Hid (RdS w2 A1 ns) := R1.out.on hb2
  have B2 : Hid (Below w.heap.size w w2) := B1.out.trans (hb2.mono B1.out.size)
  have HO : Hid (∀ n ∈ ns, okS n) := fun n hn => by
    have := (L1.out.mem n).1 hn
    rw [← H1.out.dev.has n] at this
    obtain ⟨v, hv⟩ := Option.isSome_iff_exists.1 this
    exact H1.out.dev.now.1.oks _ (mem_of_asc hv)
  clear hl2 hr2 hb2 R1 B1
  go_wp2_with fail
  go_loopw [7] (fun v wr => ∃ k : Nat, k ≤ ns.length ∧ v = .int .i64 k ∧ Below w2.heap.size w2 wr) (fun v _ => ns.length - (intOf v).toNat)
  case atStart => exact ⟨0, by omega, rfl, Below.refl _ _⟩
  case round =>
    obtain ⟨k, hk, rfl, hb⟩ := hrel
    have HB := Lib.hid hb
    clear hb
    by_cases hlt : k < ns.length
    · obtain ⟨b1, rfl, hb1l, hc1⟩ := R1'.out (by omega)
      obtain ⟨b2, rfl, hb2l, hc2⟩ := R2.out (by omega)
      obtain ⟨nm, Hnm⟩ : ∃ nm, Hid (ns.getD k ByteArray.empty = nm) := ⟨_, rfl⟩
      have HMem : Hid (nm ∈ ns) := by rw [Hid, ← Hnm.out, List.getD_eq_getElem?_getD, List.getElem?_eq_getElem hlt]; exact List.getElem_mem hlt
      have q1 : wr.cell? ⟨b1, k, none⟩ = some (.string nm) := by rw [HB.out.cell (p := ⟨b1, k, none⟩) hb1l, hc1 k hlt, Hnm.out]
      have HC1 : Hid (w2.cell? ⟨b1, k, none⟩ = some (.string nm)) := by rw [Hid, hc1 k hlt, Hnm.out]
      have HC2 : Hid (w2.cell? ⟨b2, k, none⟩ = some (.string nm)) := by rw [Hid, hc2 k hlt, Hnm.out]
      clear hc1 hc2
      go_wp2_with fail
      refine (Read_any p1 r1 s1 nm wr (H1.out.on (B2.out.trans (HB.out.mono B2.out.size))) (HO.out _ HMem.out)).mono ?_
      rintro e w3 ⟨d3, rfl, hr3, _, hb3⟩
      have R3 := Lib.hid hr3
      have B3 : Hid (Below w2.heap.size w2 w3) := HB.out.trans (hb3.mono HB.out.size)
      have q2 : w3.cell? ⟨b1, k, none⟩ = some (.string nm) := by rw [B3.out.cell (p := ⟨b1, k, none⟩) hb1l]; exact HC1.out
      clear hr3 hb3 q1
      go_wp2_with fail
      refine (Read_any p2 r2 s2 nm w3 (H2.out.on (B2.out.trans (B3.out.mono B2.out.size))) (HO.out _ HMem.out)).mono ?_
      rintro e w4 ⟨d4, he4, hr4, _, hb4⟩
      rw [(HRE.out nm).1] at he4
      rw [(HRE.out nm).2] at hr4
      subst he4
      have B4 : Hid (Below w2.heap.size w2 w4) := B3.out.trans (hb4.mono B3.out.size)
      have q3 : w4.cell? ⟨b1, k, none⟩ = some (.string nm) := by rw [B4.out.cell (p := ⟨b1, k, none⟩) hb1l]; exact HC1.out
      have q4 : w4.cell? ⟨b2, k, none⟩ = some (.string nm) := by rw [B4.out.cell (p := ⟨b2, k, none⟩) hb2l]; exact HC2.out
      have v1' := conv_rb (R3.out.on hb4)
      have v2' := conv_rb hr4
      have v1 : ∀ n, (convert 22 9 (.slice d3.A d3.len d3.cap)).run Try.prog (w4.drewN n) = .ok (.string ⟨(readB s1 nm).toArray⟩) (w4.drewN n) := fun n => conv_rb ((R3.out.on hb4).on ⟨rfl, rfl, rfl, Nat.le_refl _, fun _ _ => rfl⟩)
      have v2 : ∀ n, (convert 22 9 (.slice d4.A d4.len d4.cap)).run Try.prog (w4.drewN n) = .ok (.string ⟨(readB s1 nm).toArray⟩) (w4.drewN n) := fun n => conv_rb (hr4.on ⟨rfl, rfl, rfl, Nat.le_refl _, fun _ _ => rfl⟩)
      clear hr4 hb4 q2 v1' v2'
      unfold vB
      go_wp2_with fail
      go_quiet (fail)
      clear v1 v2 q3 q4
      go_wp2_with fail
      go_roundw
      case rel => exact ⟨k + 1, by omega, by go_num, bdrewN B4.out _⟩
      case measure => simp [intOf]; omega
    · go_wp2_with fail
      go_ret
      exact ⟨rfl, B2.out.trans (HB.out.mono B2.out.size)⟩
end Go.Proofs.Ytddjkkmdcdiofaa
