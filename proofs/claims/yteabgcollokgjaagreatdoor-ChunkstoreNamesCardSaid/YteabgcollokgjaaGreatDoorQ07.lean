/- DB DC in one text. -/
import Derived.Test.YteabgcollokgjaaGreatDoorQ06
import Derived.Outline
import Derived.Laws.EntriesVeiled
namespace Go.Proofs.YteabgcollokgjaaGreatDoor
open Go.RowKit Go.MapKept Go.ChangeMaps

theorem RB.take {w : World} {A : Option Addr} {n c : Nat} {bs : List UInt8} (h : RB w ⟨A, n, c⟩ bs) {t : Nat} (ht : t ≤ n) : RB w ⟨A, t, c⟩ (bs.take t) := by
  obtain ⟨h1, h2, h3, h4⟩ := h
  simp only at h1 h2 h3 h4
  refine ⟨by simp only [List.length_take]; omega, by simp only; omega, h3, fun ad e => ?_⟩
  obtain ⟨g, cur, e1, e2, e3, e4⟩ := h4 ad e
  refine ⟨g, cur, e1, e2, e3, fun j u hu => e4 j u ?_⟩
  rw [List.map_take] at hu
  have hj := (List.getElem?_eq_some_iff.1 hu).1
  rw [List.length_take] at hj
  rw [List.getElem?_take_of_lt (by omega)] at hu
  exact hu
/-- What a device becomes when its files are laid anew. -/
theorem dev_renew {w w0 w1 w2 : World} {p lb : Nat} {r : Rp} {s : St} {f : FF} (H : DV w p r s) (hb0 : Below w.heap.size w w0) (hl : Left w0.heap.size r.EK w1 lb f) (hb : Below w0.heap.size w0 w1) (hf : FM w2 w1.heap.size (Classical.choose hl)) (hb2 : Below w1.heap.size w1 w2) (hsm : Small f) {M : Nat} (hM : w1.heap.size = M) :
    Goes p r ⟨f, [], s.dn, s.f⟩ (.tuple #[]) w (.returned (.tuple #[])) (((w2.setCell ⟨p, 0, none⟩ (.map (some lb))).setCell ⟨p, 1, none⟩ (.map (some M))).setCell ⟨p, 2, none⟩ (.slice none 0 0)) := by
  subst hM
  obtain ⟨h1, h2, h3, h4, h5⟩ := Classical.choose_spec hl
  have D2 := ((H.on hb0).on hb).on hb2
  have C2 := D2.dev.cells
  have hcc := ((C2.set_ 0 (.map (some lb))).set_ 1 (.map (some w1.heap.size))).set_ 2 (.slice none 0 0)
  have hg2 : w2.grownBy (((w2.setCell ⟨p, 0, none⟩ (.map (some lb))).setCell ⟨p, 1, none⟩ (.map (some w1.heap.size))).setCell ⟨p, 2, none⟩ (.slice none 0 0)) (some p) :=
    g_trans (g_trans (g_set (p := ⟨p, 0, none⟩) (g_refl _ _) (.inl rfl) _) (g_set (p := ⟨p, 1, none⟩) (g_refl _ _) (.inl rfl) _)) (g_set (p := ⟨p, 2, none⟩) (g_refl _ _) (.inl rfl) _)
  have fm : ∀ {b : Nat} {E : Files}, FM w2 b E → FM (((w2.setCell ⟨p, 0, none⟩ (.map (some lb))).setCell ⟨p, 1, none⟩ (.map (some w1.heap.size))).setCell ⟨p, 2, none⟩ (.slice none 0 0)) b E := fun hh =>
    ((hh.setp (i := 0) C2 (by decide) (.map (some lb))).setp (i := 1) (C2.set_ 0 (.map (some lb))) (by decide) (.map (some w1.heap.size))).setp (i := 2) ((C2.set_ 0 (.map (some lb))).set_ 1 (.map (some w1.heap.size))) (by decide) (.slice none 0 0)
  have s0 := hb0.size
  have s1 := hb.size
  refine ⟨rfl, ⟨lb, w1.heap.size, Classical.choose hl, Classical.choose hl, none, 0, []⟩, ⟨dev_mk hcc (fm (h1.on hb2)) (fm hf) (fun e => ?_) h1.safe h4 h4, Ok.none hsm H.ok.f0 H.ok.f1⟩, ⟨?_, ?_, fun q hq => .inl ?_, fun d' hd' => .inr ?_⟩⟩
  · have := h1.1.lt
    omega
  · have hb02 : Below w.heap.size w w2 := (hb0.trans (hb.mono s0)).trans (hb2.mono (by omega))
    exact Ch.ones hb02 hg2 (.inl rfl)
  · rintro i (rfl | rfl | rfl | e)
    · exact .inl (.inl rfl)
    · exact .inr (by have := h2; omega)
    · exact .inr (by have := h2; show w.heap.size ≤ w1.heap.size; omega)
    · simp [Value.ownBlock] at e
  · have := h3 q hq
    omega
  · have key : ∀ e ∈ Classical.choose hl, From w.heap.size r e.2.1 := fun e he => by
      cases hg : blk e.2.1 with
      | none => exact .inl (fun g h => by rw [hg] at h; cases h)
      | some g =>
        rcases h5 e he g hg with k1 | ⟨c, hc, k1, k2⟩
        · exact .inl (fun g' h => by rw [hg] at h; injection h with h; omega)
        · exact .inr (.inl ⟨c.2.1, .inl ⟨c, hc, rfl⟩, by rw [k1, hg], k2⟩)
    rcases hd' with ⟨e, he, rfl⟩ | ⟨e, he, rfl⟩ | ⟨y, hy, _⟩
    · exact key e he
    · exact key e he
    · cases hy

set_option maxRecDepth 100000 in
set_option maxHeartbeats 8000000 in
theorem decide_any (p : Nat) (r : Rp) (s : St) (keep torn : Int) (w : World) (h : DV w p r s) (hL : s.ops.length ≤ 1000000) (ht : torn ≤ 9223372036854775807) : Calls Tryz.prog 105 #[.pointer (some ⟨p, 0, none⟩), .agg #[.int .i64 keep, .int .i64 torn]] w (Goes p r (decideS s keep torn) (.tuple #[]) w) := by
  have H := Lib.hid h
  have hplt := h.dev.cells.lt
  have k0 : w.cell? ⟨p, 0, none⟩ = some (.map (some r.kb)) := (h.dev.cells.cell 0).trans rfl
  have k2 : w.cell? ⟨p, 2, none⟩ = some (.slice r.A r.L.length r.c) := (h.dev.cells.cell 2).trans rfl
  have HO : Hid (r.L.length = s.ops.length) := by rw [Hid, ← h.dev.sO, List.length_map]
  have hL2 : r.L.length ≤ 1000000 := by rw [HO.out]; exact hL
  clear h hL
  by_cases hz : r.L.length = 0
  · have Hz : Hid (s.ops = []) := List.eq_nil_of_length_eq_zero (by rw [← HO.out]; exact hz)
    rw [hz] at k2
    clear hz
    go_enter Tryz.func105, Tryz.ntmps105
    go_wp2_with fail
    go_end0
    have e : decideS s keep torn = s := by
      rw [decideS, loss_none _ _ _ Hz.out, ← Hz.out]
    rw [Goes, e]
    exact ⟨rfl, r, H.out.on (bel1 _ _), Step.same (bel1 _ _)⟩
  · have hzb : ((r.L.length : Int) == 0) = false := by rw [beq_eq_false_iff_ne]; omega
    have HD : Hid (DV (w.alloc (.cells #[.int .i64 keep, .int .i64 torn] 81)) p r s) := H.out.on (bel1 _ _)
    have hEK : r.EK.length ≤ 256 := by
      obtain ⟨_, c, hc, hc2⟩ := H.out.ok.kept
      have := hc2.uniq (Cnt.files H.out.dev.kept H.out.dev.sK)
      omega
    have HX : ∃ g, r.A = some ⟨g, 0, none⟩ := by
      obtain ⟨g, hg, _⟩ := row_cell H.out.dev.pend (k := 0) (x := r.L[0]'(by omega)) (List.getElem?_eq_getElem (by omega))
      exact ⟨g, hg⟩
    obtain ⟨kb, nb, EK, EN, A, c, L⟩ := r
    obtain ⟨g, hg⟩ := HX
    have hg' : A = some ⟨g, 0, none⟩ := hg
    subst hg'
    simp only at k0 k2 HO hL2 hz hzb hEK
    clear hg
    go_enter Tryz.func105, Tryz.ntmps105
    go_wp2_with fail
    refine (copied_any kb EK _ HD.out.dev.kept (by omega) (fun e he => ?_)).mono ?_
    · have := H.out.ok.kept.len e.1
      rw [← H.out.dev.sK, asc_plain, asc_mem H.out.dev.kept.1.nodup he] at this
      simp only [Option.map_some, Option.getD_some] at this
      omega
    intro e w1 hcp
    obtain ⟨lb, rfl, hl1, hb1⟩ := Left.copied HD.out.dev.kept HD.out.dev.sK hcp
    have L1 := Lib.hid hl1
    have B1 := Lib.hid hb1
    have D1 : Hid (DV w1 p _ s) := HD.out.on hb1
    have k2' : w1.cell? ⟨p, 2, none⟩ = some (.slice (some ⟨g, 0, none⟩) L.length c) := (D1.out.dev.cells.cell 2).trans rfl
    have hs1 := hb1.size
    simp only [World.size_alloc] at hs1
    clear hcp hl1 hb1 k0 k2
    go_wp2_with fail
    go_loopw [23] (fun i wr => ∃ k : Nat, k ≤ L.length ∧ i = .int .i64 k ∧ Hid (k = 0 ∨ (k : Int) ≤ keep) ∧ Left (w.alloc (.cells #[.int .i64 keep, .int .i64 torn] 81)).heap.size EK wr lb (foldK s k) ∧ Below (w.alloc (.cells #[.int .i64 keep, .int .i64 torn] 81)).heap.size (w.alloc (.cells #[.int .i64 keep, .int .i64 torn] 81)) wr) (fun i _ => L.length - (intOf i).toNat)
    case atStart => exact ⟨0, by omega, rfl, .inl rfl, L1.out, B1.out⟩
    case round =>
      obtain ⟨k, hk, rfl, HK, hl2, hb2⟩ := hrel
      have L2 := Lib.hid hl2
      have B2 := Lib.hid hb2
      have D2 : Hid (DV wr p _ s) := HD.out.on hb2
      have hs2 := hb2.size
      simp only [World.size_alloc] at hs2
      have hs2' : w.heap.size < wr.heap.size := by omega
      have q0 : wr.cell? ⟨w.heap.size, 0, none⟩ = some (.int .i64 keep) := (hb2.cell (p := ⟨w.heap.size, 0, none⟩) (by simp)).trans (new_cell _ _ _ _ rfl 0)
      have q1 : wr.cell? ⟨w.heap.size, 1, none⟩ = some (.int .i64 torn) := (hb2.cell (p := ⟨w.heap.size, 1, none⟩) (by simp)).trans (new_cell _ _ _ _ rfl 1)
      clear hl2 hb2 k2' hs1
      by_cases hlt : k < L.length
      · obtain ⟨⟨⟨kd, nm, to, bs, tears⟩, ⟨dA, dl, dc⟩⟩, hx⟩ : ∃ x, L[k]? = some x := ⟨_, List.getElem?_eq_getElem hlt⟩
        have Hx := Lib.hid hx
        have HOp : Hid (s.ops[k]? = some ⟨kd, nm, to, bs, tears⟩) := by
          rw [Hid, ← H.out.dev.sO, List.getElem?_map, hx]; rfl
        have HRB : Hid (RB wr ⟨dA, dl, dc⟩ bs) := (D2.out.dev.ops _ (List.mem_of_getElem? hx)).1
        have HN : Hid (okS nm ∧ okS to ∧ bs.length ≤ 4194304) := H.out.ok.ops _ (List.mem_of_getElem? HOp.out)
        have hbl : bs.length ≤ 4194304 := HN.out.2.2
        have HLen : Hid (∀ n : ByteArray, ((foldK s k n).getD []).length ≤ 4194304) := fun n => (H.out.ok.pre k).len n
        have hdl : dl ≤ 4194304 := by have := HRB.out.1; simp only at this; omega
        have hdc : dl ≤ dc := HRB.out.2.1
        obtain ⟨g', eg, hglt, hc⟩ := row_cell D2.out.dev.pend hx
        obtain rfl : g = g' := by injection eg with eg; injection eg
        have c0 : wr.cell? ⟨g, k * 5, none⟩ = some (vFn kd) := hc 0 (by omega)
        have c1 : wr.cell? ⟨g, k * 5 + 1, none⟩ = some (.string nm) := hc 1 (by omega)
        have c2 : wr.cell? ⟨g, k * 5 + 2, none⟩ = some (.string to) := hc 2 (by omega)
        have c3 : wr.cell? ⟨g, k * 5 + 3, none⟩ = some (.slice dA dl dc) := hc 3 (by omega)
        have c4 : wr.cell? ⟨g, k * 5 + 4, none⟩ = some (.bool tears) := hc 4 (by omega)
        clear hc eg hx
        by_cases htorn : (k : Int) = keep ∧ tears = true ∧ 0 ≤ torn
        · obtain ⟨hkk, rfl, ht0⟩ := htorn
          have hq : ((k : Int) == keep) = true := by simpa using hkk
          have Hkk := Lib.hid hkk
          obtain ⟨t, rfl⟩ : ∃ t : Nat, torn = (t : Int) := ⟨torn.toNat, by omega⟩
          clear hkk
          by_cases htl : t ≤ dl
          · have hmin : min (t : Int) (dl : Int) = (t : Int) := by omega
            have hlt3 : (t : Int) ≤ dl := by omega
            have hlt4 : ¬ ((dl : Int) < t) := by omega
            have RT : Hid (RB wr ⟨dA, t, dc⟩ (bs.take t)) := HRB.out.take htl
            have L3 : Hid (Left (w.alloc (.cells #[.int .i64 keep, .int .i64 (t : Int)] 81)).heap.size EK (wr.alloc (.cells #[vFn kd, .string nm, .string to, .slice dA t dc, .bool true] 239)) lb (foldK s k)) := L2.out.on (bel1 _ _)
            have R3 : Hid (RB (wr.alloc (.cells #[vFn kd, .string nm, .string to, .slice dA t dc, .bool true] 239)) ⟨dA, t, dc⟩ (bs.take t)) := RT.out.on (bel1 _ _)
            have hcf := call_kd kd
            go_wp2_with fail
            clear hcf
            refine (L3.out.op (by simp; omega) (vFn kd) ⟨kd, nm, to, bs.take t, true⟩ ⟨dA, t, dc⟩ HN.out.1 HN.out.2.1 R3.out (by have := HLen.out nm; have : (bs.take t).length ≤ 4194304 := (by rw [List.length_take]; omega); simp only; omega)).mono ?_
            rintro e w5 ⟨rfl, hl5, hb5⟩
            have L5 := Lib.hid hl5
            have B5 : Hid (Below (w.alloc (.cells #[.int .i64 keep, .int .i64 (t : Int)] 81)).heap.size (w.alloc (.cells #[.int .i64 keep, .int .i64 (t : Int)] 81)) w5) := (B2.out.trans ((bel1 wr _).mono B2.out.size)).trans hb5
            have q0' : w5.cell? ⟨w.heap.size, 0, none⟩ = some (.int .i64 keep) := (B5.out.cell (p := ⟨w.heap.size, 0, none⟩) (by simp)).trans (new_cell _ _ _ _ rfl 0)
            clear hl5 hb5 q0 q1 c0 c1 c2 c3 c4
            have HF : Hid (lossF s keep (t : Int) = applyF (foldK s k) ⟨kd, nm, to, bs.take t, true⟩) := by
              rw [Hid, loss_torn s keep t k HOp.out Hkk.out rfl (by omega)]; rfl
            have FF := Classical.choose_spec L5.out
            have F5 : Hid (FM w5 lb (Classical.choose L5.out)) := FF.1
            clear FF
            go_wp2_with fail
            refine (mapsClone_any lb (Classical.choose L5.out) _ F5.out).mono ?_
            rintro e w6 ⟨rfl, hf6, hb6, hz6⟩
            have F6 := Lib.hid hf6
            have B6 := Lib.hid hb6
            have C6 : Hid (IsB w6 p 136 (vD (.map (some kb)) (.map (some nb)) (.slice (some ⟨g, 0, none⟩) L.length c) s.dn s.f)) := ((HD.out.on B5.out).on hb6).dev.cells
            have y0 : w6.cell? ⟨p, 0, none⟩ = some (.map (some kb)) := (C6.out.cell 0).trans rfl
            have y1 : w6.cell? ⟨p, 1, none⟩ = some (.map (some nb)) := (C6.out.cell 1).trans rfl
            have y2 : w6.cell? ⟨p, 2, none⟩ = some (.slice (some ⟨g, 0, none⟩) L.length c) := (C6.out.cell 2).trans rfl
            have z0 : w6.frozen? ⟨p, 0, none⟩ = false := C6.out.frozen 0
            have z1 : w6.frozen? ⟨p, 1, none⟩ = false := C6.out.frozen 1
            have z2 : w6.frozen? ⟨p, 2, none⟩ = false := C6.out.frozen 2
            clear hf6 hb6 hz6
            go_wp2_with fail
            go_end0
            rw [decideS]
            have hsm := H.out.ok.loss keep (t : Int)
            rw [HF.out] at hsm ⊢
            exact dev_renew H.out (bel1 _ _) L5.out B5.out F6.out B6.out hsm (by first | rfl | simp)
          · have hlt3 : (dl : Int) < (t : Int) := by omega
            have hmin : min (t : Int) (dl : Int) = (dl : Int) := by omega
            have L3 : Hid (Left (w.alloc (.cells #[.int .i64 keep, .int .i64 (t : Int)] 81)).heap.size EK (wr.alloc (.cells #[vFn kd, .string nm, .string to, .slice dA dl dc, .bool true] 239)) lb (foldK s k)) := L2.out.on (bel1 _ _)
            have R3 : Hid (RB (wr.alloc (.cells #[vFn kd, .string nm, .string to, .slice dA dl dc, .bool true] 239)) ⟨dA, dl, dc⟩ (bs)) := HRB.out.on (bel1 _ _)
            have hcf := call_kd kd
            go_wp2_with fail
            clear hcf
            refine (L3.out.op (by simp; omega) (vFn kd) ⟨kd, nm, to, bs, true⟩ ⟨dA, dl, dc⟩ HN.out.1 HN.out.2.1 R3.out (by have := HLen.out nm; have : (bs).length ≤ 4194304 := hbl; simp only; omega)).mono ?_
            rintro e w5 ⟨rfl, hl5, hb5⟩
            have L5 := Lib.hid hl5
            have B5 : Hid (Below (w.alloc (.cells #[.int .i64 keep, .int .i64 (t : Int)] 81)).heap.size (w.alloc (.cells #[.int .i64 keep, .int .i64 (t : Int)] 81)) w5) := (B2.out.trans ((bel1 wr _).mono B2.out.size)).trans hb5
            have q0' : w5.cell? ⟨w.heap.size, 0, none⟩ = some (.int .i64 keep) := (B5.out.cell (p := ⟨w.heap.size, 0, none⟩) (by simp)).trans (new_cell _ _ _ _ rfl 0)
            clear hl5 hb5 q0 q1 c0 c1 c2 c3 c4
            have HF : Hid (lossF s keep (t : Int) = applyF (foldK s k) ⟨kd, nm, to, bs, true⟩) := by
              rw [Hid, loss_torn s keep t k HOp.out Hkk.out rfl (by omega)]
              have : bs.take t = bs := List.take_of_length_le (by have := HRB.out.1; simp only at this; omega)
              simp [POp.cutTo, this]
            have FF := Classical.choose_spec L5.out
            have F5 : Hid (FM w5 lb (Classical.choose L5.out)) := FF.1
            clear FF
            go_wp2_with fail
            refine (mapsClone_any lb (Classical.choose L5.out) _ F5.out).mono ?_
            rintro e w6 ⟨rfl, hf6, hb6, hz6⟩
            have F6 := Lib.hid hf6
            have B6 := Lib.hid hb6
            have C6 : Hid (IsB w6 p 136 (vD (.map (some kb)) (.map (some nb)) (.slice (some ⟨g, 0, none⟩) L.length c) s.dn s.f)) := ((HD.out.on B5.out).on hb6).dev.cells
            have y0 : w6.cell? ⟨p, 0, none⟩ = some (.map (some kb)) := (C6.out.cell 0).trans rfl
            have y1 : w6.cell? ⟨p, 1, none⟩ = some (.map (some nb)) := (C6.out.cell 1).trans rfl
            have y2 : w6.cell? ⟨p, 2, none⟩ = some (.slice (some ⟨g, 0, none⟩) L.length c) := (C6.out.cell 2).trans rfl
            have z0 : w6.frozen? ⟨p, 0, none⟩ = false := C6.out.frozen 0
            have z1 : w6.frozen? ⟨p, 1, none⟩ = false := C6.out.frozen 1
            have z2 : w6.frozen? ⟨p, 2, none⟩ = false := C6.out.frozen 2
            clear hf6 hb6 hz6
            go_wp2_with fail
            go_end0
            rw [decideS]
            have hsm := H.out.ok.loss keep (t : Int)
            rw [HF.out] at hsm ⊢
            exact dev_renew H.out (bel1 _ _) L5.out B5.out F6.out B6.out hsm (by first | rfl | simp)
        · have Htn := Lib.hid htorn
          clear htorn
          by_cases hst : keep ≤ (k : Int)
          · by_cases hkk : (k : Int) = keep
            · have hq : ((k : Int) == keep) = true := by simpa using hkk
              have Hkk := Lib.hid hkk
              clear hkk
              cases tears with
              | false =>
                have HF : Hid (lossF s keep torn = foldK s k) := loss_stop s keep torn k HOp.out hst HK.out Htn.out
                have L5 : Hid (Left (w.alloc (.cells #[.int .i64 keep, .int .i64 torn] 81)).heap.size EK (wr.alloc (.cells #[vFn kd, .string nm, .string to, .slice dA dl dc, .bool false] 239)) lb (foldK s k)) := L2.out.on (bel1 _ _)
                have B5 : Hid (Below (w.alloc (.cells #[.int .i64 keep, .int .i64 torn] 81)).heap.size (w.alloc (.cells #[.int .i64 keep, .int .i64 torn] 81)) (wr.alloc (.cells #[vFn kd, .string nm, .string to, .slice dA dl dc, .bool false] 239))) := B2.out.trans ((bel1 wr _).mono B2.out.size)
                have FF := Classical.choose_spec L5.out
                have F5 : Hid (FM (wr.alloc (.cells #[vFn kd, .string nm, .string to, .slice dA dl dc, .bool false] 239)) lb (Classical.choose L5.out)) := FF.1
                clear FF
                go_wp2_with fail
                refine (mapsClone_any lb (Classical.choose L5.out) _ F5.out).mono ?_
                rintro e w6 ⟨rfl, hf6, hb6, hz6⟩
                have F6 := Lib.hid hf6
                have B6 := Lib.hid hb6
                have C6 : Hid (IsB w6 p 136 (vD (.map (some kb)) (.map (some nb)) (.slice (some ⟨g, 0, none⟩) L.length c) s.dn s.f)) := ((HD.out.on B5.out).on hb6).dev.cells
                have y0 : w6.cell? ⟨p, 0, none⟩ = some (.map (some kb)) := (C6.out.cell 0).trans rfl
                have y1 : w6.cell? ⟨p, 1, none⟩ = some (.map (some nb)) := (C6.out.cell 1).trans rfl
                have y2 : w6.cell? ⟨p, 2, none⟩ = some (.slice (some ⟨g, 0, none⟩) L.length c) := (C6.out.cell 2).trans rfl
                have z0 : w6.frozen? ⟨p, 0, none⟩ = false := C6.out.frozen 0
                have z1 : w6.frozen? ⟨p, 1, none⟩ = false := C6.out.frozen 1
                have z2 : w6.frozen? ⟨p, 2, none⟩ = false := C6.out.frozen 2
                clear hf6 hb6 hz6
                go_wp2_with fail
                go_end0
                rw [decideS]
                have hsm := H.out.ok.loss keep torn
                rw [HF.out] at hsm ⊢
                exact dev_renew H.out (bel1 _ _) L5.out B5.out F6.out B6.out hsm (by first | rfl | simp)
              | true =>
                have htn : torn < 0 := by
                  have := Htn.out
                  rw [Hkk.out] at this
                  simp at this
                  omega
                have HF : Hid (lossF s keep torn = foldK s k) := loss_stop s keep torn k HOp.out hst HK.out Htn.out
                have L5 : Hid (Left (w.alloc (.cells #[.int .i64 keep, .int .i64 torn] 81)).heap.size EK (wr.alloc (.cells #[vFn kd, .string nm, .string to, .slice dA dl dc, .bool true] 239)) lb (foldK s k)) := L2.out.on (bel1 _ _)
                have B5 : Hid (Below (w.alloc (.cells #[.int .i64 keep, .int .i64 torn] 81)).heap.size (w.alloc (.cells #[.int .i64 keep, .int .i64 torn] 81)) (wr.alloc (.cells #[vFn kd, .string nm, .string to, .slice dA dl dc, .bool true] 239))) := B2.out.trans ((bel1 wr _).mono B2.out.size)
                have FF := Classical.choose_spec L5.out
                have F5 : Hid (FM (wr.alloc (.cells #[vFn kd, .string nm, .string to, .slice dA dl dc, .bool true] 239)) lb (Classical.choose L5.out)) := FF.1
                clear FF
                go_wp2_with fail
                refine (mapsClone_any lb (Classical.choose L5.out) _ F5.out).mono ?_
                rintro e w6 ⟨rfl, hf6, hb6, hz6⟩
                have F6 := Lib.hid hf6
                have B6 := Lib.hid hb6
                have C6 : Hid (IsB w6 p 136 (vD (.map (some kb)) (.map (some nb)) (.slice (some ⟨g, 0, none⟩) L.length c) s.dn s.f)) := ((HD.out.on B5.out).on hb6).dev.cells
                have y0 : w6.cell? ⟨p, 0, none⟩ = some (.map (some kb)) := (C6.out.cell 0).trans rfl
                have y1 : w6.cell? ⟨p, 1, none⟩ = some (.map (some nb)) := (C6.out.cell 1).trans rfl
                have y2 : w6.cell? ⟨p, 2, none⟩ = some (.slice (some ⟨g, 0, none⟩) L.length c) := (C6.out.cell 2).trans rfl
                have z0 : w6.frozen? ⟨p, 0, none⟩ = false := C6.out.frozen 0
                have z1 : w6.frozen? ⟨p, 1, none⟩ = false := C6.out.frozen 1
                have z2 : w6.frozen? ⟨p, 2, none⟩ = false := C6.out.frozen 2
                clear hf6 hb6 hz6
                go_wp2_with fail
                go_end0
                rw [decideS]
                have hsm := H.out.ok.loss keep torn
                rw [HF.out] at hsm ⊢
                exact dev_renew H.out (bel1 _ _) L5.out B5.out F6.out B6.out hsm (by first | rfl | simp)
            · have hq : ((k : Int) == keep) = false := by simpa using hkk
              clear hkk
              have HF : Hid (lossF s keep torn = foldK s k) := loss_stop s keep torn k HOp.out hst HK.out Htn.out
              have L5 : Hid (Left (w.alloc (.cells #[.int .i64 keep, .int .i64 torn] 81)).heap.size EK (wr.alloc (.cells #[vFn kd, .string nm, .string to, .slice dA dl dc, .bool tears] 239)) lb (foldK s k)) := L2.out.on (bel1 _ _)
              have B5 : Hid (Below (w.alloc (.cells #[.int .i64 keep, .int .i64 torn] 81)).heap.size (w.alloc (.cells #[.int .i64 keep, .int .i64 torn] 81)) (wr.alloc (.cells #[vFn kd, .string nm, .string to, .slice dA dl dc, .bool tears] 239))) := B2.out.trans ((bel1 wr _).mono B2.out.size)
              have FF := Classical.choose_spec L5.out
              have F5 : Hid (FM (wr.alloc (.cells #[vFn kd, .string nm, .string to, .slice dA dl dc, .bool tears] 239)) lb (Classical.choose L5.out)) := FF.1
              clear FF
              go_wp2_with fail
              refine (mapsClone_any lb (Classical.choose L5.out) _ F5.out).mono ?_
              rintro e w6 ⟨rfl, hf6, hb6, hz6⟩
              have F6 := Lib.hid hf6
              have B6 := Lib.hid hb6
              have C6 : Hid (IsB w6 p 136 (vD (.map (some kb)) (.map (some nb)) (.slice (some ⟨g, 0, none⟩) L.length c) s.dn s.f)) := ((HD.out.on B5.out).on hb6).dev.cells
              have y0 : w6.cell? ⟨p, 0, none⟩ = some (.map (some kb)) := (C6.out.cell 0).trans rfl
              have y1 : w6.cell? ⟨p, 1, none⟩ = some (.map (some nb)) := (C6.out.cell 1).trans rfl
              have y2 : w6.cell? ⟨p, 2, none⟩ = some (.slice (some ⟨g, 0, none⟩) L.length c) := (C6.out.cell 2).trans rfl
              have z0 : w6.frozen? ⟨p, 0, none⟩ = false := C6.out.frozen 0
              have z1 : w6.frozen? ⟨p, 1, none⟩ = false := C6.out.frozen 1
              have z2 : w6.frozen? ⟨p, 2, none⟩ = false := C6.out.frozen 2
              clear hf6 hb6 hz6
              go_wp2_with fail
              go_end0
              rw [decideS]
              have hsm := H.out.ok.loss keep torn
              rw [HF.out] at hsm ⊢
              exact dev_renew H.out (bel1 _ _) L5.out B5.out F6.out B6.out hsm (by first | rfl | simp)
          · have hq : ((k : Int) == keep) = false := by rw [beq_eq_false_iff_ne]; omega
            have hst' : (k : Int) < keep := by omega
            have L3 : Hid (Left (w.alloc (.cells #[.int .i64 keep, .int .i64 torn] 81)).heap.size EK (wr.alloc (.cells #[vFn kd, .string nm, .string to, .slice dA dl dc, .bool tears] 239)) lb (foldK s k)) := L2.out.on (bel1 _ _)
            have R3 : Hid (RB (wr.alloc (.cells #[vFn kd, .string nm, .string to, .slice dA dl dc, .bool tears] 239)) ⟨dA, dl, dc⟩ (bs)) := HRB.out.on (bel1 _ _)
            have hcf := call_kd kd
            go_wp2_with fail
            clear hcf
            refine (L3.out.op (by simp; omega) (vFn kd) ⟨kd, nm, to, bs, tears⟩ ⟨dA, dl, dc⟩ HN.out.1 HN.out.2.1 R3.out (by have := HLen.out nm; have : (bs).length ≤ 4194304 := hbl; simp only; omega)).mono ?_
            rintro e w5 ⟨rfl, hl5, hb5⟩
            have L5 := Lib.hid hl5
            have B5 : Hid (Below (w.alloc (.cells #[.int .i64 keep, .int .i64 torn] 81)).heap.size (w.alloc (.cells #[.int .i64 keep, .int .i64 torn] 81)) w5) := (B2.out.trans ((bel1 wr _).mono B2.out.size)).trans hb5
            have q0' : w5.cell? ⟨w.heap.size, 0, none⟩ = some (.int .i64 keep) := (B5.out.cell (p := ⟨w.heap.size, 0, none⟩) (by simp)).trans (new_cell _ _ _ _ rfl 0)
            clear hl5 hb5 q0 q1 c0 c1 c2 c3 c4
            go_wp2_with fail
            go_roundw
            case rel => exact ⟨k + 1, by omega, by go_num, .inr (by omega), by rw [foldK_succ s HOp.out]; exact L5.out, B5.out⟩
            case measure => simp [intOf]; omega
      · obtain rfl : k = L.length := by omega
        have HF : Hid (lossF s keep torn = foldK s L.length) := by
          rw [Hid, HO.out, foldK_all]
          exact loss_all s keep torn (by rw [← HO.out]; rcases HK.out with h1 | h1 <;> omega)
        have FF := Classical.choose_spec L2.out
        have F5 : Hid (FM wr lb (Classical.choose L2.out)) := FF.1
        clear FF
        go_wp2_with fail
        refine (mapsClone_any lb (Classical.choose L2.out) _ F5.out).mono ?_
        rintro e w6 ⟨rfl, hf6, hb6, hz6⟩
        have F6 := Lib.hid hf6
        have B6 := Lib.hid hb6
        have C6 : Hid (IsB w6 p 136 (vD (.map (some kb)) (.map (some nb)) (.slice (some ⟨g, 0, none⟩) L.length c) s.dn s.f)) := ((HD.out.on B2.out).on hb6).dev.cells
        have y0 : w6.cell? ⟨p, 0, none⟩ = some (.map (some kb)) := (C6.out.cell 0).trans rfl
        have y1 : w6.cell? ⟨p, 1, none⟩ = some (.map (some nb)) := (C6.out.cell 1).trans rfl
        have y2 : w6.cell? ⟨p, 2, none⟩ = some (.slice (some ⟨g, 0, none⟩) L.length c) := (C6.out.cell 2).trans rfl
        have z0 : w6.frozen? ⟨p, 0, none⟩ = false := C6.out.frozen 0
        have z1 : w6.frozen? ⟨p, 1, none⟩ = false := C6.out.frozen 1
        have z2 : w6.frozen? ⟨p, 2, none⟩ = false := C6.out.frozen 2
        clear hf6 hb6 hz6
        go_wp2_with fail
        go_end0
        rw [decideS]
        have hsm := H.out.ok.loss keep torn
        rw [HF.out] at hsm ⊢
        exact dev_renew H.out (bel1 _ _) L2.out B2.out F6.out B6.out hsm (by first | rfl | simp)
end Go.Proofs.YteabgcollokgjaaGreatDoor
namespace Go.Proofs.YteabgcollokgjaaGreatDoor
open Go.RowKit Go.MapKept Go.ChangeMaps

def loseS (s : St) (keep torn : Int) : St := decideS s.cut keep torn
def restartS (s : St) : St := if s.dn then { decideS s 0 (-1) with dn := false } else s
theorem Step.cell_after {w w1 w' : World} {p : Nat} {r r1 : Rp} (h : Step w w1 p r r1) (hg : w1.grownBy w' (some p)) : Step w w' p r r1 :=
  ⟨Ch.then h.ch (Ch.ones (Below.refl _ _) hg (.inl rfl)), h.own, h.rooms, h.reads⟩
theorem Step.cell_ahead {w w1 w' : World} {p : Nat} {r r1 : Rp} (hg : w.grownBy w1 (some p)) (h : Step w1 w' p r r1) : Step w w' p r r1 :=
  ⟨Ch.then (Ch.ones (Below.refl _ _) hg (.inl rfl)) h.ch, fun i hi => (h.own i hi).imp id (fun hh => Nat.le_trans hg.size hh), h.rooms.low hg.size, fun d hd => (h.reads d hd).imp id (fun hf => hf.low hg.size)⟩
theorem DV.cut34 {w : World} {p : Nat} {r : Rp} {s : St} (h : DV w p r s) : DV ((w.setCell ⟨p, 3, none⟩ (.bool true)).setCell ⟨p, 4, none⟩ (.int .i64 0)) p r s.cut ∧ w.grownBy ((w.setCell ⟨p, 3, none⟩ (.bool true)).setCell ⟨p, 4, none⟩ (.int .i64 0)) (some p) := by
  have hg : w.grownBy ((w.setCell ⟨p, 3, none⟩ (.bool true)).setCell ⟨p, 4, none⟩ (.int .i64 0)) (some p) := g_trans (g_set (p := ⟨p, 3, none⟩) (g_refl _ _) (.inl rfl) _) (g_set (p := ⟨p, 4, none⟩) (g_refl _ _) (.inl rfl) _)
  exact ⟨⟨h.dev.cell hg ((h.dev.cells.set_ 3 (.bool true)).set_ 4 (.int .i64 0)), h.ok.cut⟩, hg⟩
set_option maxRecDepth 100000 in
set_option maxHeartbeats 4000000 in
theorem Lose_any (p : Nat) (r : Rp) (s : St) (keep torn : Int) (w : World) (h : DV w p r s) (hL : s.ops.length ≤ 1000000) (ht : torn ≤ 9223372036854775807) : Calls Tryz.prog 51 #[.pointer (some ⟨p, 0, none⟩), .agg #[.int .i64 keep, .int .i64 torn]] w (Goes p r (loseS s keep torn) (.tuple #[]) w) := by
  have H := Lib.hid h
  have hplt := h.dev.cells.lt
  have k3 : w.cell? ⟨p, 3, none⟩ = some (.bool s.dn) := (h.dev.cells.cell 3).trans rfl
  have k4 : w.cell? ⟨p, 4, none⟩ = some (.int .i64 s.f) := (h.dev.cells.cell 4).trans rfl
  have f3 : w.frozen? ⟨p, 3, none⟩ = false := h.dev.cells.frozen 3
  have f4 : w.frozen? ⟨p, 4, none⟩ = false := h.dev.cells.frozen 4
  have hne : p ≠ w.heap.size := by omega
  have hne2 : w.heap.size ≠ p := by omega
  clear h
  go_enter Tryz.func51, Tryz.ntmps51
  go_wp2_with fail
  refine (decide_any p r s.cut keep torn _ (H.out.cut34.1.on (bel1 _ _)) hL ht).mono ?_
  rintro e w1 ⟨rfl, r', hd, hs⟩
  have D1 := Lib.hid hd
  have S1 := Lib.hid hs
  clear hd hs
  go_wp2_with fail
  go_end0
  exact ⟨rfl, r', D1.out, Step.cell_ahead H.out.cut34.2 (Step.after (bel1 _ _) S1.out)⟩
theorem Ok.dn {s : St} (h : Ok s) (b : Bool) : Ok { s with dn := b } := ⟨h.f0, h.f1, h.pre, h.ops⟩
set_option maxRecDepth 100000 in
set_option maxHeartbeats 4000000 in
theorem Restart_any (p : Nat) (r : Rp) (s : St) (w : World) (h : DV w p r s) (hL : s.ops.length ≤ 1000000) : Calls Tryz.prog 52 #[.pointer (some ⟨p, 0, none⟩)] w (Goes p r (restartS s) (.tuple #[]) w) := by
  have H := Lib.hid h
  have k3 : w.cell? ⟨p, 3, none⟩ = some (.bool s.dn) := (h.dev.cells.cell 3).trans rfl
  clear h
  cases hd : s.dn with
  | false =>
    rw [hd] at k3
    have E : Hid (restartS s = s) := by simp [Hid, restartS, hd]
    clear hd
    go_enter Tryz.func52, Tryz.ntmps52
    go_wp2_with fail
    go_end0
    rw [E.out]
    exact ⟨rfl, r, H.out, Step.same (Below.refl _ _)⟩
  | true =>
    rw [hd] at k3
    have E : Hid (restartS s = { decideS s 0 (-1) with dn := false }) := by simp [Hid, restartS, hd]
    clear hd
    go_enter Tryz.func52, Tryz.ntmps52
    go_wp2_with fail
    refine (decide_any p r s 0 (-1) _ H.out hL (by omega)).mono ?_
    rintro e w1 ⟨rfl, r', hd, hs⟩
    have D1 := Lib.hid hd
    have S1 := Lib.hid hs
    have i3 : w1.cell? ⟨p, 3, none⟩ = some (.bool (decideS s 0 (-1)).dn) := (hd.dev.cells.cell 3).trans rfl
    have j3 : w1.frozen? ⟨p, 3, none⟩ = false := hd.dev.cells.frozen 3
    clear hd hs
    go_wp2_with fail
    go_end0
    rw [E.out]
    have hg : w1.grownBy (w1.setCell ⟨p, 3, none⟩ (.bool false)) (some p) := g_set (p := ⟨p, 3, none⟩) (g_refl _ _) (.inl rfl) _
    exact ⟨rfl, r', ⟨D1.out.dev.cell hg (D1.out.dev.cells.set_ 3 (.bool false)), D1.out.ok.dn false⟩, Step.cell_after S1.out hg⟩
end Go.Proofs.YteabgcollokgjaaGreatDoor
