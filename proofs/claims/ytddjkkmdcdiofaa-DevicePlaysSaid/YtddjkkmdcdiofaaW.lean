/- Contracts: Append, Read. -/
import Derived.Test.YtddjkkmdcdiofaaV
namespace Go.Proofs.Ytddjkkmdcdiofaa
open Go.RowKit Go.MapKept Go.ChangeMaps

theorem look_some {w : World} {b : Nat} {E : Files} (h : FM w b E) {nm : ByteArray} (hn : okS nm) {v : En} (hv : asc E nm = some v) : (Instr.lookup 78 (.map (some b)) (.string nm) false).run Try.prog w = .ok (.slice v.1.A v.1.len v.1.cap) w := by
  have := MapIs.look mkS Try.underlying78 (zero22 _) h.1 hn false
  rw [show (Value.string nm) = kS nm from rfl, this, hv]
  rfl
theorem FM.at_ {w : World} {b : Nat} {E : Files} (h : FM w b E) {nm : ByteArray} {v : En} (hv : asc E nm = some v) : RB w v.1 v.2 := h.2.1 (nm, v) (mem_of_asc hv)
theorem DevN.at_ {w : World} {p : Nat} {r : Rp} {s : St} {N : FF} (h : DevN w p r s N) {nm : ByteArray} {v : En} (hv : asc r.EN nm = some v) : N nm = some v.2 := by
  rw [← h.sN, asc_plain, hv]
  rfl
set_option maxRecDepth 100000 in
set_option maxHeartbeats 8000000 in
theorem Append_any (p : Nat) (r : Rp) (s : St) (nm : ByteArray) (A : Option Addr) (c : Nat) (bs : List UInt8) (w : World) (h : DV w p r s) (hn : okS nm) (hs : SB w A bs) (hL : s.ops.length ≤ 1000000) (hbs : bs.length ≤ 1152921504606846976) :
    Calls Try.prog 17 #[.pointer (some ⟨p, 0, none⟩), .string nm, .slice A bs.length c] w (ReqPost p r s ⟨.add, nm, ByteArray.empty, bs, true⟩ w) := by
  have HD : Hid (DV (w.alloc (.cells #[.string nm] 9)) p r s) := h.on (bel1 _ _)
  have H := Lib.hid h
  have Hn := Lib.hid hn
  have HS : Hid (SB (w.alloc (.cells #[.string nm] 9)) A bs) := hs.on_lt (bel1 _ _)
  have HC : Hid (Cnt s.now r.EN.length) := h.dev.cnt
  have HH : Hid ((asc r.EN nm).isSome = (s.now nm).isSome) := h.dev.has nm
  have hL2 : r.L.length ≤ 1000000 := by rw [← h.dev.sO] at hL; simpa using hL
  have hplt : p < w.heap.size := h.dev.cells.lt
  have k1 : w.cell? ⟨p, 1, none⟩ = some (.map (some r.nb)) := (h.dev.cells.cell 1).trans rfl
  clear h hn hL hs
  by_cases hz : checkP s.dn (s.now nm).isSome [nm] = 0
  · have hdn : s.dn = false := by
      cases hd : s.dn with
      | false => rfl
      | true => rw [hd] at hz; simp [checkP] at hz
    have hnb : nameB nm = true := by
      cases hd : nameB nm with
      | true => rfl
      | false => rw [hdn] at hz; simp [checkP, hd] at hz
    have hhas : (s.now nm).isSome = true := by
      cases hd : (s.now nm).isSome with
      | true => rfl
      | false => rw [hdn, hd] at hz; simp [checkP, hnb] at hz
    obtain ⟨v, hv⟩ : ∃ v, asc r.EN nm = some v := Option.isSome_iff_exists.1 (by rw [HH.out]; exact hhas)
    have HN : Hid (s.now nm = some v.2) := H.out.dev.at_ hv
    have hlook : (Instr.lookup 78 (.map (some r.nb)) (.string nm) false).run Try.prog (w.alloc (.cells #[.string nm] 9)) = .ok (.slice v.1.A v.1.len v.1.cap) (w.alloc (.cells #[.string nm] 9)) := look_some HD.out.dev.now Hn.out hv
    have HV : Hid (v.2.length = v.1.len) := (H.out.dev.now.at_ hv).1
    have hvl : v.1.len ≤ 4194304 := by
      have := H.out.ok.now.len nm
      rw [HN.out] at this
      rw [← HV.out]
      exact this
    have HG : Hid (gate s r.EN.length ⟨.add, nm, ByteArray.empty, bs, true⟩ = if 4194304 < v.1.len + bs.length then 302 else 0) := by
      simp [Hid, gate, hdn, hnb, HN.out, HV.out]
    have hz' : checkP s.dn (asc r.EN nm).isSome [nm] = 0 := by rw [HH.out]; exact hz
    have Hz := Lib.hid hz'
    clear hz hz' hdn hnb hhas hv
    by_cases hbig : 4194304 < v.1.len + bs.length
    · have HGG : Hid (gate s r.EN.length ⟨.add, nm, ByteArray.empty, bs, true⟩ = 302) := by rw [Hid, HG.out, if_pos hbig]
      go_enter Try.func17, Try.ntmps17
      go_wp2_with fail
      refine (check_any p _ _ s.dn s.f r.nb r.EN nm w.heap.size 0 1 [nm] _ HD.out.dev.cells HD.out.dev.now Hn.out (oks1 Hn.out) (by simp) (nm_cells w 9 [nm])).mono ?_
      rw [Hz.out]
      rintro e w1 ⟨rfl, rfl⟩
      go_wp2_with fail
      go_ret
      exact req_refused (bel1 w (.cells #[.string nm] 9)) H.out HC.out HGG.out (by decide)
    · have HGG : Hid (gate s r.EN.length ⟨.add, nm, ByteArray.empty, bs, true⟩ = 0) := by rw [Hid, HG.out, if_neg hbig]
      go_enter Try.func17, Try.ntmps17
      go_wp2_with fail
      refine (check_any p _ _ s.dn s.f r.nb r.EN nm w.heap.size 0 1 [nm] _ HD.out.dev.cells HD.out.dev.now Hn.out (oks1 Hn.out) (by simp) (nm_cells w 9 [nm])).mono ?_
      rw [Hz.out]
      rintro e w1 ⟨rfl, rfl⟩
      go_wp2_with fail
      refine (CloneB_any A c bs _ HS.out (by omega)).mono ?_
      rintro e w2 ⟨d, rfl, hr2, hf2, hb2⟩
      have R2 := Lib.hid hr2
      have B2 : Hid (Below w.heap.size w w2) := (bel1 w (.cells #[.string nm] 9)).trans (hb2.mono (by simp))
      have S2 : Hid (Safe r.EN d) := safe_new HD.out.dev.now hf2
      have X2 : Hid (∀ g, blk d = some g → w.heap.size ≤ g) := fun g hg => Nat.le_trans (by simp) (hf2 g hg)
      have D2 : Hid (DV w2 p r s) := H.out.on B2.out
      clear hr2 hf2 hb2
      unfold vB
      go_wp2_with fail
      refine (do_any p r s ⟨.add, nm, ByteArray.empty, bs, true⟩ d _ D2.out.dev Hn.out okS_e R2.out S2.out H.out.ok.f0 H.out.ok.f1 hL2 (by have := H.out.ok.now.len nm; simp only; omega)).mono ?_
      intro e w3 hd
      obtain ⟨v, rfl, hr⟩ := req_of_do B2.out H.out.ok HC.out HGG.out Hn.out okS_e (by simp only; omega) X2.out hd
      have HR := Lib.hid hr
      clear hd hr
      go_wp2_with fail
      go_ret
      exact HR.out
  · obtain ⟨v, Hv⟩ : ∃ v, Hid (checkP s.dn (asc r.EN nm).isSome [nm] = v) := ⟨_, rfl⟩
    have hv : v ≠ 0 := by rw [← Hv.out, HH.out]; exact hz
    have hb : (v != 0) = true := by simpa using hv
    have HG : Hid (gate s r.EN.length ⟨.add, nm, ByteArray.empty, bs, true⟩ = v) := by
      rw [HH.out] at Hv
      have hv' := Hv.out
      simp only [checkP, gate, List.all_cons, List.all_nil, Bool.and_true] at hv' ⊢
      show (if s.dn = true then (303 : Int) else _) = v
      split at hv'
      · rename_i hd; simp only [hd, if_true] at *; exact hv'
      · rename_i hd
        split at hv'
        · rename_i hnm
          split at hv'
          · omega
          · rename_i hsm
            simp only [hd, hnm, hsm] at *; simpa using hv'
        · rename_i hnm; simp only [hd, hnm] at *; simpa using hv'
    clear hz
    go_enter Try.func17, Try.ntmps17
    go_wp2_with fail
    refine (check_any p _ _ s.dn s.f r.nb r.EN nm w.heap.size 0 1 [nm] _ HD.out.dev.cells HD.out.dev.now Hn.out (oks1 Hn.out) (by simp) (nm_cells w 9 [nm])).mono ?_
    rw [Hv.out]
    rintro e w1 ⟨rfl, rfl⟩
    go_wp2_with fail
    go_ret
    exact req_refused (bel1 w (.cells #[.string nm] 9)) H.out HC.out HG.out hv

/-- What Read returns. -/
def readE (s : St) (nm : ByteArray) : Int := checkP s.dn (s.now nm).isSome [nm]
def readB (s : St) (nm : ByteArray) : List UInt8 := if readE s nm = 0 then (s.now nm).getD [] else []
def ReadPost (s : St) (nm : ByteArray) (w : World) (e : Ending) (w' : World) : Prop :=
  ∃ d, e = .returned (.tuple #[vB d, .int .i64 (readE s nm)]) ∧ RB w' d (readB s nm) ∧ (∀ g, blk d = some g → w.heap.size ≤ g) ∧ Below w.heap.size w w'
set_option maxRecDepth 100000 in
set_option maxHeartbeats 8000000 in
theorem Read_any (p : Nat) (r : Rp) (s : St) (nm : ByteArray) (w : World) (h : DV w p r s) (hn : okS nm) :
    Calls Try.prog 20 #[.pointer (some ⟨p, 0, none⟩), .string nm] w (ReadPost s nm w) := by
  have HD : Hid (DV (w.alloc (.cells #[.string nm] 9)) p r s) := h.on (bel1 _ _)
  have H := Lib.hid h
  have Hn := Lib.hid hn
  have HH : Hid ((asc r.EN nm).isSome = (s.now nm).isSome) := h.dev.has nm
  have hplt : p < w.heap.size := h.dev.cells.lt
  have k1 : w.cell? ⟨p, 1, none⟩ = some (.map (some r.nb)) := (h.dev.cells.cell 1).trans rfl
  clear h hn
  by_cases hz : checkP s.dn (s.now nm).isSome [nm] = 0
  · have hhas : (s.now nm).isSome = true := by
      cases hd : (s.now nm).isSome with
      | true => rfl
      | false =>
        rw [hd] at hz
        simp only [checkP] at hz
        split at hz
        · omega
        · split at hz
          · simp at hz
          · omega
    obtain ⟨v, hv⟩ : ∃ v, asc r.EN nm = some v := Option.isSome_iff_exists.1 (by rw [HH.out]; exact hhas)
    have HN : Hid (s.now nm = some v.2) := H.out.dev.at_ hv
    have hlook : (Instr.lookup 78 (.map (some r.nb)) (.string nm) false).run Try.prog (w.alloc (.cells #[.string nm] 9)) = .ok (.slice v.1.A v.1.len v.1.cap) (w.alloc (.cells #[.string nm] 9)) := look_some HD.out.dev.now Hn.out hv
    have HR : Hid (RB (w.alloc (.cells #[.string nm] 9)) v.1 v.2) := HD.out.dev.now.at_ hv
    have hvl : v.2.length ≤ 4194304 := by
      have := H.out.ok.now.len nm
      rw [HN.out] at this
      exact this
    obtain ⟨⟨A, n, c⟩, bs⟩ := v
    obtain rfl : bs.length = n := HR.out.1
    have hz' : checkP s.dn (asc r.EN nm).isSome [nm] = 0 := by rw [HH.out]; exact hz
    have Hz := Lib.hid hz'
    have HE : Hid (readE s nm = 0 ∧ readB s nm = bs) := ⟨hz, by rw [readB, readE, if_pos hz, HN.out]; rfl⟩
    clear hz hz' hhas hv
    go_enter Try.func20, Try.ntmps20
    go_wp2_with fail
    refine (check_any p _ _ s.dn s.f r.nb r.EN nm w.heap.size 0 1 [nm] _ HD.out.dev.cells HD.out.dev.now Hn.out (oks1 Hn.out) (by simp) (nm_cells w 9 [nm])).mono ?_
    rw [Hz.out]
    rintro e w1 ⟨rfl, rfl⟩
    go_wp2_with fail
    refine (CloneB_any A c bs _ HR.out.src (by omega)).mono ?_
    rintro e w2 ⟨d, rfl, hr2, hf2, hb2⟩
    have R2 := Lib.hid hr2
    have F2 : Hid (∀ g, blk d = some g → w.heap.size ≤ g) := fun g hg => Nat.le_trans (by simp) (hf2 g hg)
    have B2 : Hid (Below w.heap.size w w2) := (bel1 w (.cells #[.string nm] 9)).trans (hb2.mono (by simp))
    clear hr2 hf2 hb2
    go_wp2_with fail
    go_ret2
    rw [ReadPost, HE.out.1, HE.out.2]
    exact ⟨d, rfl, R2.out, F2.out, B2.out⟩
  · obtain ⟨v, Hv⟩ : ∃ v, Hid (checkP s.dn (asc r.EN nm).isSome [nm] = v) := ⟨_, rfl⟩
    have hv : v ≠ 0 := by rw [← Hv.out, HH.out]; exact hz
    have hb : (v != 0) = true := by simpa using hv
    have HE : Hid (readE s nm = v ∧ readB s nm = []) := ⟨by rw [readE, ← HH.out]; exact Hv.out, by simp [readB, readE, hz]⟩
    clear hz
    go_enter Try.func20, Try.ntmps20
    go_wp2_with fail
    refine (check_any p _ _ s.dn s.f r.nb r.EN nm w.heap.size 0 1 [nm] _ HD.out.dev.cells HD.out.dev.now Hn.out (oks1 Hn.out) (by simp) (nm_cells w 9 [nm])).mono ?_
    rw [Hv.out]
    rintro e w1 ⟨rfl, rfl⟩
    go_wp2_with fail
    go_ret2
    rw [ReadPost, HE.out.1, HE.out.2]
    exact ⟨⟨none, 0, 0⟩, rfl, vd_rb _, (fun g hg => by cases hg), bel1 _ _⟩
end Go.Proofs.Ytddjkkmdcdiofaa
