/- Contracts: Delete, Rename. -/
import Derived.Test.YtddjkkmdcdiofaaT
namespace Go.Proofs.Ytddjkkmdcdiofaa
open Go.RowKit Go.MapKept Go.ChangeMaps

theorem DevN.has {w : World} {p : Nat} {r : Rp} {s : St} {N : FF} (h : DevN w p r s N) (nm : ByteArray) : (asc r.EN nm).isSome = (N nm).isSome := by
  rw [← h.sN nm, asc_plain]
  cases asc r.EN nm <;> rfl
theorem DevN.cnt {w : World} {p : Nat} {r : Rp} {s : St} {N : FF} (h : DevN w p r s N) : Cnt N r.EN.length := Cnt.files h.now h.sN
theorem oks1 {nm : ByteArray} (h : okS nm) : ∀ n ∈ [nm], okS n := by
  intro n hn
  simp at hn
  subst hn
  exact h
theorem oks2 {nm to : ByteArray} (h : okS nm) (h2 : okS to) : ∀ n ∈ [nm, to], okS n := by
  intro n hn
  simp at hn
  rcases hn with rfl | rfl
  · exact h
  · exact h2
theorem okS_e : okS ByteArray.empty := by simp [okS, maxLen]
/-- The one name of a call of check, as it lies. -/
theorem nm_cells (w : World) (t : TypeId) (ns : List ByteArray) : ∀ j, j < ns.length → (w.alloc (.cells (ns.map Value.string).toArray t)).cell? ⟨w.heap.size, 0 + j, none⟩ = some (.string (ns.getD j ByteArray.empty)) := by
  intro j hj
  rw [Nat.zero_add, new_cell _ _ _ _ rfl, List.getElem?_toArray, List.getElem?_map, List.getElem?_eq_getElem hj, List.getD_eq_getElem?_getD, List.getElem?_eq_getElem hj]
  rfl
theorem vd_rb (w : World) : RB w ⟨none, 0, 0⟩ [] := ⟨rfl, Nat.le_refl _, fun _ => rfl, (fun ad e => by cases e)⟩
theorem vd_safe (E : Files) : Safe E ⟨none, 0, 0⟩ := fun p _ hb => by cases hb
set_option maxRecDepth 100000 in
set_option maxHeartbeats 4000000 in
theorem Delete_any (p : Nat) (r : Rp) (s : St) (nm : ByteArray) (w : World) (h : DV w p r s) (hn : okS nm) (hL : s.ops.length ≤ 1000000) :
    Calls Try.prog 33 #[.pointer (some ⟨p, 0, none⟩), .string nm] w (ReqPost p r s ⟨.remove, nm, ByteArray.empty, [], false⟩ w) := by
  have HD : Hid (DV (w.alloc (.cells #[.string nm] 9)) p r s) := h.on (bel1 _ _)
  have H := Lib.hid h
  have Hn := Lib.hid hn
  have HC : Hid (Cnt s.now r.EN.length) := h.dev.cnt
  have HH : Hid ((asc r.EN nm).isSome = (s.now nm).isSome) := h.dev.has nm
  have hL2 : r.L.length ≤ 1000000 := by rw [← h.dev.sO] at hL; simpa using hL
  clear h hn hL
  by_cases hz : checkP s.dn (s.now nm).isSome [nm] = 0
  · have HG : Hid (gate s r.EN.length ⟨.remove, nm, ByteArray.empty, [], false⟩ = 0) := by
      simp only [checkP] at hz
      simp only [Hid, gate]
      simpa using hz
    have hz' : checkP s.dn (asc r.EN nm).isSome [nm] = 0 := by rw [HH.out]; exact hz
    have Hz := Lib.hid hz'
    clear hz hz'
    go_enter Try.func33, Try.ntmps33
    go_wp2_with fail
    refine (check_any p _ _ s.dn s.f r.nb r.EN nm w.heap.size 0 1 [nm] _ HD.out.dev.cells HD.out.dev.now Hn.out (oks1 Hn.out) (by simp) (nm_cells w 9 [nm])).mono ?_
    rw [Hz.out]
    rintro e w1 ⟨rfl, rfl⟩
    go_wp2_with fail
    refine (do_any p r s ⟨.remove, nm, ByteArray.empty, [], false⟩ ⟨none, 0, 0⟩ _ HD.out.dev Hn.out okS_e (vd_rb _) (vd_safe _) H.out.ok.f0 H.out.ok.f1 hL2 (by have := H.out.ok.now.len nm; simp only [List.length_nil]; omega)).mono ?_
    intro e w2 hd
    obtain ⟨v, rfl, hr⟩ := req_of_do (bel1 w (.cells #[.string nm] 9)) H.out.ok HC.out HG.out Hn.out okS_e (by simp) (fun g hg => by cases hg) hd
    have HR := Lib.hid hr
    clear hd hr
    go_wp2_with fail
    go_ret
    exact HR.out
  · obtain ⟨v, Hv⟩ : ∃ v, Hid (checkP s.dn (asc r.EN nm).isSome [nm] = v) := ⟨_, rfl⟩
    have hv : v ≠ 0 := by rw [← Hv.out, HH.out]; exact hz
    have hb : (v != 0) = true := by simpa using hv
    have HG : Hid (gate s r.EN.length ⟨.remove, nm, ByteArray.empty, [], false⟩ = v) := by
      rw [Hid, ← Hv.out, HH.out]
      simp only [checkP, gate]
      simp
    clear hz
    go_enter Try.func33, Try.ntmps33
    go_wp2_with fail
    refine (check_any p _ _ s.dn s.f r.nb r.EN nm w.heap.size 0 1 [nm] _ HD.out.dev.cells HD.out.dev.now Hn.out (oks1 Hn.out) (by simp) (nm_cells w 9 [nm])).mono ?_
    rw [Hv.out]
    rintro e w1 ⟨rfl, rfl⟩
    go_wp2_with fail
    go_ret
    exact req_refused (bel1 w (.cells #[.string nm] 9)) H.out HC.out HG.out hv
set_option maxRecDepth 100000 in
set_option maxHeartbeats 4000000 in
theorem Rename_any (p : Nat) (r : Rp) (s : St) (nm to : ByteArray) (w : World) (h : DV w p r s) (hn : okS nm) (ht : okS to) (hL : s.ops.length ≤ 1000000) :
    Calls Try.prog 34 #[.pointer (some ⟨p, 0, none⟩), .string nm, .string to] w (ReqPost p r s ⟨.rename, nm, to, [], false⟩ w) := by
  have HD : Hid (DV (w.alloc (.cells #[.string nm, .string to] 9)) p r s) := h.on (bel1 _ _)
  have H := Lib.hid h
  have Hn := Lib.hid hn
  have Ht := Lib.hid ht
  have HC : Hid (Cnt s.now r.EN.length) := h.dev.cnt
  have HH : Hid ((asc r.EN nm).isSome = (s.now nm).isSome) := h.dev.has nm
  have hL2 : r.L.length ≤ 1000000 := by rw [← h.dev.sO] at hL; simpa using hL
  clear h hn ht hL
  by_cases hz : checkP s.dn (s.now nm).isSome [nm, to] = 0
  · have HG : Hid (gate s r.EN.length ⟨.rename, nm, to, [], false⟩ = 0) := by
      simp only [checkP] at hz
      simp only [Hid, gate]
      simpa using hz
    have hz' : checkP s.dn (asc r.EN nm).isSome [nm, to] = 0 := by rw [HH.out]; exact hz
    have Hz := Lib.hid hz'
    clear hz hz'
    go_enter Try.func34, Try.ntmps34
    go_wp2_with fail
    refine (check_any p _ _ s.dn s.f r.nb r.EN nm w.heap.size 0 2 [nm, to] _ HD.out.dev.cells HD.out.dev.now Hn.out (oks2 Hn.out Ht.out) (by simp) (nm_cells w 9 [nm, to])).mono ?_
    rw [Hz.out]
    rintro e w1 ⟨rfl, rfl⟩
    go_wp2_with fail
    refine (do_any p r s ⟨.rename, nm, to, [], false⟩ ⟨none, 0, 0⟩ _ HD.out.dev Hn.out Ht.out (vd_rb _) (vd_safe _) H.out.ok.f0 H.out.ok.f1 hL2 (by have := H.out.ok.now.len nm; simp only [List.length_nil]; omega)).mono ?_
    intro e w2 hd
    obtain ⟨v, rfl, hr⟩ := req_of_do (bel1 w (.cells #[.string nm, .string to] 9)) H.out.ok HC.out HG.out Hn.out Ht.out (by simp) (fun g hg => by cases hg) hd
    have HR := Lib.hid hr
    clear hd hr
    go_wp2_with fail
    go_ret
    exact HR.out
  · obtain ⟨v, Hv⟩ : ∃ v, Hid (checkP s.dn (asc r.EN nm).isSome [nm, to] = v) := ⟨_, rfl⟩
    have hv : v ≠ 0 := by rw [← Hv.out, HH.out]; exact hz
    have hb : (v != 0) = true := by simpa using hv
    have HG : Hid (gate s r.EN.length ⟨.rename, nm, to, [], false⟩ = v) := by
      rw [Hid, ← Hv.out, HH.out]
      simp only [checkP, gate]
      simp
    clear hz
    go_enter Try.func34, Try.ntmps34
    go_wp2_with fail
    refine (check_any p _ _ s.dn s.f r.nb r.EN nm w.heap.size 0 2 [nm, to] _ HD.out.dev.cells HD.out.dev.now Hn.out (oks2 Hn.out Ht.out) (by simp) (nm_cells w 9 [nm, to])).mono ?_
    rw [Hv.out]
    rintro e w1 ⟨rfl, rfl⟩
    go_wp2_with fail
    go_ret
    exact req_refused (bel1 w (.cells #[.string nm, .string to] 9)) H.out HC.out HG.out hv
theorem safe_new {w : World} {b : Nat} {E : Files} (h : FM w b E) {d : BD} (hd : ∀ g, blk d = some g → w.heap.size ≤ g) : Safe E d := fun q hq hb => by
  obtain ⟨cur, hcur⟩ := rooms_byte h hq
  have := hcur.lt
  have := hd _ hb
  omega
end Go.Proofs.Ytddjkkmdcdiofaa
