/- Contracts: Create. -/
import Derived.Test.YtddjkkmdcdiofaaU
namespace Go.Proofs.Ytddjkkmdcdiofaa
open Go.RowKit Go.MapKept Go.ChangeMaps

theorem SB.on_lt {w w' : World} {A : Option Addr} {bs : List UInt8} (h : SB w A bs) (hb : Below w.heap.size w w') : SB w' A bs := h.on hb h.lt
set_option maxRecDepth 100000 in
set_option maxHeartbeats 8000000 in
theorem Create_any (p : Nat) (r : Rp) (s : St) (nm : ByteArray) (A : Option Addr) (c : Nat) (bs : List UInt8) (w : World) (h : DV w p r s) (hn : okS nm) (hs : SB w A bs) (hL : s.ops.length ≤ 1000000) (hbs : bs.length ≤ 9223372036854775807) :
    Calls Try.prog 14 #[.pointer (some ⟨p, 0, none⟩), .string nm, .slice A bs.length c] w (ReqPost p r s ⟨.create, nm, ByteArray.empty, bs, true⟩ w) := by
  have HD : Hid (DV (w.alloc (.cells #[.string nm] 9)) p r s) := h.on (bel1 _ _)
  have H := Lib.hid h
  have Hn := Lib.hid hn
  have HS : Hid (SB (w.alloc (.cells #[.string nm] 9)) A bs) := hs.on_lt (bel1 _ _)
  have HC : Hid (Cnt s.now r.EN.length) := h.dev.cnt
  have HH : Hid ((asc r.EN nm).isSome = (s.now nm).isSome) := h.dev.has nm
  have hL2 : r.L.length ≤ 1000000 := by rw [← h.dev.sO] at hL; simpa using hL
  have hEN : r.EN.length ≤ 256 := by
    obtain ⟨_, c, hc, hc2⟩ := h.ok.now
    have := hc2.uniq h.dev.cnt
    omega
  have hplt : p < w.heap.size := h.dev.cells.lt
  have k1 : w.cell? ⟨p, 1, none⟩ = some (.map (some r.nb)) := (h.dev.cells.cell 1).trans rfl
  have hlen : (Builtin.len_ #[78] 3 #[.map (some r.nb)]).run Try.prog (w.alloc (.cells #[.string nm] 9)) = .ok (.int .i64 r.EN.length) (w.alloc (.cells #[.string nm] 9)) := HD.out.dev.now.1.len Try.underlying78 3
  clear h hn hL hs
  by_cases hz : checkP s.dn (s.now nm).isSome [nm] = 0 ∨ checkP s.dn (s.now nm).isSome [nm] = 301
  · have hdn : s.dn = false := by
      cases hd : s.dn with
      | false => rfl
      | true => rw [hd] at hz; simp [checkP] at hz
    have hnb : nameB nm = true := by
      cases hd : nameB nm with
      | true => rfl
      | false => rw [hdn] at hz; simp [checkP, hd] at hz
    have HG : Hid (∀ n, gate s n ⟨.create, nm, ByteArray.empty, bs, true⟩ = if 4194304 < bs.length ∨ ((s.now nm).isSome = false ∧ 256 ≤ n) then 302 else 0) := by
      intro n
      simp [gate, hdn, hnb]
    obtain ⟨has, Hhas⟩ : ∃ b, Hid ((s.now nm).isSome = b) := ⟨_, rfl⟩
    have HK : Hid (checkP s.dn (asc r.EN nm).isSome [nm] = if has then 0 else 301) := by
      rw [Hid, HH.out, Hhas.out]; simp [checkP, hdn, hnb]
    clear hz
    by_cases hbig : 4194304 < bs.length
    · have HGG : Hid (gate s r.EN.length ⟨.create, nm, ByteArray.empty, bs, true⟩ = 302) := by rw [Hid, HG.out, if_pos (.inl hbig)]
      cases has
      all_goals (
        clear hdn hnb
        go_enter Try.func14, Try.ntmps14
        go_wp2_with fail
        refine (check_any p _ _ s.dn s.f r.nb r.EN nm w.heap.size 0 1 [nm] _ HD.out.dev.cells HD.out.dev.now Hn.out (oks1 Hn.out) (by simp) (nm_cells w 9 [nm])).mono ?_
        rw [HK.out]
        rintro e w1 ⟨rfl, rfl⟩
        go_wp2_with fail
        go_ret
        exact req_refused (bel1 w (.cells #[.string nm] 9)) H.out HC.out HGG.out (by decide))
    · by_cases hful : has = false ∧ 256 ≤ r.EN.length
      · obtain ⟨rfl, hful⟩ := hful
        have HGG : Hid (gate s r.EN.length ⟨.create, nm, ByteArray.empty, bs, true⟩ = 302) := by rw [Hid, HG.out, if_pos (.inr ⟨Hhas.out, hful⟩)]
        clear hdn hnb
        go_enter Try.func14, Try.ntmps14
        go_wp2_with fail
        refine (check_any p _ _ s.dn s.f r.nb r.EN nm w.heap.size 0 1 [nm] _ HD.out.dev.cells HD.out.dev.now Hn.out (oks1 Hn.out) (by simp) (nm_cells w 9 [nm])).mono ?_
        rw [HK.out]
        rintro e w1 ⟨rfl, rfl⟩
        go_wp2_with fail
        go_ret
        exact req_refused (bel1 w (.cells #[.string nm] 9)) H.out HC.out HGG.out (by decide)
      · have HGG : Hid (gate s r.EN.length ⟨.create, nm, ByteArray.empty, bs, true⟩ = 0) := by
          rw [Hid, HG.out, if_neg]
          rintro (hh | hh)
          · exact hbig hh
          · exact hful ⟨by rw [← Hhas.out]; exact hh.1, hh.2⟩
        have hfl : has = false → r.EN.length < 256 := fun hh => by
          have : ¬ 256 ≤ r.EN.length := fun h2 => hful ⟨hh, h2⟩
          omega
        clear hful
        cases has
        all_goals (
          first | (have hfl2 : r.EN.length < 256 := hfl rfl) | skip
          clear hdn hnb hfl
          go_enter Try.func14, Try.ntmps14
          go_wp2_with fail
          refine (check_any p _ _ s.dn s.f r.nb r.EN nm w.heap.size 0 1 [nm] _ HD.out.dev.cells HD.out.dev.now Hn.out (oks1 Hn.out) (by simp) (nm_cells w 9 [nm])).mono ?_
          rw [HK.out]
          rintro e w1 ⟨rfl, rfl⟩
          go_wp2_with fail
          refine (CloneB_any A c bs _ HS.out (by omega)).mono ?_
          rintro e w2 ⟨d, rfl, hr2, hf2, hb2⟩
          have R2 := Lib.hid hr2
          have B2 : Hid (Below w.heap.size w w2) := (bel1 w (.cells #[.string nm] 9)).trans (hb2.mono (by simp))
          have S2 : Hid (Safe r.EN d) := safe_new HD.out.dev.now hf2
          have X2 : Hid (∀ g, blk d = some g → w.heap.size ≤ g) := fun g hg => Nat.le_trans (by simp) (hf2 g hg)
          have D2 : Hid (DV w2 p r s) := H.out.on B2.out
          clear hr2 hf2 hb2
          unfold vB
          go_wp2_with fail
          refine (do_any p r s ⟨.create, nm, ByteArray.empty, bs, true⟩ d _ D2.out.dev Hn.out okS_e R2.out S2.out H.out.ok.f0 H.out.ok.f1 hL2 (by have := H.out.ok.now.len nm; simp only; omega)).mono ?_
          intro e w3 hd
          obtain ⟨v, rfl, hr⟩ := req_of_do B2.out H.out.ok HC.out HGG.out Hn.out okS_e (by simp only; omega) X2.out hd
          have HR := Lib.hid hr
          clear hd hr
          go_wp2_with fail
          go_ret
          exact HR.out)
  · obtain ⟨v, Hv⟩ : ∃ v, Hid (checkP s.dn (asc r.EN nm).isSome [nm] = v) := ⟨_, rfl⟩
    have hv : v ≠ 0 := by rw [← Hv.out, HH.out]; exact fun hh => hz (.inl hh)
    have hv3 : v ≠ 301 := by rw [← Hv.out, HH.out]; exact fun hh => hz (.inr hh)
    have hb : (v != 0) = true := by simpa using hv
    have hb3 : (v != 301) = true := by simpa using hv3
    have HG : Hid (gate s r.EN.length ⟨.create, nm, ByteArray.empty, bs, true⟩ = v) := by
      rw [HH.out] at Hv
      have hv' := Hv.out
      simp only [checkP, gate, List.all_cons, List.all_nil, Bool.and_true] at hv' ⊢
      show (if s.dn = true then (303 : Int) else _) = v
      split at hv'
      · rename_i hd; simp only [hd, if_true] at *; exact hv'
      · rename_i hd
        split at hv'
        · split at hv' <;> omega
        · rename_i hnm; simp only [hd, hnm] at *; simpa using hv'
    clear hz
    go_enter Try.func14, Try.ntmps14
    go_wp2_with fail
    refine (check_any p _ _ s.dn s.f r.nb r.EN nm w.heap.size 0 1 [nm] _ HD.out.dev.cells HD.out.dev.now Hn.out (oks1 Hn.out) (by simp) (nm_cells w 9 [nm])).mono ?_
    rw [Hv.out]
    rintro e w1 ⟨rfl, rfl⟩
    go_wp2_with fail
    go_ret
    exact req_refused (bel1 w (.cells #[.string nm] 9)) H.out HC.out HG.out hv
end Go.Proofs.Ytddjkkmdcdiofaa
