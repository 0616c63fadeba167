/- Contracts: the reference's Check. -/
import Derived.Test.YtjglpmcekbjoaaaF
namespace Go.Proofs.Ytjglpmcekbjoaaa
open Go.RowKit Go.Shelf Go.Sort
attribute [local go_sem] wext_cell

set_option maxHeartbeats 8000000 in
theorem rCheck_any (x : Nat) (t : List CT) (A : Option Addr) (c : Nat) (w : World) (hr : RdC w x A t) (hn : t.length ≤ 9223372036854775807) :
    Calls Try.prog 35 #[.slice A t.length c] w (Gives (.int .i64 (tblE t)) w) := by
  have Hr := Lib.hid hr
  clear hr
  by_cases hl : t.length ≤ 4096
  · go_enter Try.func35, Try.ntmps35
    go_wp2_with fail
    go_loopw [3] (fun i wr => ∃ k : Nat, k ≤ t.length ∧ i = .int .i64 k ∧ Hid ((List.range k).all (okC t) = true) ∧ Below w.heap.size w wr) (fun i _ => t.length - (intOf i).toNat)
    case atStart => exact ⟨0, Nat.zero_le _, rfl, rfl, Below.refl _ _⟩
    case round =>
      obtain ⟨k, hk, rfl, HK, hb⟩ := hrel
      have hsz := hb.size
      by_cases hlt : k < t.length
      · obtain ⟨b, o, rfl, hbB, _, hc⟩ := Hr.out (by omega)
        obtain ⟨s, z, n, HI⟩ : ∃ s z n, Hid (t.getD k ct0 = ((s, z), n)) := ⟨_, _, _, rfl⟩
        have hc0 : wr.cell? ⟨b, o + k * 3, none⟩ = some (.int .u64 s) := by rw [hb.cell (p := ⟨b, o + k * 3, none⟩) hbB]; exact hc k hlt 0 _ (by rw [HI.out]; rfl)
        have hc1 : wr.cell? ⟨b, o + k * 3 + 1, none⟩ = some (.int .i64 z) := by rw [hb.cell (p := ⟨b, o + k * 3 + 1, none⟩) hbB]; exact hc k hlt 1 _ (by rw [HI.out]; rfl)
        have hc2 : wr.cell? ⟨b, o + k * 3 + 2, none⟩ = some (.int .i64 n) := by rw [hb.cell (p := ⟨b, o + k * 3 + 2, none⟩) hbB]; exact hc k hlt 2 _ (by rw [HI.out]; rfl)
        have HC := Lib.hid hc
        have hbl : b < wr.heap.size := by omega
        have Hb := Lib.hid hb
        have fin : ∀ w2, Below (wr.heap.size + 1) (wr.alloc (.cells #[.int .u64 s, .int .i64 z] 43)) w2 → Below w.heap.size w w2 := fun w2 h2 =>
          (hb.alloc hb.size _).trans (h2.mono (by omega))
        have Fin := Lib.hid fin
        clear hc fin
        have HV := Lib.hid (fun W => rValid_any s z W)
        cases hv : validB (s, z) with
        | false =>
          have HE : Hid (tblE t = 280) := tbl_bad hlt (okC_bad HI.out (by simp [rowB, chunkB, hv]))
          rw [hv] at HV
          clear hv hb
          go_wp2_with fail
          refine wp_region_ext (by kernel_rfl) (by kernel_rfl) ?_
          repeat (go_big_quiet_step ((go_at_call 55; exact ext_call (HV.out _))))
          refine wpQuiet_nil ?_
          intro w2 hb2
          go_wp2_with fail
          go_ret
          exact gv HE.out (Fin.out w2 (by simpa using hb2))
        | true =>
          rw [hv] at HV
          by_cases h0 : z < 1
          · have HE : Hid (tblE t = 280) := tbl_bad hlt (okC_bad HI.out (by simp [rowB, chunkB]; omega))
            have hd0 : decide (z < 1) = true := by simp; omega
            clear hv hb
            go_wp2_with fail
            refine wp_region_ext (by kernel_rfl) (by kernel_rfl) ?_
            repeat (go_big_quiet_step ((go_at_call 55; exact ext_call (HV.out _))))
            refine wpQuiet_nil ?_
            intro w2 hb2
            go_wp2_with fail
            go_ret
            exact gv HE.out (Fin.out w2 (by simpa using hb2))
          · have hd0 : decide (z < 1) = false := by simp; omega
            by_cases h1 : 8192 < z
            · have HE : Hid (tblE t = 280) := tbl_bad hlt (okC_bad HI.out (by simp [rowB, chunkB]; omega))
              have hd1 : decide (8192 < z) = true := by simp; omega
              clear hv hb
              go_wp2_with fail
              refine wp_region_ext (by kernel_rfl) (by kernel_rfl) ?_
              repeat (go_big_quiet_step ((go_at_call 55; exact ext_call (HV.out _))))
              refine wpQuiet_nil ?_
              intro w2 hb2
              go_wp2_with fail
              go_ret
              exact gv HE.out (Fin.out w2 (by simpa using hb2))
            · have hd1 : decide (8192 < z) = false := by simp; omega
              by_cases h2 : n < 0
              · have HE : Hid (tblE t = 280) := tbl_bad hlt (okC_bad HI.out (by simp [rowB, chunkB]; omega))
                have hd2 : decide (n < 0) = true := by simp; omega
                clear hv hb
                go_wp2_with fail
                refine wp_region_ext (by kernel_rfl) (by kernel_rfl) ?_
                repeat (go_big_quiet_step ((go_at_call 55; exact ext_call (HV.out _))))
                refine wpQuiet_nil ?_
                intro w2 hb2
                go_wp2_with fail
                go_ret
                exact gv HE.out (Fin.out w2 (by simpa using hb2))
              · have hd2 : decide (n < 0) = false := by simp; omega
                by_cases h3 : 1073741824 < n
                · have HE : Hid (tblE t = 280) := tbl_bad hlt (okC_bad HI.out (by simp [rowB, chunkB]; omega))
                  have hd3 : decide (1073741824 < n) = true := by simp; omega
                  clear hv hb
                  go_wp2_with fail
                  refine wp_region_ext (by kernel_rfl) (by kernel_rfl) ?_
                  repeat (go_big_quiet_step ((go_at_call 55; exact ext_call (HV.out _))))
                  refine wpQuiet_nil ?_
                  intro w2 hb2
                  go_wp2_with fail
                  go_ret
                  exact gv HE.out (Fin.out w2 (by simpa using hb2))
                · have hd3 : decide (1073741824 < n) = false := by simp; omega
                  have HR : Hid (rowB ((s, z), n) = true) := by simp [Hid, rowB, chunkB, hv]; omega
                  clear hv
                  by_cases hk0 : k = 0
                  · have hkd : decide (0 < k) = false := by simp [hk0]
                    have HO : Hid (okC t k = true) := okC_zero HI.out HR.out hk0
                    clear hk0 hb
                    go_wp2_with fail
                    refine wp_region_ext (by kernel_rfl) (by kernel_rfl) ?_
                    repeat (go_big_quiet_step ((go_at_call 55; exact ext_call (HV.out _))))
                    refine wpQuiet_nil ?_
                    intro w2 hb2
                    go_wp2_with fail
                    go_roundw
                    case rel => exact ⟨k + 1, by omega, by go_num, all_snoc HK.out HO.out, Fin.out w2 (by simpa using hb2)⟩
                    case measure => simp [intOf]; omega
                  · have hkd : decide (0 < k) = true := by simp; omega
                    have hk1 : 0 < k := by omega
                    obtain ⟨p, r, m, HP⟩ : ∃ p r m, Hid (t.getD (k - 1) ct0 = ((p, r), m)) := ⟨_, _, _, rfl⟩
                    have ek : ((k : Int) - 1).toNat = k - 1 := by omega
                    have hp0 : wr.cell? ⟨b, o + (k - 1) * 3, none⟩ = some (.int .u64 p) := by rw [hb.cell (p := ⟨b, o + (k - 1) * 3, none⟩) hbB]; exact HC.out (k - 1) (by omega) 0 _ (by rw [HP.out]; rfl)
                    have hp1 : wr.cell? ⟨b, o + (k - 1) * 3 + 1, none⟩ = some (.int .i64 r) := by rw [hb.cell (p := ⟨b, o + (k - 1) * 3 + 1, none⟩) hbB]; exact HC.out (k - 1) (by omega) 1 _ (by rw [HP.out]; rfl)
                    clear hb
                    have HL := Lib.hid (fun W => Less_any p r s z W)
                    cases hlo : ltID (p, r) (s, z) with
                    | true =>
                      have HO : Hid (okC t k = true) := okC_far HI.out HP.out HR.out hlo
                      rw [hlo] at HL
                      clear hlo
                      go_wp2_with fail
                      refine wp_region_ext (by kernel_rfl) (by kernel_rfl) ?_
                      repeat (go_big_quiet_step ((first | (go_at_call 55; exact ext_call (HV.out _)) | (go_at_call 56; exact ext_call (HL.out _)))))
                      refine wpQuiet_nil ?_
                      intro w2 hb2
                      go_wp2_with fail
                      go_roundw
                      case rel => exact ⟨k + 1, by omega, by go_num, all_snoc HK.out HO.out, Fin.out w2 (by simpa using hb2)⟩
                      case measure => simp [intOf]; omega
                    | false =>
                      have HE : Hid (tblE t = 280) := tbl_bad hlt (okC_near HI.out HP.out hk1 hlo)
                      rw [hlo] at HL
                      clear hlo
                      go_wp2_with fail
                      refine wp_region_ext (by kernel_rfl) (by kernel_rfl) ?_
                      repeat (go_big_quiet_step ((first | (go_at_call 55; exact ext_call (HV.out _)) | (go_at_call 56; exact ext_call (HL.out _)))))
                      refine wpQuiet_nil ?_
                      intro w2 hb2
                      go_wp2_with fail
                      go_ret
                      exact gv HE.out (Fin.out w2 (by simpa using hb2))
      · obtain rfl : k = t.length := by omega
        have HE : Hid (tblE t = 0) := tbl_good hl HK.out
        go_wp2_with fail
        go_ret
        exact gv HE.out hb
  · have HE : Hid (tblE t = 280) := tbl_long hl
    go_enter Try.func35, Try.ntmps35
    go_wp2_with fail
    go_ret
    exact gv HE.out (Below.refl _ _)
end Go.Proofs.Ytjglpmcekbjoaaa
