/- Contracts: without of the reference. -/
import Derived.Test.YtddjkkmdcdiofaaRC
namespace Go.Proofs.Ytddjkkmdcdiofaa
open Go.RowKit Go.MapKept Go.ChangeMaps

set_option maxRecDepth 100000 in
set_option maxHeartbeats 4000000 in
theorem without_any (A : Option Addr) (c : Nat) (fs : List RFile) (n : ByteArray) (w : World) (h : FL w A c fs) (hl : fs.length ≤ 100000) : Calls Try.prog 83 #[.slice A fs.length c, .string n] w (FLPost (withoutR fs n) w) := by
  obtain ⟨i0, hi, hz0, hz1, hz2⟩ := info_parts info101
  have H := Lib.hid h
  clear h
  obtain ⟨p, HP⟩ : ∃ p, Hid (posP fs n = p) := ⟨_, rfl⟩
  have hple : p ≤ fs.length := by rw [← HP.out]; exact posP_le _ _
  obtain ⟨b, Hb⟩ : ∃ b, Hid (hasP fs n = b) := ⟨_, rfl⟩
  have HWE : Hid (withoutR fs n = if b then fs.take p ++ fs.drop (p + 1) else fs) := by rw [Hid, withoutR_eq, HP.out, Hb.out]
  go_enter Try.func83, Try.ntmps83
  go_wp2_with fail
  refine (place_any A c fs n _ H.out hl).mono ?_
  rintro e w1 ⟨he, hb1⟩
  rw [HP.out, Hb.out] at he
  subst he
  have F1 : Hid (FL w1 A c fs) := H.out.on hb1
  have B1 := Lib.hid hb1
  clear hb1
  cases b
  · go_wp2_with fail
    go_ret
    exact ⟨A, c, by rw [HWE.out]; rfl, by rw [HWE.out]; exact F1.out, B1.out⟩
  · have HTl : Hid (((fs.take p).flatMap encF).length = p * 2) := by rw [Hid, flat_len encF_len, List.length_take]; congr 1; omega
    have hpl : p < fs.length := by
      obtain ⟨y, hy, _⟩ := posP_at H.out.sort Hb.out
      rw [HP.out] at hy
      exact (List.getElem?_eq_some_iff.1 hy).1
    rcases H.out.addr with ⟨hAn, hfn⟩ | ⟨g, hAg, hgl, hfc⟩
    · rw [hfn] at hpl; simp at hpl
    subst hAg
    have HRB : Hid (∀ y ∈ withoutR fs n, RB w1 y.d y.bs) := fun y hy => F1.out.rb y (without_mem hy)
    have HOK : Hid (∀ y ∈ withoutR fs n, okS y.nm) := fun y hy => H.out.ok y (without_mem hy)
    have HSo : Hid (SortedF (withoutR fs n)) := without_sorted H.out.sort n
    have hwr : IntKind.i64.wrap ((p : Int) + 1) = (p : Int) + 1 := by have e1 : IntKind.i64.bits = 64 := rfl; have e2 : IntKind.i64.signed = true := rfl; unfold IntKind.wrap; rw [e1]; simp [e2]; omega
    have hp0 : (0 : Int) ≤ (p : Int) + 1 := by omega
    have hpf : (p : Int) + 1 ≤ fs.length := by omega
    have htn : ((p : Int) + 1).toNat = p + 1 := by omega
    by_cases hcq : c = p + 1
    · subst hcq
      have HDr : Hid (fs.drop (p + 1) = []) := List.drop_eq_nil_of_le hfc
      have hle : fs.length = p + 1 := by omega
      have hdz : fs.length - (p + 1) = 0 := by omega
      have hpi : (p : Int) ≤ (p : Int) + 1 := by omega
      have hpn : p ≤ p + 1 := by omega
      go_wp2_with fail
      go_region_law (first
        | (refine step_append_own_ (by rfl) (.const (.slice none 0 0)) (.tmp 18) 65 (by rfl) w1.heap.size 101 i0 _ 2 40 Try.underlying65 hi hz0 hz1 hz2 rfl (by omega) (.slice none 0 0) 0 [] (by rfl) (World.ownsRow_nil _ _ _ _) (some ⟨g, 0, none⟩) p (p + 1) ((fs.take p).flatMap encF) (by rfl) HTl.out (by simp) (src_take F1.out.row p) (encF_one _) (by unfold maxLen; omega) (by omega) (by simp) ?_; intro v2 w2 ho2 hg2; have HO2 := Lib.hid ho2; have HB2 : Hid (Below w1.heap.size w1 w2) := of_drew ((Below.refl _ _).grown hg2 (by simp) (fun q hq => by simp [Value.ownBlock] at hq)); have hs2 := HB2.out.size; clear ho2 hg2)
        | (refine step_append_own_ (by rfl) (.tmp 19) (.tmp 23) 65 (by rfl) w1.heap.size 101 i0 _ 2 40 Try.underlying65 hi hz0 hz1 hz2 rfl (by omega) v2 (0 + p) ([] ++ (fs.take p).flatMap encF) (by rfl) HO2.out (some ⟨g, 0, none⟩) 0 0 [] (by first | rfl | (show Value.slice _ (fs.length - (p + 1)) _ = _; rw [hdz])) rfl (fun _ => rfl) (fun ad _ j u hu => by simp at hu) (by simp) (by unfold maxLen; omega) (by omega) hs2 ?_; intro v3 w3 ho3 hg3; have HO3 := Lib.hid ho3; have HB3 : Hid (Below w1.heap.size w1 w3) := HB2.out.grown hg3 hs2 (fun q hq => (HO2.out.lt q hq).1); clear ho3 hg3))
      all_goals (
        obtain ⟨A3, c3, rfl⟩ := own_slice HO3.out
        go_wp2_with fail
        go_ret
        exact fl_ret (by rw [HWE.out]; simp; omega) (by rw [HWE.out]; simp [HDr.out]) (ownsRow0 HO3.out) (fun y hy => (HRB.out y hy).on HB3.out) HSo.out HOK.out (B1.out.trans (HB3.out.mono B1.out.size)))
    · have hpc : p ≤ c := by omega
      have hpc1 : p + 1 ≤ c := by omega
      go_wp2_with fail
      go_region_law (first
        | (refine step_append_own_ (by rfl) (.const (.slice none 0 0)) (.tmp 18) 65 (by rfl) w1.heap.size 101 i0 _ 2 40 Try.underlying65 hi hz0 hz1 hz2 rfl (by omega) (.slice none 0 0) 0 [] (by rfl) (World.ownsRow_nil _ _ _ _) (some ⟨g, 0, none⟩) p c ((fs.take p).flatMap encF) (by rfl) HTl.out (by simp) (src_take F1.out.row p) (encF_one _) (by unfold maxLen; omega) (by omega) (by simp) ?_; intro v2 w2 ho2 hg2; have HO2 := Lib.hid ho2; have HB2 : Hid (Below w1.heap.size w1 w2) := of_drew ((Below.refl _ _).grown hg2 (by simp) (fun q hq => by simp [Value.ownBlock] at hq)); have hs2 := HB2.out.size; clear ho2 hg2)
        | (refine step_append_own_ (by rfl) (.tmp 19) (.tmp 23) 65 (by rfl) w1.heap.size 101 i0 _ 2 40 Try.underlying65 hi hz0 hz1 hz2 rfl (by omega) v2 (0 + p) ([] ++ (fs.take p).flatMap encF) (by rfl) HO2.out (some ⟨g, (p + 1) * 2, none⟩) (fs.length - (p + 1)) (c - (p + 1)) ((fs.drop (p + 1)).flatMap encF) (by rfl) (by rw [flat_len encF_len, List.length_drop]) (fun e => by cases e) (fun ad e => by injection e with e; subst e; exact src_drop (F1.out.on HB2.out).row (p + 1) (by omega)) (encF_one _) (by unfold maxLen; omega) (by omega) hs2 ?_; intro v3 w3 ho3 hg3; have HO3 := Lib.hid ho3; have HB3 : Hid (Below w1.heap.size w1 w3) := HB2.out.grown hg3 hs2 (fun q hq => (HO2.out.lt q hq).1); clear ho3 hg3))
      all_goals (
        obtain ⟨A3, c3, rfl⟩ := own_slice HO3.out
        go_wp2_with fail
        go_ret
        exact fl_ret (by rw [HWE.out]; simp; omega) (by rw [HWE.out]; simp) (ownsRow0 HO3.out) (fun y hy => (HRB.out y hy).on HB3.out) HSo.out HOK.out (B1.out.trans (HB3.out.mono B1.out.size)))
end Go.Proofs.Ytddjkkmdcdiofaa
