/- Contracts: Verify of the program. -/
import Derived.Test.YtjglpmcekbjoaaaXA
namespace Go.Proofs.Ytjglpmcekbjoaaa
open Go.RowKit Go.MapKept Go.ChangeMaps Go.Shelf Go.Sort
attribute [local go_sem] wext_cell

theorem subN_bd {L t : List CT} {lo hi : Int} (hL : ∀ i, lo ≤ nAt L i ∧ nAt L i ≤ hi) (ht : ∀ c ∈ t, 0 ≤ c.2 ∧ c.2 ≤ 1073741824) : ∀ i, lo - 1073741824 * t.length ≤ nAt (subN L t) i ∧ nAt (subN L t) i ≤ hi := by
  induction t generalizing L lo with
  | nil => intro i; simpa [subN] using hL i
  | cons c t ih =>
    intro i
    have h1 := ht c (by simp)
    have := ih (L := putN L c.1 (-c.2)) (lo := lo - 1073741824) (fun j => by
      rw [nAt_putN]
      have h2 := hL j
      have h3 := hL c.1
      split <;> omega) (fun d hd => ht d (by simp [hd])) i
    rw [List.length_cons]
    push_cast
    show _ ≤ nAt (subN (putN L c.1 (-c.2)) t) i ∧ nAt (subN (putN L c.1 (-c.2)) t) i ≤ _
    omega
theorem subN_len (t : List CT) : ∀ L : List CT, (subN L t).length ≤ L.length + t.length := by
  intro L
  rw [subN_eq]
  have := incl_len (t.map (fun c => (c.1, -c.2))) L
  simpa using this
def nzL (L : List CT) : List ID := (L.filter (fun c => !(c.2 == 0))).map (·.1)
theorem nzL_snoc (L : List CT) (c : CT) : nzL (L ++ [c]) = if c.2 = 0 then nzL L else nzL L ++ [c.1] := by
  unfold nzL
  rw [List.filter_append]
  by_cases h : c.2 = 0 <;> simp [h]
theorem nzL_len (L : List CT) : (nzL L).length ≤ L.length := by
  unfold nzL
  rw [List.length_map]
  exact List.length_filter_le _ _
theorem ascI_of_sorted {T : List ID} (hs : T.Pairwise (fun a b => ltOf cmpID b a = false)) (hn : T.Nodup) : AscI T := by
  refine (hs.and hn).imp ?_
  rintro ⟨a1, a2⟩ ⟨b1, b2⟩ ⟨h, hne⟩
  rw [lt_cmpID] at h
  simp [ltID] at h hne ⊢
  omega
theorem nzL_nodup {L : List CT} (h : (L.map (·.1)).Nodup) : (nzL L).Nodup := by
  unfold nzL
  exact List.Sublist.nodup (List.Sublist.map _ List.filter_sublist) h
theorem mem_nzL {L : List CT} {i : ID} : i ∈ nzL L ↔ ∃ n, (i, n) ∈ L ∧ n ≠ 0 := by
  unfold nzL
  rw [List.mem_map]
  constructor
  · rintro ⟨c, hc, rfl⟩
    rw [List.mem_filter] at hc
    exact ⟨c.2, hc.1, by simpa using hc.2⟩
  · rintro ⟨n, h1, h2⟩
    exact ⟨(i, n), List.mem_filter.2 ⟨h1, by simpa using h2⟩, rfl⟩
theorem nzL_perm {L K : List CT} (h : L.Perm K) : (nzL L).Perm (nzL K) := (h.filter _).map _
theorem sub_nodup {t : List CT} (ht : (t.map (·.1)).Nodup) (ms : List Man) : ((subN (refs ms) t).map (·.1)).Nodup := by
  rw [subN_eq]
  exact (incl_spec _ (refs_spec ms).1 (by simpa [Function.comp_def] using ht)).1
theorem sortID_nil (w : World) (cap : Nat) (p : Option Addr) (fv : Value) : Calls Try.prog 50 #[.slice p 0 cap, fv] w fun e w' => e = .returned (.tuple #[]) ∧ w = w' :=
  (AnyF.slices_SortFunc_none Try.lay50 p cap fv w).mono fun _ _ ⟨h1, h2⟩ => ⟨h1, h2.symm⟩

set_option maxRecDepth 100000 in
set_option maxHeartbeats 8000000 in
theorem Verify_any (x : Nat) (t : List CT) (A : Option Addr) (c : Nat) (ms : List Man) (B : Option Addr) (d : Nat) (w : World) (hr : RdC w x A t) (hm : RdM w x B ms) (hx : x < w.heap.size) (hn : t.length ≤ 9223372036854775807) (hnm : ms.length ≤ 1000000) (hi : ∀ m ∈ ms, m.ids.length ≤ 9223372036854775807) (hok : ∀ m ∈ ms, ∀ i ∈ m.ids, okID i) (hot : ∀ c ∈ t, okID c.1) :
    Calls Try.prog 28 #[.slice A t.length c, .slice B ms.length d] w (TwoI x (verP t ms) w) := by
  obtain ⟨i0, hi43, hz0, hz1, hz2⟩ := info_parts info43
  have Hr := Lib.hid hr
  have Hm := Lib.hid hm
  have Hi := Lib.hid hi
  have Hok := Lib.hid hok
  have Hot := Lib.hid hot
  clear hr hm hi hok hot
  obtain ⟨p, Hp⟩ : ∃ p, Hid (verP t ms = p) := ⟨_, rfl⟩
  rw [Hp.out]
  go_enter Try.func28, Try.ntmps28
  go_wp2_with fail
  refine (Check_any x t A c _ Hr.out hn).mono ?_
  rintro e w1 ⟨rfl, hb1⟩
  have Hb1 := Lib.hid hb1
  have hs1 := hb1.size
  clear hb1
  by_cases hE : tblE t = 0
  · have HE := Lib.hid hE
    have hl4 := ((tblE_iff t).1 hE).1
    rw [hE]
    clear hE
    go_wp2_with fail
    refine (references_any x ms B d _ (Hm.out.on Hb1.out) hnm Hi.out Hok.out).mono ?_
    rintro e w2 ⟨hb2, ⟨hM, b, hb, rfl, hmp⟩ | ⟨hM, rfl⟩⟩
    · have Hb2 : Hid (Below w.heap.size w w2) := Hb1.out.trans (hb2.mono hs1)
      have hp := Hp.out
      rw [verP, if_pos HE.out, if_pos hM] at hp
      subst hp
      have hlen := refs_len hM
      have hbd := refs_bd hM
      have hbig : w.heap.size ≤ b := by omega
      have Hbd := Lib.hid hbd
      have Hmp := Lib.hid hmp
      have hs2 := Hb2.out.size
      clear hM hb2 hmp hbd hb
      go_wp2_with fail
      go_loopw [29] (fun i wr => ∃ k : Nat, k ≤ t.length ∧ i = .int .i64 k ∧ Mp wr b (subN (refs ms) (t.take k)) ∧ Below w.heap.size w wr) (fun i _ => t.length - (intOf i).toNat)
      case atStart => exact ⟨0, Nat.zero_le _, rfl, Hmp.out, Hb2.out⟩
      case round =>
        obtain ⟨k, hk, rfl, hmw, hbw⟩ := hrel
        have hsz := hbw.size
        have Hmw := Lib.hid hmw
        have Hbw := Lib.hid hbw
        clear hmw hbw
        by_cases hlt : k < t.length
        · obtain ⟨b1, o1, rfl, hb1, _, hc1⟩ := Hr.out (by omega)
          obtain ⟨s, z, n, HI⟩ : ∃ s z n, Hid (t.getD k ct0 = ((s, z), n)) := ⟨_, _, _, rfl⟩
          have hc0 : wr.cell? ⟨b1, o1 + k * 3, none⟩ = some (.int .u64 s) := B_cell Hbw.out hb1 (hc1 k hlt 0 _ (by rw [HI.out]; rfl))
          have hc1' : wr.cell? ⟨b1, o1 + k * 3 + 1, none⟩ = some (.int .i64 z) := B_cell Hbw.out hb1 (hc1 k hlt 1 _ (by rw [HI.out]; rfl))
          have hc2 : wr.cell? ⟨b1, o1 + k * 3 + 2, none⟩ = some (.int .i64 n) := B_cell Hbw.out hb1 (hc1 k hlt 2 _ (by rw [HI.out]; rfl))
          have hmem := getD_mem t ct0 k hlt
          rw [HI.out] at hmem
          have hn0 := tbl_bd HE.out _ hmem
          simp only at hn0
          have Hok0 := Lib.hid (Hot.out _ hmem)
          have hbd2 := subN_bd (L := refs ms) (t := t.take k) (lo := 0) (hi := 1024 * ms.length) Hbd.out (fun c hc => tbl_bd HE.out c (List.mem_of_mem_take hc)) (s, z)
          have htl := take_len t k
          clear hc1 hmem
          go_wp2_with fail
          have hd0 : (wr.alloc (.cells #[.int .u64 s, .int .i64 z, .int .i64 n] 66)).cell? ⟨wr.heap.size, 0, none⟩ = some (.int .u64 s) := new_cell _ _ _ _ rfl 0
          have hd1 : (wr.alloc (.cells #[.int .u64 s, .int .i64 z, .int .i64 n] 66)).cell? ⟨wr.heap.size, 1, none⟩ = some (.int .i64 z) := new_cell _ _ _ _ rfl 1
          have hd2 : (wr.alloc (.cells #[.int .u64 s, .int .i64 z, .int .i64 n] 66)).cell? ⟨wr.heap.size, 2, none⟩ = some (.int .i64 n) := new_cell _ _ _ _ rfl 2
          obtain ⟨v0, st, w3, w5, e1, e2, e3, e4, e5, e6, e7⟩ := Mp.step (Hmw.out.alloc (.cells #[.int .u64 s, .int .i64 z, .int .i64 n] 66)) s z (-n) Hok0.out
          have He5 := Lib.hid e5
          have He6 : Hid (Below w.heap.size w w5) := below_own (Hbw.out.alloc Hbw.out.size _) e6 hbig
          clear e5 e6
          generalize nAt (subN (refs ms) (t.take k)) (s, z) = v at e1 e3 e4 hbd2
          rw [← Int.sub_eq_add_neg] at e4
          have hsum : IntKind.i64.wrap (v - n) = v - n := IntWalk.i64_in _ (by omega)
          generalize wr.alloc (.cells #[.int .u64 s, .int .i64 z, .int .i64 n] 66) = W at *
          clear hc0 hc1' hc2
          go_region
          all_goals (
            go_wp2_with fail
            go_roundw
            case rel => exact ⟨k + 1, by omega, by go_num, by rw [take_snoc _ ct0 _ hlt, subN_snoc, HI.out]; exact He5.out, He6.out⟩
            case measure => simp [intOf]; omega)
        · obtain rfl : k = t.length := by omega
          rw [List.take_length] at Hmw
          rename World => wa
          obtain ⟨L, HL⟩ : ∃ L, Hid (subN (refs ms) t = L) := ⟨_, rfl⟩
          have hLl := subN_len t (refs ms)
          have hLn := sub_nodup (tbl_nodup HE.out) ms
          rw [HL.out] at Hmw hLl hLn
          have HLn := Lib.hid hLn
          clear hLn
          go_wp2_with (at_range; refine wpList_range_is _ rfl _ 58 rfl 43 3 Try.underlying58 b L rfl Hmw.out ?_; intro w0 hrg0 hg0 hs0)
          have Hrg0 := Lib.hid hrg0
          have Hb0 : Hid (Below w.heap.size w w0) := Hbw.out.grown hg0 hsz (by simp)
          clear hrg0 hg0
          go_frame
          go_loopw [11] (fun v11 wq => ∃ (done : List CT) (V : Option Addr) (cap cnt : Nat), v11 = .slice V (nzL done).length cap ∧ RIs okID vID vN wq b wa.heap.size L done cnt ∧ wq.ownsRow w.heap.size 43 2 (.slice V (nzL done).length cap) (nzL done).length ((nzL done).flatMap encID) ∧ Below w.heap.size w wq) (fun _ wq => wq.rangeLeft b wa.heap.size)
          case atStart => exact ⟨[], none, 0, _, rfl, Hrg0.out, World.ownsRow_nil _ _ _ _, Hb0.out⟩
          case round =>
            obtain ⟨done, V, cap, cnt, rfl, hrg, hown, hb⟩ := hrel
            have hszq := hb.size
            have Hleft := Lib.hid hrg.left_eq
            have Hrg := Lib.hid hrg
            have hdn := nzL_len done
            have hdl := hrg.len
            obtain ⟨xs, HX⟩ : ∃ xs, Hid (nzL done = xs) := ⟨_, rfl⟩
            rw [HX.out] at hown hdn ⊢
            have Hown := Lib.hid hown
            have Hb := Lib.hid hb
            clear hrg hown hb
            go_wp2_with (first
              | (at_next; refine wpList_next_ct _ rfl _ rfl b wa.heap.size L done cnt rfl Hrg.out (fun hp => ?_) (fun s z n w3 cnt1 hc hrg1 hlt1 hg1 hs1 hen => ?_))
              | (at_builtin; refine halt_ ?_))
            · have HN : Hid ((nzL done).Nodup) := ((nzL_perm hp).nodup_iff).2 (nzL_nodup HLn.out)
              have HM : Hid (∀ i, i ∈ nzL done ↔ ∃ n, (i, n) ∈ subN (refs ms) t ∧ n ≠ 0) := fun i => by rw [(nzL_perm hp).mem_iff, mem_nzL, HL.out]
              rw [HX.out] at HN HM
              cases V with
              | none =>
                have hx0 : xs = [] := by
                  rcases Hown.out.2 with ⟨_, h⟩ | ⟨g', cap', cur, h, _⟩
                  · exact List.eq_nil_of_length_eq_zero h
                  · injection h with h; cases h
                subst hx0
                have HV : Hid (wrongR t (ofT ms) = []) := (ver_eq (tbl_asc HE.out) ms (l := []) List.Pairwise.nil HM.out).symm
                refine (sortID_nil _ cap none _).mono ?_
                rintro e w5 ⟨rfl, rfl⟩
                go_wp2_with fail
                go_ret2
                exact ⟨none, cap, by rw [HV.out]; rfl, by rw [HV.out]; exact Rd.nil, Hb.out⟩
              | some ad =>
                obtain ⟨g, rfl⟩ : ∃ g, ad = ⟨g, 0, none⟩ := by
                  rcases Hown.out.2 with ⟨h, _⟩ | ⟨g', cap', cur, h, _⟩
                  · cases h
                  · injection h with h; injection h with h; exact ⟨g', h⟩
                refine (sortID_any w.heap.size g xs.length cap x xs _ Hown.out hx (by omega)).mono ?_
                rintro e w5 ⟨rfl, ⟨T, hT, hTs, hTr⟩, hb5⟩
                have HTr := Lib.hid hTr
                have HlT := Lib.hid hT.length_eq
                have HV : Hid (T = wrongR t (ofT ms)) := ver_eq (tbl_asc HE.out) ms (ascI_of_sorted hTs ((hT.nodup_iff).2 HN.out)) (fun i => by rw [hT.mem_iff]; exact HM.out i)
                have Hb5 : Hid (Below w.heap.size w w5) := Hb.out.trans hb5
                clear hT hTs hTr hb5
                go_wp2_with fail
                go_ret2
                refine ⟨some ⟨g, 0, none⟩, cap, ?_, by rw [← HV.out]; exact HTr.out, Hb5.out⟩
                rw [← HV.out, HlT.out]
                rfl
            · rename_i hnz
              unfold Hid
              have K1 : Hid (w3.ownsRow w.heap.size 43 2 (.slice V xs.length cap) xs.length (xs.flatMap encID)) := Hown.out.kept hg1 (.inr (fun e => Hrg.out.own_ne Hown.out e.symm))
              have Hb3 : Hid (Below w.heap.size w w3) := Hb.out.grown hg1 hszq (fun k hk => by injection hk with hk; omega)
              have hsz3 := Hb3.out.size
              have HN : Hid (nzL (done ++ [((s, z), n)]) = xs ++ [(s, z)]) := by
                unfold Hid
                rw [nzL_snoc, HX.out, if_neg (by simpa using hnz)]
              refine wpList_append_lies _ rfl _ _ _ rfl w.heap.size 43 i0 _ 2 16 Try.underlying36 hi43 hz0 hz1 hz2 rfl (by decide) _ xs.length _ rfl ((K1.out.alloc _).alloc _) ⟨w3.heap.size + 1, 0, none⟩ 1 1 [.int .u64 s, .int .i64 z] rfl rfl (two_new _ _ _ _ _ (by simp)) (encID_one (s, z)) (by omega) (by unfold maxLen; omega) (by omega) (by simp; omega) (w3.heap.size + 2) (by simp) ?_
              intro g2 cap2 w4 hown4 hgrow hat hltg
              have Hown4 := Lib.hid hown4
              have Hrg4 : Hid (RIs okID vID vN w4 b wa.heap.size L (done ++ [((s, z), n)]) cnt1) := ((hrg1.alloc _).alloc _).kept hgrow (hrg1.map.own_ne K1.out) (hrg1.own_ne K1.out)
              have Hb4 : Hid (Below w.heap.size w w4) := ((Hb3.out.alloc Hb3.out.size _).alloc (by simp; omega) _).grown hgrow (by simp; omega) (fun k hk => (K1.out.lt k hk).1)
              clear hown4 hgrow hat
              go_wp2_with fail
              go_roundw
              case rel =>
                refine ⟨done ++ [((s, z), n)], some ⟨g2, 0, none⟩, cap2, cnt1, by rw [HN.out]; simp, Hrg4.out, ?_, Hb4.out⟩
                rw [HN.out, List.length_append, List.flatMap_append]
                exact Hown4.out
              case measure =>
                rw [Hrg4.out.left_eq, Hleft.out]
                exact hlt1
            · rename_i hnz
              have K1 : Hid (w3.ownsRow w.heap.size 43 2 (.slice V xs.length cap) xs.length (xs.flatMap encID)) := Hown.out.kept hg1 (.inr (fun e => Hrg.out.own_ne Hown.out e.symm))
              have Hb3 : Hid (Below w.heap.size w w3) := Hb.out.grown hg1 hszq (fun k hk => by injection hk with hk; omega)
              have HN : Hid (nzL (done ++ [((s, z), n)]) = xs) := by
                unfold Hid
                rw [nzL_snoc, HX.out, if_pos (by simpa using hnz)]
              have Hrg3 : Hid (RIs okID vID vN (w3.alloc (.cells #[.int .u64 s, .int .i64 z] 43)) b wa.heap.size L (done ++ [((s, z), n)]) cnt1) := hrg1.alloc _
              go_roundw
              case rel => exact ⟨done ++ [((s, z), n)], V, cap, cnt1, by rw [HN.out], Hrg3.out, by rw [HN.out]; exact K1.out.alloc _, Hb3.out.alloc Hb3.out.size _⟩
              case measure =>
                rw [Hrg3.out.left_eq, Hleft.out]
                exact hlt1
    · have Hb2 : Hid (Below w.heap.size w w2) := Hb1.out.trans (hb2.mono hs1)
      have hp := Hp.out
      rw [verP, if_pos HE.out, if_neg hM] at hp
      have Hq := Lib.hid hp.symm
      have hbe : (errM ms != 0) = true := by rw [bne_iff_ne]; exact hM
      clear hM hb2 hp
      go_wp2_with fail
      go_ret2
      exact twoI_err Hq.out Hb2.out
  · have hp := Hp.out
    rw [verP, if_neg hE] at hp
    have Hq := Lib.hid hp.symm
    have hbe : (tblE t != 0) = true := by rw [bne_iff_ne]; exact hE
    clear hE hp
    go_wp2_with fail
    go_ret2
    exact twoI_err Hq.out Hb1.out
end Go.Proofs.Ytjglpmcekbjoaaa
