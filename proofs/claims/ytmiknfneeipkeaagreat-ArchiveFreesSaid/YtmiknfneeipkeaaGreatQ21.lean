/- Contracts of the walk, part 21. -/
import Derived.Lib.SliceRun
import Derived.Test.YtmiknfneeipkeaaGreatQ20
import Derived.Test.YtmiknfneeipkeaaGreatQ04
import Derived.Test.YtmiknfneeipkeaaGreatQ03
import Derived.Test.YtmiknfneeipkeaaGreatQ15
namespace Go.Proofs.YtmiknfneeipkeaaGreat
open Go.RowKit Go.MapKept Go.ChangeMaps Go.Shelf Go.Sort
attribute [local go_sem] wext_cell
theorem tbl_bad {t : List CT} {k : Nat} (hk : k < t.length) (h : okC t k = false) : tblE t = 280 := by
  unfold tblE
  rw [if_neg]
  unfold tblB
  intro hh
  rw [Bool.and_eq_true, List.all_eq_true] at hh
  have := hh.2 k (List.mem_range.2 hk)
  rw [h] at this
  cases this
theorem tbl_good {t : List CT} (hl : t.length ≤ 4096) (h : (List.range t.length).all (okC t) = true) : tblE t = 0 := by
  unfold tblE tblB
  rw [if_pos (by simp [hl, h])]
theorem tbl_long {t : List CT} (hl : ¬ t.length ≤ 4096) : tblE t = 280 := by
  unfold tblE tblB
  rw [if_neg (by simp [hl])]
theorem all_snoc {t : List CT} {k : Nat} (h : (List.range k).all (okC t) = true) (h' : okC t k = true) : (List.range (k + 1)).all (okC t) = true := by
  rw [List.range_succ, List.all_append, h]
  simp [h']
theorem okC_zero {t : List CT} {k : Nat} {c : CT} (h : t.getD k ct0 = c) (hs : rowB c = true) (hk : k = 0) : okC t k = true := by
  subst hk
  unfold okC
  rw [h]
  simp [hs]
theorem okC_bad {t : List CT} {k : Nat} {c : CT} (h : t.getD k ct0 = c) (hs : rowB c = false) : okC t k = false := by
  unfold okC
  rw [h]
  simp [hs]
theorem okC_near {t : List CT} {k : Nat} {c p : CT} (h : t.getD k ct0 = c) (h' : t.getD (k - 1) ct0 = p) (hk : 0 < k) (hs : ltID p.1 c.1 = false) : okC t k = false := by
  unfold okC
  rw [h, h', hs]
  have : (k == 0) = false := by simp; omega
  simp [this]
theorem okC_far {t : List CT} {k : Nat} {c p : CT} (h : t.getD k ct0 = c) (h' : t.getD (k - 1) ct0 = p) (hr : rowB c = true) (hs : ltID p.1 c.1 = true) : okC t k = true := by
  unfold okC
  rw [h, h', hs, hr]
  simp

set_option maxHeartbeats 4000000 in
theorem Check_any (x : Nat) (t : List CT) (A : Option Addr) (c : Nat) (w : World) (hr : RdC w x A t) (hn : t.length ≤ 9223372036854775807) :
    Calls Tryz.prog 59 #[.slice A t.length c] w (Gives (.int .i64 (tblE t)) w) := by
  have Hr := Lib.hid hr
  clear hr
  by_cases hl : t.length ≤ 4096
  · go_enter Tryz.func59, Tryz.ntmps59
    go_wp2_with fail
    go_loopw [10] (fun i wr => ∃ k : Nat, k ≤ t.length ∧ i = .int .i64 k ∧ Hid ((List.range k).all (okC t) = true) ∧ Below w.heap.size w wr) (fun i _ => t.length - (intOf i).toNat)
    case atStart => exact ⟨0, Nat.zero_le _, rfl, rfl, Below.refl _ _⟩
    case round =>
      obtain ⟨k, hk, rfl, HK, hb⟩ := hrel
      have hsz := hb.size
      by_cases hlt : k < t.length
      · obtain ⟨b, o, rfl, hbB, _, hc⟩ := Hr.out (by omega)
        obtain ⟨s, z, n, HI⟩ : ∃ s z n, Hid (t.getD k ct0 = ((s, z), n)) := ⟨_, _, _, rfl⟩
        have hc0 : wr.cell? ⟨b, o + k * 3, none⟩ = some (.int .u64 s) := by rw [hb.cell (p := ⟨b, o + k * 3, none⟩) hbB]; exact hc k hlt 0 _ (by rw [HI.out]; rfl)
        have hc1 : wr.cell? ⟨b, o + k * 3 + 1, none⟩ = some (.int .i64 z) := by rw [hb.cell (p := ⟨b, o + k * 3 + 1, none⟩) hbB]; exact hc k hlt 1 _ (by rw [HI.out]; rfl)
        have hc2 : wr.cell? ⟨b, o + k * 3 + 2, none⟩ = some (.int .i64 n) := by rw [hb.cell (p := ⟨b, o + k * 3 + 2, none⟩) hbB]; exact hc k hlt 2 _ (by rw [HI.out]; rfl)
        have HC := Lib.hid hc
        clear hc
        go_wp2_with fail
        refine (Valid_any s z _).mono ?_
        rintro e w1 ⟨rfl, hb1⟩
        have hn0 : w1.cell? ⟨wr.heap.size, 0, none⟩ = some (.int .u64 s) := by rw [hb1.cell (p := ⟨wr.heap.size, 0, none⟩) (by simp)]; exact new_cell _ _ _ _ rfl 0
        have hn1 : w1.cell? ⟨wr.heap.size, 1, none⟩ = some (.int .i64 z) := by rw [hb1.cell (p := ⟨wr.heap.size, 1, none⟩) (by simp)]; exact new_cell _ _ _ _ rfl 1
        have hn2 : w1.cell? ⟨wr.heap.size, 2, none⟩ = some (.int .i64 n) := by rw [hb1.cell (p := ⟨wr.heap.size, 2, none⟩) (by simp)]; exact new_cell _ _ _ _ rfl 2
        have hbw : Below w.heap.size w w1 := (hb.alloc hb.size _).trans (hb1.mono (by simp; omega))
        have hs1 : wr.heap.size < w1.heap.size := by have := hb1.size; simp at this; omega
        have Hbw := Lib.hid hbw
        clear hb1
        cases hv : validB (s, z) with
        | false =>
          have HE : Hid (tblE t = 280) := tbl_bad hlt (okC_bad HI.out (by simp [rowB, chunkB, hv]))
          clear hv hbw
          go_wp2_with fail
          go_ret
          exact gv HE.out Hbw.out
        | true =>
          by_cases h0 : z < 1
          · have HE : Hid (tblE t = 280) := tbl_bad hlt (okC_bad HI.out (by simp [rowB, chunkB]; omega))
            clear hv hbw
            go_wp2_with fail
            go_ret
            exact gv HE.out Hbw.out
          · skip
            by_cases h1 : 8192 < z
            · have HE : Hid (tblE t = 280) := tbl_bad hlt (okC_bad HI.out (by simp [rowB, chunkB]; omega))
              clear hv hbw
              go_wp2_with fail
              go_ret
              exact gv HE.out Hbw.out
            · skip
              by_cases h2 : n < 0
              · have HE : Hid (tblE t = 280) := tbl_bad hlt (okC_bad HI.out (by simp [rowB, chunkB]; omega))
                clear hv hbw
                go_wp2_with fail
                go_ret
                exact gv HE.out Hbw.out
              · skip
                by_cases h3 : 1073741824 < n
                · have HE : Hid (tblE t = 280) := tbl_bad hlt (okC_bad HI.out (by simp [rowB, chunkB]; omega))
                  clear hv hbw
                  go_wp2_with fail
                  go_ret
                  exact gv HE.out Hbw.out
                · skip
                  have HR : Hid (rowB ((s, z), n) = true) := by simp [Hid, rowB, chunkB, hv]; omega
                  clear hv
                  by_cases hk0 : k = 0
                  · have hkd : decide (0 < k) = false := by simp [hk0]
                    have HO : Hid (okC t k = true) := okC_zero HI.out HR.out hk0
                    clear hk0 hbw
                    go_wp2_with fail
                    refine wp_region_ext (by kernel_rfl) (by kernel_rfl) ?_
                    repeat (go_big_quiet_step (fail))
                    refine wpQuiet_nil ?_
                    intro w2 hb2
                    go_wp2_with fail
                    go_roundw
                    case rel => exact ⟨k + 1, by omega, by go_num, all_snoc HK.out HO.out, Hbw.out.trans (hb2.mono (by have := Hbw.out.size; omega))⟩
                    case measure => simp [intOf]; omega
                  · have hkd : decide (0 < k) = true := by simp; omega
                    have hk1 : 0 < k := by omega
                    obtain ⟨p, r, m, HP⟩ : ∃ p r m, Hid (t.getD (k - 1) ct0 = ((p, r), m)) := ⟨_, _, _, rfl⟩
                    have ek : ((k : Int) - 1).toNat = k - 1 := by omega
                    have hp0 : w1.cell? ⟨b, o + (k - 1) * 3, none⟩ = some (.int .u64 p) := by rw [hbw.cell (p := ⟨b, o + (k - 1) * 3, none⟩) hbB]; exact HC.out (k - 1) (by omega) 0 _ (by rw [HP.out]; rfl)
                    have hp1 : w1.cell? ⟨b, o + (k - 1) * 3 + 1, none⟩ = some (.int .i64 r) := by rw [hbw.cell (p := ⟨b, o + (k - 1) * 3 + 1, none⟩) hbB]; exact HC.out (k - 1) (by omega) 1 _ (by rw [HP.out]; rfl)
                    have hltb : b < w1.heap.size := by omega
                    clear hbw
                    cases hlo : ltID (p, r) (s, z) with
                    | true =>
                      have HO : Hid (okC t k = true) := okC_far HI.out HP.out HR.out hlo
                      have hcm := cmpID_lt hlo
                      have hcb := cmpID_bd (p, r) (s, z)
                      have H51 := Lib.hid (fun W => compareIDs_any p r s z W)
                      generalize cmpID (p, r) (s, z) = cm at hcm hcb H51
                      clear hlo
                      go_wp2_with fail
                      refine wp_region_ext (by kernel_rfl) (by kernel_rfl) ?_
                      repeat (go_big_quiet_step ((go_at_call 111; exact ext_call (H51.out _))))
                      refine wpQuiet_nil ?_
                      intro w2 hb2
                      go_wp2_with fail
                      go_roundw
                      case rel => exact ⟨k + 1, by omega, by go_num, all_snoc HK.out HO.out, Hbw.out.trans (hb2.mono (by have := Hbw.out.size; omega))⟩
                      case measure => simp [intOf]; omega
                    | false =>
                      have HE : Hid (tblE t = 280) := tbl_bad hlt (okC_near HI.out HP.out hk1 hlo)
                      have hcm := cmpID_ge hlo
                      have hcb := cmpID_bd (p, r) (s, z)
                      have H51 := Lib.hid (fun W => compareIDs_any p r s z W)
                      generalize cmpID (p, r) (s, z) = cm at hcm hcb H51
                      clear hlo
                      go_wp2_with fail
                      refine wp_region_ext (by kernel_rfl) (by kernel_rfl) ?_
                      repeat (go_big_quiet_step ((go_at_call 111; exact ext_call (H51.out _))))
                      refine wpQuiet_nil ?_
                      intro w2 hb2
                      go_wp2_with fail
                      go_ret
                      exact gv HE.out (Hbw.out.trans (hb2.mono (by have := Hbw.out.size; omega)))
      · obtain rfl : k = t.length := by omega
        have HE : Hid (tblE t = 0) := tbl_good hl HK.out
        go_wp2_with fail
        go_ret
        exact gv HE.out hb
  · have HE : Hid (tblE t = 280) := tbl_long hl
    go_enter Tryz.func59, Tryz.ntmps59
    go_wp2_with fail
    go_ret
    exact gv HE.out (Below.refl _ _)
theorem RdM.alloc {w : World} {x : Nat} {A : Option Addr} {ms : List Man} (h : RdM w x A ms) (o : Obj) : RdM (w.alloc o) x A ms := h.on (bel1 _ _)
/-- Dead, Sweep, N. -/
def deadP (t : List CT) : List ID := if tblE t = 0 then (t.filter (fun c => c.2 == 0)).map (·.1) else []
def deadL (t : List CT) : List ID := (t.filter (fun c => c.2 == 0)).map (·.1)
theorem deadL_snoc (t : List CT) (c : CT) : deadL (t ++ [c]) = if c.2 == 0 then deadL t ++ [c.1] else deadL t := by
  unfold deadL
  rw [List.filter_append]
  by_cases h : (c.2 == 0) = true <;> simp [h]
theorem deadL_len (t : List CT) : (deadL t).length ≤ t.length := by
  unfold deadL
  rw [List.length_map]
  exact List.length_filter_le _ _
theorem take_len {α : Type} (l : List α) (k : Nat) : (l.take k).length ≤ k := by rw [List.length_take]; omega
theorem oneI_own {x : Nat} {l : List ID} {w wr : World} {A : Option Addr} {c : Nat} (h : wr.ownsRow w.heap.size 36 2 (.slice A l.length c) l.length (l.flatMap encID)) (hx : x < w.heap.size) (hb : Below w.heap.size w wr) : OneI x l w (.returned (.slice A l.length c)) wr :=
  ⟨A, c, rfl, (Rd.of_own encID_len (by omega) h hx).2, hb⟩
theorem oneI_nil {x : Nat} {l : List ID} {w wr : World} (h : l = []) (hb : Below w.heap.size w wr) : OneI x l w (.returned (.slice none 0 0)) wr := by
  subst h
  exact ⟨none, 0, rfl, Rd.nil, hb⟩
set_option maxRecDepth 100000 in
set_option maxHeartbeats 4000000 in
theorem Dead_any (x : Nat) (t : List CT) (A : Option Addr) (c : Nat) (w : World) (hr : RdC w x A t) (hx : x < w.heap.size) (hn : t.length ≤ 9223372036854775807) :
    Calls Tryz.prog 19 #[.slice A t.length c] w (OneI x (deadP t) w) := by
  obtain ⟨i0, hi, hz0, hz1, hz2⟩ := info_parts info36
  have Hr := Lib.hid hr
  clear hr
  go_enter Tryz.func19, Tryz.ntmps19
  go_wp2_with fail
  refine (Check_any x t A c _ Hr.out hn).mono ?_
  rintro e w1 ⟨rfl, hb1⟩
  have Hb1 := Lib.hid hb1
  clear hb1
  by_cases hE : tblE t = 0
  · have HE := Lib.hid hE
    have HP : Hid (deadP t = deadL t) := by rw [Hid, deadP, if_pos hE]; rfl
    have hl4 := ((tblE_iff t).1 hE).1
    rw [hE]
    clear hE
    go_wp2_with fail
    go_loopw [3, 11] (fun vO vI wr => ∃ (k : Nat) (B : Option Addr) (d : Nat), k ≤ t.length ∧ vI = .int .i64 k ∧ vO = .slice B (deadL (t.take k)).length d ∧ wr.ownsRow w.heap.size 36 2 (.slice B (deadL (t.take k)).length d) (deadL (t.take k)).length ((deadL (t.take k)).flatMap encID) ∧ Below w.heap.size w wr) (fun _ vI _ => t.length - (intOf vI).toNat)
    case atStart => exact ⟨0, none, 0, Nat.zero_le _, rfl, rfl, World.ownsRow_nil _ _ _ _, Hb1.out⟩
    case round =>
      obtain ⟨k, B, d, hk, rfl, rfl, hown, hbw⟩ := hrel
      have hsz := hbw.size
      have hlen := deadL_len (t.take k)
      have htk := take_len t k
      obtain ⟨xs, HX⟩ : ∃ xs, Hid (deadL (t.take k) = xs) := ⟨_, rfl⟩
      rw [HX.out] at hown hlen ⊢
      have Hown := Lib.hid hown
      have Hbw := Lib.hid hbw
      clear hown hbw
      by_cases hlt : k < t.length
      · obtain ⟨b1, o1, rfl, hb1, _, hc1⟩ := Hr.out (by omega)
        obtain ⟨p, q, n, HJ⟩ : ∃ p q n, Hid (t.getD k ct0 = ((p, q), n)) := ⟨_, _, _, rfl⟩
        have C0 : Hid (w.cell? ⟨b1, o1 + k * 3, none⟩ = some (.int .u64 p)) := hc1 k hlt 0 _ (by rw [HJ.out]; rfl)
        have C1 : Hid (w.cell? ⟨b1, o1 + k * 3 + 1, none⟩ = some (.int .i64 q)) := hc1 k hlt 1 _ (by rw [HJ.out]; rfl)
        have C2 : Hid (w.cell? ⟨b1, o1 + k * 3 + 2, none⟩ = some (.int .i64 n)) := hc1 k hlt 2 _ (by rw [HJ.out]; rfl)
        clear hc1
        have K1 := Hown
        have B1 := Hbw
        have hs1 := B1.out.size
        have hc0 := B_cell B1.out hb1 C0.out
        have hc1 := B_cell B1.out hb1 C1.out
        have hc2 := B_cell B1.out hb1 C2.out
        have hbl : b1 < wr.heap.size := by omega
        by_cases hz : n = 0
        · have HN : Hid (deadL (t.take (k + 1)) = xs ++ [(p, q)]) := by
            unfold Hid
            rw [take_snoc _ ct0 _ hlt, deadL_snoc, HX.out, HJ.out, if_pos (by simpa using hz)]
          have hbz : (n == 0) = true := by rw [beq_iff_eq]; exact hz
          clear hz
          go_wp2_with (at_builtin; refine halt_ ?_)
          unfold Hid
          refine wpList_append_lies _ rfl _ _ _ rfl w.heap.size 36 i0 _ 2 16 Tryz.underlying31 hi hz0 hz1 hz2 rfl (by decide) _ xs.length _ rfl ((K1.out.alloc _).alloc _) ⟨wr.heap.size + 1, 0, none⟩ 1 1 [.int .u64 p, .int .i64 q] rfl rfl (two_new _ _ _ _ _ (by simp)) (encID_one (p, q)) (by omega) (by unfold maxLen; omega) (by omega) (by simp; omega) (wr.heap.size + 2) (by simp) ?_
          intro g3 c3 w3 hown3 hgrow3 hat3 hlt3
          have K3 := Lib.hid hown3
          have B3 : Hid (Below w.heap.size w w3) := ((B1.out.alloc B1.out.size _).alloc (by simp; omega) _).grown hgrow3 (by simp; omega) (fun k hk => (K1.out.lt k hk).1)
          clear hown3 hgrow3 hat3
          go_wp2_with fail
          go_roundw
          case rel =>
            refine ⟨k + 1, some ⟨g3, 0, none⟩, c3, by omega, by go_num, by rw [HN.out]; simp, ?_, B3.out⟩
            rw [HN.out, List.length_append, List.flatMap_append]
            exact K3.out
          case measure => simp [intOf]; omega
        · have HN : Hid (deadL (t.take (k + 1)) = xs) := by
            unfold Hid
            rw [take_snoc _ ct0 _ hlt, deadL_snoc, HX.out, HJ.out, if_neg (by simpa using hz)]
          have hbz : (n == 0) = false := by rw [beq_eq_false_iff_ne]; exact hz
          clear hz
          go_wp2_with fail
          go_roundw
          case rel => exact ⟨k + 1, B, d, by omega, by go_num, by rw [HN.out], by rw [HN.out]; exact (K1.out.alloc _), (B1.out.alloc B1.out.size _)⟩
          case measure => simp [intOf]; omega
      · obtain rfl : k = t.length := by omega
        rw [List.take_length] at HX
        go_wp2_with fail
        go_ret
        rw [HP.out, HX.out]
        exact oneI_own Hown.out hx Hbw.out
  · have HP : Hid (deadP t = []) := by rw [Hid, deadP, if_neg hE]
    have hbe : (tblE t != 0) = true := by rw [bne_iff_ne]; exact hE
    clear hE
    go_wp2_with fail
    go_ret
    exact oneI_nil HP.out Hb1.out

end Go.Proofs.YtmiknfneeipkeaaGreat
namespace Go.Proofs.YtmiknfneeipkeaaGreat
open Go.RowKit Go.MapKept Go.ChangeMaps Go.Shelf Go.Sort
attribute [local go_sem] wext_cell
theorem newAt (W : World) (t : TypeId) (cs : Array Value) (H : Nat) (hH : W.heap.size = H) : IsB (W.alloc (.cells cs t)) H t cs := hH ▸ IsB.new W t cs
theorem errM_one (m : Man) : errM [m] = manE m := by simp only [errM]; split <;> simp_all
theorem ids_one (m : Man) : idsOf [m] = m.ids := by simp [idsOf]
theorem tbl_nodup {t : List CT} (h : tblE t = 0) : (t.map (·.1)).Nodup := ((tblE_iff t).1 h).2.1.nodup
/-- Release: the rest, if all is there. -/
def enoughB (t : List CT) (l : List ID) : Bool := l.all (fun i => decide (((l.count i : Nat) : Int) ≤ nAt t i))
def restR (t : List CT) (l : List ID) : List CT := t.map (fun c => (c.1, c.2 - (l.count c.1 : Nat)))
def relP (t : List CT) (m : Man) : List CT × Int := if tblE t = 0 then (if manE m = 0 then (if enoughB t m.ids then (restR t m.ids, 0) else ([], 282)) else ([], manE m)) else ([], tblE t)
theorem rdm_one {W : World} {x : Nat} {m : Man} {B : Option Addr} {d : Nat} {g : Nat} {t : TypeId} (hg : IsB W g t #[.int .i64 m.size, .slice B m.ids.length d]) (hm : RdID W x B m.ids) (hd : m.ids.length ≤ d) (hx : g ≠ x) : RdM W x (some ⟨g, 0, none⟩) [m] := by
  refine ⟨[⟨m.size, B, m.ids.length, d⟩], fun _ => ⟨g, 0, rfl, hg.lt, hx, fun j hj i v hi => ?_⟩, rfl, fun j hj => ?_⟩
  · have : j = 0 := by simpa using hj
    subst this
    rw [hg.cell]
    match i, hi with
    | 0, hi => simpa [encMR] using hi
    | 1, hi => simpa [encMR] using hi
    | i + 2, hi => simp [encMR] at hi
  · have : j = 0 := by simpa using hj
    subst this
    exact ⟨rfl, rfl, hd, hm⟩

theorem tbl_bd {t : List CT} (h : tblE t = 0) : ∀ c ∈ t, 0 ≤ c.2 ∧ c.2 ≤ 1073741824 := fun c hc => ((rowB_iff c).1 (((tblE_iff t).1 h).2.2 c hc)).2

def CloneP (t : List CT) (w : World) (e : Ending) (w' : World) : Prop :=
  ∃ (A : Option Addr) (c : Nat), e = .returned (.slice A t.length c) ∧ w'.ownsRow w.heap.size 125 3 (.slice A t.length c) t.length (t.flatMap encC) ∧ Below w.heap.size w w'
set_option maxRecDepth 100000 in
set_option maxHeartbeats 1000000 in
theorem CloneC_any (x : Nat) (t : List CT) (A : Option Addr) (c : Nat) (w : World) (hr : RdC w x A t) (hl : t.length ≤ 4294967296) :
    Calls Tryz.prog 60 #[.slice A t.length c] w (CloneP t w) := by
  obtain ⟨i0, hi, hz0, hz1, hz2⟩ := info_parts info125
  have Ho := Lib.hid (hr.opt encC_len (by omega))
  clear hr
  have q28 : ∀ (w : World) (a : Option Addr) (n c n' c' : Nat), (binOp .eql 49 (.slice a n c) (.slice none n' c')).run Tryz.prog w = .ok (.bool a.isNone) w := fun w a n c n' c' => Lib.run_eql_slice_nil w _ _ a n c n' c' Tryz.underlying49
  cases A with
  | none =>
    have h0 := Ho.out.1 rfl
    obtain rfl : t = [] := List.eq_nil_of_length_eq_zero h0
    clear h0
    go_enter Tryz.func60, Tryz.ntmps60
    go_wp2_with fail
    go_ret
    exact ⟨none, 0, rfl, World.ownsRow_nil _ _ _ _, Below.refl _ _⟩
  | some ad =>
    go_enter Tryz.func60, Tryz.ntmps60
    go_wp2_with (at_builtin; refine wpList_append_opt rfl _ _ _ rfl w.heap.size 125 i0 _ 3 24 Tryz.underlying49 hi hz0 hz1 hz2 rfl (by decide) _ 0 [] rfl (World.ownsRow_made w #[] 0 (Nat.le_refl _) (Nat.zero_le _) (by simp)) (some ad) t.length c (t.flatMap encC) rfl (flat_len encC_len _) (by simp) ?c1 (flatC_one t) (by unfold maxLen; omega) (by omega) (by simp) ?_)
    case c1 =>
      intro ad' he j u hu
      exact Lib.cell?_alloc_some _ (Ho.out.2 ad' he j u hu)
    intro v1 w1 hown1 hg1
    have Hb1 : Hid (Below w.heap.size w w1) := ((Below.refl _ w).alloc (Nat.le_refl _) _).grown hg1 (by simp) (by intro k hk; simp [Value.ownBlock] at hk; omega)
    obtain ⟨A1, c1, rfl⟩ := own_slice hown1
    have Hown1 : Hid (w1.ownsRow w.heap.size 125 3 (.slice A1 t.length c1) t.length (t.flatMap encC)) := by simpa [Hid] using hown1
    clear hown1 hg1
    go_wp2_with fail
    go_ret
    exact ⟨A1, c1, by simp, Hown1.out, Hb1.out⟩

theorem nAt_row {t : List CT} (hn : (t.map (·.1)).Nodup) {c : CT} (hc : c ∈ t) : nAt t c.1 = c.2 := by rw [nAt, asc_mem hn hc]; rfl
theorem own_le {w : World} {base base' size n : Nat} {e : TypeId} {v : Value} {xs : List Value} (h : w.ownsRow base e size v n xs) (hb : base' ≤ base) : w.ownsRow base' e size v n xs :=
  ⟨h.1, h.2.imp id fun ⟨g, cap, cur, e, hg, r⟩ => ⟨g, cap, cur, e, Nat.le_trans hb hg, r⟩⟩
theorem flat_set {xs : List CT} {k : Nat} {p q n : Int} (h : xs[k]? = some ((p, q), n)) (n' : Int) : (xs.flatMap encC).set (k * 3 + 2) (.int .i64 n') = (xs.set k ((p, q), n')).flatMap encC := by
  induction xs generalizing k with
  | nil => simp at h
  | cons c xs ih =>
    cases k with
    | zero => simp at h; subst h; simp [encC]
    | succ k =>
      simp only [List.getElem?_cons_succ] at h
      have := ih h
      rw [List.flatMap_cons, List.set_cons_succ, List.flatMap_cons, ← this, show (k + 1) * 3 + 2 = k * 3 + 2 + 3 by omega]
      simp [encC]
def midR (t : List CT) (l : List ID) (k : Nat) : List CT := restR (t.take k) l ++ t.drop k
theorem midR_len (t : List CT) (l : List ID) (k : Nat) (h : k ≤ t.length) : (midR t l k).length = t.length := by
  unfold midR restR
  rw [List.length_append, List.length_map, List.length_take, List.length_drop]
  omega
theorem midR_at {t : List CT} {l : List ID} {k : Nat} (h : k < t.length) : (midR t l k)[k]? = some (t.getD k ct0) := by
  unfold midR
  have : (restR (t.take k) l).length = k := by simp [restR]; omega
  rw [List.getElem?_append_right (by omega), this, Nat.sub_self, drop_cons_getD t ct0 k h]
  rfl
theorem midR_next {t : List CT} {l : List ID} {k : Nat} (h : k < t.length) {i : ID} {n : Int} (he : t.getD k ct0 = (i, n)) : (midR t l k).set k (i, n - (l.count i : Nat)) = midR t l (k + 1) := by
  unfold midR
  have hl : (restR (t.take k) l).length = k := by simp [restR]; omega
  rw [List.set_append_right _ _ (by omega), hl, Nat.sub_self, drop_cons_getD t ct0 k h, take_snoc _ ct0 _ h, he, List.set_cons_zero]
  simp [restR]
theorem midR_same {t : List CT} {l : List ID} {k : Nat} (h : k < t.length) {i : ID} {n : Int} (he : t.getD k ct0 = (i, n)) (hi : i ∉ l) : midR t l (k + 1) = midR t l k := by
  rw [← midR_next h he, List.count_eq_zero_of_not_mem hi]
  have := midR_at (l := l) h
  rw [he] at this
  have hz : (i, n - ((0 : Nat) : Int)) = (i, n) := by simp
  rw [hz]
  exact WideElems.set_self _ _ _ this
theorem midR_end (t : List CT) (l : List ID) : midR t l t.length = restR t l := by simp [midR]
def fndL (t : List CT) (l : List ID) : Nat := (t.filter (fun c => decide (c.1 ∈ l))).length
theorem fndL_snoc (t : List CT) (l : List ID) (c : CT) : fndL (t ++ [c]) l = if c.1 ∈ l then fndL t l + 1 else fndL t l := by
  unfold fndL
  rw [List.filter_append]
  by_cases h : c.1 ∈ l <;> simp [h]
theorem fndL_le (t : List CT) (l : List ID) : fndL t l ≤ t.length := List.length_filter_le _ _
theorem fnd_all {t : List CT} (ht : (t.map (·.1)).Nodup) (m : Man) : (fndL t m.ids < (refs [m]).length ↔ ∃ i ∈ m.ids, i ∉ t.map (·.1)) := by
  have hk := refs_spec [m]
  have hkk := refs_keys [m]
  rw [ids_one] at hkk
  have d2 : ((refs [m]).map (·.1)).Nodup := hk.1
  have e1 : fndL t m.ids = ((t.map (·.1)).filter (fun i => decide (i ∈ m.ids))).length := by
    unfold fndL
    rw [List.filter_map, List.length_map]
    rfl
  have e2 : ((t.map (·.1)).filter (fun i => decide (i ∈ m.ids))).Perm (((refs [m]).map (·.1)).filter (fun i => decide (i ∈ t.map (·.1)))) := by
    refine (List.perm_ext_iff_of_nodup (ht.filter _) (d2.filter _)).2 (fun i => ?_)
    simp only [List.mem_filter, decide_eq_true_eq, hkk]
    exact ⟨fun h => ⟨h.2, h.1⟩, fun h => ⟨h.2, h.1⟩⟩
  have e3 : (refs [m]).length = ((refs [m]).map (·.1)).length := by simp
  rw [e1, e2.length_eq, e3, List.length_filter_lt_length_iff_exists]
  constructor
  · rintro ⟨i, hi, hn⟩
    exact ⟨i, (hkk i).1 hi, by simpa using hn⟩
  · rintro ⟨i, hi, hn⟩
    exact ⟨i, (hkk i).2 hi, by simpa using hn⟩
theorem enough_iff {t : List CT} (ht : (t.map (·.1)).Nodup) (l : List ID) : enoughB t l = true ↔ (∀ c ∈ t, c.1 ∈ l → ((l.count c.1 : Nat) : Int) ≤ c.2) ∧ ∀ i ∈ l, i ∈ t.map (·.1) := by
  unfold enoughB
  simp only [List.all_eq_true, decide_eq_true_eq]
  constructor
  · intro h
    refine ⟨fun c hc hl => ?_, fun i hi => ?_⟩
    · have := h c.1 hl
      rwa [nAt_row ht hc] at this
    · refine Classical.byContradiction (fun hh => ?_)
      have := h i hi
      rw [nAt_none hh] at this
      have hp : 0 < l.count i := List.count_pos_iff.2 hi
      omega
  · rintro ⟨h1, h2⟩ i hi
    obtain ⟨c, hc, rfl⟩ := List.mem_map.1 (h2 i hi)
    rw [nAt_row ht hc]
    exact h1 c hc hi
theorem Mp.look2 {w : World} {b : Nat} {L : List CT} (h : Mp w b L) (s z : Int) (ha : okID (s, z)) : (Instr.lookup 118 (.map (some b)) (.agg #[.int .u64 s, .int .i64 z]) true).run Tryz.prog w = .ok (.tuple #[.int .i64 (nAt L (s, z)), .bool (asc L (s, z)).isSome]) w := by
  have := MapIs.look mkI Tryz.underlying118 (zero3 w) h ha true
  rw [show (Value.agg #[.int .u64 s, .int .i64 z]) = vID (s, z) from rfl, this]
  unfold nAt
  cases asc L (s, z) <;> simp
theorem refs_some (m : Man) (i : ID) : (asc (refs [m]) i).isSome = decide (i ∈ m.ids) := by
  rw [(refs_spec [m]).2, ids_one]
  by_cases h : i ∈ m.ids <;> simp [h]

set_option maxRecDepth 100000 in
set_option maxHeartbeats 8000000 in
theorem Release_any (x : Nat) (t : List CT) (A : Option Addr) (c : Nat) (m : Man) (B : Option Addr) (d : Nat) (w : World) (hr : RdC w x A t) (hm : RdID w x B m.ids) (hd : m.ids.length ≤ d) (hx : x < w.heap.size) (hn : t.length ≤ 9223372036854775807) (hi : m.ids.length ≤ 9223372036854775807) (hok : ∀ i ∈ m.ids, okID i) (hot : ∀ c ∈ t, okID c.1) :
    Calls Tryz.prog 17 #[.slice A t.length c, .agg #[.int .i64 m.size, .slice B m.ids.length d]] w (TwoC x (relP t m) w) := by
  have Hr := Lib.hid hr
  have Hm := Lib.hid hm
  have Hok := Lib.hid hok
  have Hot := Lib.hid hot
  clear hr hm hok hot
  obtain ⟨p, Hp⟩ : ∃ p, Hid (relP t m = p) := ⟨_, rfl⟩
  rw [Hp.out]
  go_enter Tryz.func17, Tryz.ntmps17
  go_wp2_with fail
  refine (Check_any x t A c _ (Hr.out.alloc _) hn).mono ?_
  rintro e w1 ⟨rfl, hb1⟩
  have Hb1 : Hid (Below w.heap.size w w1) := (bel1 w _).trans (hb1.mono (by simp))
  have HI : Hid (IsB w1 w.heap.size 33 #[.int .i64 m.size, .slice B m.ids.length d]) := (IsB.new _ _ _).on hb1
  clear hb1
  by_cases hE : tblE t = 0
  · have HE := Lib.hid hE
    rw [hE]
    clear hE
    have hm0 : w1.cell? ⟨w.heap.size, 0, none⟩ = some (.int .i64 m.size) := by rw [HI.out.cell]; rfl
    have hm1 : w1.cell? ⟨w.heap.size, 1, none⟩ = some (.slice B m.ids.length d) := by rw [HI.out.cell]; rfl
    have hs1 := Hb1.out.size
    have hl4 := ((tblE_iff t).1 HE.out).1
    go_wp2_with fail
    refine (references_any x [m] _ _ _ (rdm_one (newAt _ _ _ _ rfl) ((Hm.out.on Hb1.out).alloc _) hd (by omega)) (by simp) (by simp; omega) (by simpa using Hok.out)).mono ?_
    rintro e w2 ⟨hb2, ⟨hM, b, hb, rfl, hmp⟩ | ⟨hM, rfl⟩⟩
    · have Hb2 : Hid (Below w.heap.size w w2) := (Hb1.out.alloc Hb1.out.size _).trans (hb2.mono (by simp; omega))
      rw [errM_one] at hM
      have hp := Hp.out
      rw [relP, if_pos HE.out, if_pos hM] at hp
      have Hq := Lib.hid hp
      have hml := manE_len hM
      have hlen := refs_len (ms := [m]) (by rw [errM_one]; exact hM)
      have hbig : w.heap.size ≤ b := by simp at hb; omega
      have Hmp := Lib.hid hmp
      have HM := Lib.hid hM
      have hs2 := Hb2.out.size
      clear hM hb2 hmp hb hp
      simp only [List.length_singleton] at hlen
      go_wp2_with fail
      refine (CloneC_any x t A c _ (Hr.out.on Hb2.out) (by omega)).mono ?_
      rintro e w3 ⟨R, cR, rfl, hown3, hb3⟩
      have Hb3 : Hid (Below w.heap.size w w3) := Hb2.out.trans (hb3.mono hs2)
      have Hm3 : Hid (Mp w3 b (refs [m])) := Hmp.out.on hb3
      have Hown3 := Lib.hid (own_le hown3 hs2)
      clear hb3 hown3
      go_wp2_with fail
      go_loopw [10, 33] (fun v10 v33 wr => ∃ k : Nat, k ≤ t.length ∧ v33 = .int .i64 k ∧ v10 = .int .i64 (fndL (t.take k) m.ids) ∧ Hid (∀ c ∈ t.take k, c.1 ∈ m.ids → ((m.ids.count c.1 : Nat) : Int) ≤ c.2) ∧ wr.ownsRow w.heap.size 125 3 (.slice R t.length cR) t.length ((midR t m.ids k).flatMap encC) ∧ Mp wr b (refs [m]) ∧ Below w.heap.size w wr) (fun _ v33 _ => t.length - (intOf v33).toNat)
      case atStart => exact ⟨0, Nat.zero_le _, rfl, rfl, by simp [Hid], by simpa [midR, restR] using Hown3.out, Hm3.out, Hb3.out⟩
      case round =>
        obtain ⟨k, hk, rfl, rfl, Hall, hown, hmw, hbw⟩ := hrel
        have hsz := hbw.size
        have hfl := fndL_le (t.take k) m.ids
        have htl := take_len t k
        obtain ⟨fd, HF⟩ : ∃ fd, Hid (fndL (t.take k) m.ids = fd) := ⟨_, rfl⟩
        rw [HF.out] at hfl ⊢
        have Hown := Lib.hid hown
        have Hmw := Lib.hid hmw
        have Hbw := Lib.hid hbw
        clear hown hmw hbw
        by_cases hlt : k < t.length
        · obtain ⟨g, cap, hv, hgb, hgl⟩ := Hown.out.form (by omega)
          injection hv with hv1 hv2 hv3
          subst hv1 hv3
          obtain ⟨p0, q0, n0, HJ⟩ : ∃ p0 q0 n0, Hid (t.getD k ct0 = ((p0, q0), n0)) := ⟨_, _, _, rfl⟩
          have hml2 := midR_len t m.ids k hk
          have cell : ∀ i v, i < 3 → (encC ((p0, q0), n0))[i]? = some v → wr.cell? ⟨g, k * 3 + i, none⟩ = some v := by
            intro i v hi3 hv
            rw [Hown.out.cellAt (k * 3 + i) (by omega), flat_at encC_len ct0 _ k i (by omega) hi3, List.getD_eq_getElem?_getD, midR_at hlt, HJ.out]
            exact hv
          have d0 : wr.cell? ⟨g, k * 3, none⟩ = some (.int .u64 p0) := cell 0 _ (by omega) rfl
          have d1 : wr.cell? ⟨g, k * 3 + 1, none⟩ = some (.int .i64 q0) := cell 1 _ (by omega) rfl
          have d2 : wr.cell? ⟨g, k * 3 + 2, none⟩ = some (.int .i64 n0) := cell 2 _ (by omega) rfl
          have f2 : wr.frozen? ⟨g, k * 3 + 2, none⟩ = false := Hown.out.frozenAt _
          have hmem := getD_mem t ct0 k hlt
          rw [HJ.out] at hmem
          have hn0 := tbl_bd HE.out _ hmem
          simp only at hn0
          have hok0 := Hot.out _ hmem
          have hlook := Mp.look2 (Hmw.out.alloc (.cells #[.int .u64 p0, .int .i64 q0, .int .i64 n0] 125)) p0 q0 hok0
          rw [nAt_refs, refs_some, ids_one] at hlook
          have hcl : m.ids.count (p0, q0) ≤ m.ids.length := List.count_le_length
          have Hmem := Lib.hid hmem
          have hgne : some b ≠ some g := Hmw.out.mown_ne Hown.out
          have Hgne := Lib.hid hgne
          clear cell hmem hok0 hgne hv2 hml2
          by_cases hin : (p0, q0) ∈ m.ids
          · have HN : Hid (fndL (t.take (k + 1)) m.ids = fd + 1) := by rw [Hid, take_snoc _ ct0 _ hlt, fndL_snoc, HJ.out, if_pos hin, HF.out]
            have Hin := Lib.hid hin
            rw [decide_eq_true hin] at hlook
            obtain ⟨cn, HC⟩ : ∃ cn, Hid (m.ids.count (p0, q0) = cn) := ⟨_, rfl⟩
            rw [HC.out] at hlook hcl
            clear hin
            by_cases hlow : n0 < cn
            · have hq := Hq.out
              rw [if_neg (by
                rw [enough_iff (tbl_nodup HE.out)]
                rintro ⟨h1, _⟩
                have := h1 _ Hmem.out Hin.out
                simp only [HC.out] at this
                omega)] at hq
              have HQ := Lib.hid hq.symm
              clear hq
              go_wp2_with fail
              go_ret2
              exact twoC_err HQ.out (Hbw.out.alloc Hbw.out.size _)
            · have HA : Hid (∀ c ∈ t.take (k + 1), c.1 ∈ m.ids → ((m.ids.count c.1 : Nat) : Int) ≤ c.2) := by
                intro c hc
                rw [take_snoc _ ct0 _ hlt, HJ.out] at hc
                rcases List.mem_append.1 hc with hc | hc
                · exact Hall.out c hc
                · simp at hc; subst hc; intro _; simp only [HC.out]; omega
              have HO : Hid (((wr.setCell ⟨g, k * 3 + 2, none⟩ (.int .i64 (n0 - cn))).alloc (.cells #[.int .u64 p0, .int .i64 q0, .int .i64 n0] 125)).ownsRow w.heap.size 125 3 (.slice (some ⟨g, 0, none⟩) t.length cR) t.length ((midR t m.ids (k + 1)).flatMap encC)) := by
                have h1 := (Hown.out.stored (k * 3 + 2) (.int .i64 (n0 - cn))).1
                have h2 := midR_at (l := m.ids) hlt
                rw [HJ.out] at h2
                rw [flat_set h2] at h1
                have h3 := midR_next (l := m.ids) hlt HJ.out
                rw [HC.out] at h3
                rw [h3] at h1
                exact h1.alloc _
              have HMm : Hid (Mp ((wr.setCell ⟨g, k * 3 + 2, none⟩ (.int .i64 (n0 - cn))).alloc (.cells #[.int .u64 p0, .int .i64 q0, .int .i64 n0] 125)) b (refs [m])) := (Hmw.out.kept (row := some g) (g_set (g_refl _ _) (.inl rfl) _) Hgne.out).alloc _
              have HBb : Hid (Below w.heap.size w ((wr.setCell ⟨g, k * 3 + 2, none⟩ (.int .i64 (n0 - cn))).alloc (.cells #[.int .u64 p0, .int .i64 q0, .int .i64 n0] 125))) := (Hbw.out.setCell (by simp; omega) _).alloc (by simpa [World.setCell] using hsz) _
              go_wp2_with fail
              go_roundw
              case rel => exact ⟨k + 1, by omega, by go_num, by rw [HN.out]; go_num, HA, HO.out, HMm.out, HBb.out⟩
              case measure => simp [intOf]; omega
          · have HN : Hid (fndL (t.take (k + 1)) m.ids = fd) := by rw [Hid, take_snoc _ ct0 _ hlt, fndL_snoc, HJ.out, if_neg hin, HF.out]
            have HA : Hid (∀ c ∈ t.take (k + 1), c.1 ∈ m.ids → ((m.ids.count c.1 : Nat) : Int) ≤ c.2) := by
              intro c hc
              rw [take_snoc _ ct0 _ hlt, HJ.out] at hc
              rcases List.mem_append.1 hc with hc | hc
              · exact Hall.out c hc
              · simp at hc; subst hc; intro h; exact absurd h hin
            have HMs : Hid (midR t m.ids (k + 1) = midR t m.ids k) := midR_same hlt HJ.out hin
            rw [decide_eq_false hin] at hlook
            clear hin
            go_wp2_with fail
            go_roundw
            case rel => exact ⟨k + 1, by omega, by go_num, by rw [HN.out], HA, by rw [HMs.out]; exact Hown.out.alloc _, Hmw.out.alloc _, Hbw.out.alloc Hbw.out.size _⟩
            case measure => simp [intOf]; omega
        · obtain rfl : k = t.length := by omega
          rw [List.take_length] at HF Hall
          rw [midR_end] at Hown
          have hlen2 : (Builtin.len_ #[118] 3 #[.map (some b)]).run Tryz.prog wr = .ok (.int .i64 (refs [m]).length) wr := Hmw.out.len Tryz.underlying118 3
          by_cases hlow : fd < (refs [m]).length
          · have hq := Hq.out
            have hex := (fnd_all (tbl_nodup HE.out) m).1 (by rw [HF.out]; exact hlow)
            rw [if_neg (by
              rw [enough_iff (tbl_nodup HE.out)]
              rintro ⟨_, h2⟩
              obtain ⟨i, h3, h4⟩ := hex
              exact h4 (h2 i h3))] at hq
            have HQ := Lib.hid hq.symm
            clear hq hex
            go_wp2_with fail
            go_ret2
            exact twoC_err HQ.out Hbw.out
          · have hq := Hq.out
            have hex : ¬ ∃ i ∈ m.ids, i ∉ t.map (·.1) := fun h => hlow (by have := (fnd_all (tbl_nodup HE.out) m).2 h; rwa [HF.out] at this)
            rw [if_pos (by
              rw [enough_iff (tbl_nodup HE.out)]
              exact ⟨Hall.out, fun i h3 => Classical.byContradiction (fun h4 => hex ⟨i, h3, h4⟩)⟩)] at hq
            subst hq
            have hrl : t.length = (restR t m.ids).length := by simp [restR]
            have HO2 := Hown.out
            rw [hrl] at HO2
            have HR := Lib.hid (Rd.of_own (x := x) (d := ct0) encC_len (by omega) HO2 hx).2
            have HCp := Lib.hid (own_cap HO2)
            have hrl' := Lib.hid hrl
            clear hex HO2 hrl
            go_wp2_with fail
            go_ret2
            exact ⟨R, cR, by show Ending.returned (.tuple #[.slice R t.length cR, .int .i64 0]) = Ending.returned (.tuple #[.slice R (restR t m.ids).length cR, .int .i64 0]); rw [← hrl'.out], HR.out, HCp.out, Hbw.out⟩
    · have Hb2 : Hid (Below w.heap.size w w2) := (Hb1.out.alloc Hb1.out.size _).trans (hb2.mono (by simp; omega))
      rw [errM_one] at hM ⊢
      have hp := Hp.out
      rw [relP, if_pos HE.out, if_neg hM] at hp
      have Hq := Lib.hid hp.symm
      have hbe : (manE m != 0) = true := by rw [bne_iff_ne]; exact hM
      clear hM hb2 hp
      go_wp2_with fail
      go_ret2
      exact twoC_err Hq.out Hb2.out
  · have hp := Hp.out
    rw [relP, if_neg hE] at hp
    have Hq := Lib.hid hp.symm
    have hbe : (tblE t != 0) = true := by rw [bne_iff_ne]; exact hE
    clear hE hp
    go_wp2_with fail
    go_ret2
    exact twoC_err Hq.out Hb1.out
end Go.Proofs.YtmiknfneeipkeaaGreat
namespace Go.Proofs.YtmiknfneeipkeaaGreat
open Go.RowKit Go.MapKept Go.ChangeMaps Go.Shelf Go.Sort
/-- Fold. -/
def foldI (v n : Int) : Int := if n ≤ 1 then 0 else if v.tmod n < 0 then v.tmod n + n else v.tmod n
theorem foldI_in (v n : Int) : 0 ≤ foldI v n ∧ (1 < n → foldI v n < n) := by
  unfold foldI
  split
  · omega
  · have t1 := tmod_lt' v n (by omega)
    have t2 := tmod_gt' v n (by omega)
    split <;> omega
set_option maxHeartbeats 400000 in
theorem Fold_x (v n : Int) (w : World) (hn : n ≤ 4294967296) : Calls Tryz.prog 29 #[.int .i64 v, .int .i64 n] w (fun e w' => e = .returned (.int .i64 (foldI v n)) ∧ w = w') := by
  by_cases h1 : n ≤ 1
  · have e : foldI v n = 0 := if_pos h1
    rw [e]
    go_enter Tryz.func29, Tryz.ntmps29
    go_wp2
    go_ret
    exact ⟨rfl, rfl⟩
  · have t1 := tmod_lt' v n (by omega)
    have t2 := tmod_gt' v n (by omega)
    have e : foldI v n = if v.tmod n < 0 then v.tmod n + n else v.tmod n := if_neg h1
    rw [e]
    obtain ⟨t, ht⟩ : ∃ t, v.tmod n = t := ⟨_, rfl⟩
    rw [ht] at t1 t2 ⊢
    have hn0 : (n == 0) = false := by rw [beq_eq_false_iff_ne]; omega
    have hnm : (n == -1) = false := by rw [beq_eq_false_iff_ne]; omega
    by_cases h2 : t < 0
    · rw [if_pos h2]
      go_enter Tryz.func29, Tryz.ntmps29
      go_wp2
      go_ret
      exact ⟨rfl, rfl⟩
    · rw [if_neg h2]
      go_enter Tryz.func29, Tryz.ntmps29
      go_wp2
      go_ret
      exact ⟨rfl, rfl⟩
/-- What lies on the tape at a place. -/
def tapeV (L : List Int) (n : Nat) : Int := if n < L.length then L.getD n 0 else ((n : Int) * 7).tmod 11
def tnext (L : List Int) (n : Nat) (k : Int) : Int := foldI (tapeV L n) k
theorem tnext_in (L : List Int) (n : Nat) (k : Int) : 0 ≤ tnext L n k ∧ (1 < k → tnext L n k < k) := foldI_in _ _
/-- The tape's numbers. -/
def RdL (w : World) (g : Nat) (A : Option Addr) (L : List Int) : Prop := 0 < L.length → ∃ b o, A = some ⟨b, o, none⟩ ∧ b < w.heap.size ∧ b ≠ g ∧ ∀ j, j < L.length → w.cell? ⟨b, o + j, none⟩ = some (.int .i64 (L.getD j 0))
/-- A tape at place n. -/
def tpOb (g : Nat) (A : Option Addr) (c : Nat) (L : List Int) (n : Nat) : Ob where
  own := fun i => i = g
  rd := fun i => 0 < L.length ∧ ∃ o, A = some ⟨i, o, none⟩
  holds := fun w => IsB w g 26 #[.slice A L.length c, .int .i64 n] ∧ RdL w g A L ∧ L.length ≤ 9223372036854775807
  stable := fun w w' h hs hk => by
    refine ⟨(hk g (.inl rfl)).trans h.1, fun hp => ?_, h.2.2⟩
    obtain ⟨b, o, e, hlt, hne, hc⟩ := h.2.1 hp
    have h2 := hk b (.inr ⟨hp, o, e⟩)
    refine ⟨b, o, e, Nat.lt_of_lt_of_le hlt hs.2.2.2, hne, fun j hj => ?_⟩
    rw [← hc j hj]
    simp [World.cell?, h2]
section
variable {b : Nat} {w0 w : World} {l : List Ob} {g : Nat} {A : Option Addr} {c : Nat} {L : List Int} {n : Nat}
/-- One more number is read. -/
theorem SW.tick (h : SW b w0 l w) (k : Nat) (hk : l[k]? = some (tpOb g A c L n)) : SW b w0 (l.set k (tpOb g A c L (n + 1))) (w.setCell ⟨g, 1, none⟩ (.int .i64 ((n : Int) + 1))) := by
  have hh := h.get k hk
  have hgr : w.grownBy (w.setCell ⟨g, 1, none⟩ (.int .i64 ((n : Int) + 1))) (some g) := g_set (p := ⟨g, 1, none⟩) (g_refl _ _) (.inl rfl) _
  have hlt := hh.1.lt
  have hsz : (w.setCell ⟨g, 1, none⟩ (.int .i64 ((n : Int) + 1))).heap.size = w.heap.size := by simp [World.setCell]
  have hnew : (tpOb g A c L (n + 1)).holds (w.setCell ⟨g, 1, none⟩ (.int .i64 ((n : Int) + 1))) := by
    refine ⟨by simpa using hh.1.set_ 1 (.int .i64 ((n : Int) + 1)), fun hp => ?_, hh.2.2⟩
    obtain ⟨b', o, e, hl, hne, hc⟩ := hh.2.1 hp
    exact ⟨b', o, e, by rw [hsz]; exact hl, hne, fun j hj => (g_cell hgr hl hne).trans (hc j hj)⟩
  have := h.1.stepAt k hk (o' := tpOb g A c L (n + 1)) (Fr.grown hgr rfl (fun i hi => .inl hi)) (fun i hi => .inr (.inl hi)) hnew (fun i hi => by
    rw [hsz]
    rcases hi with hi | ⟨hp, o, e⟩
    · have hi : i = g := hi
      rw [hi]
      exact hlt
    · obtain ⟨b', o', e', hl, _⟩ := hh.2.1 hp
      rw [e] at e'
      injection e' with e'
      injection e' with e' _
      rw [e']
      exact hl)
  exact ⟨this.1, h.2.trans this.2⟩
set_option maxRecDepth 100000 in
set_option maxHeartbeats 1000000 in
theorem Next_x (h : SW b w0 l w) (k : Nat) (hk : l[k]? = some (tpOb g A c L n)) (m : Int) (hm : m ≤ 4294967296) (hn : n ≤ 1000000) :
    Calls Tryz.prog 9 #[vPtr g, .int .i64 m] w (fun e w' => e = .returned (.int .i64 (tnext L n m)) ∧ SW b w0 (l.set k (tpOb g A c L (n + 1))) w') := by
  have hh := h.get k hk
  have hc0 : w.cell? ⟨g, 0, none⟩ = some (.slice A L.length c) := hh.1.cell 0
  have hc1 : w.cell? ⟨g, 1, none⟩ = some (.int .i64 n) := hh.1.cell 1
  have hf1 : w.frozen? ⟨g, 1, none⟩ = false := hh.1.frozen 1
  have H1 := Lib.hid (fun q : Nat => (h.on (bdrewN (Below.refl _ _) q)).tick k hk)
  have h3 := hh.2.2
  by_cases hlt : n < L.length
  · obtain ⟨b', o, rfl, hb, _, hc⟩ := hh.2.1 (by omega)
    have hcl : w.cell? ⟨b', o + n, none⟩ = some (.int .i64 (L.getD n 0)) := hc n hlt
    have et : tapeV L n = L.getD n 0 := if_pos hlt
    unfold tnext
    rw [et]
    clear hc hh h et
    obtain ⟨v, Hv⟩ : ∃ v, Hid (L.getD n 0 = v) := ⟨_, rfl⟩
    rw [Hv.out] at hcl ⊢
    have hltb : decide (n < L.length) = true := by simp; omega
    go_enter Tryz.func9, Tryz.ntmps9
    go_wp2_with fail
    go_quiet (fail)
    go_wp2_with fail
    go_quiet (fail)
    go_wp2_with fail
    refine (Fold_x v m _ hm).mono ?_
    rintro e w1 ⟨rfl, rfl⟩
    go_wp2_with fail
    go_ret
    exact ⟨rfl, H1.out _⟩
  · have et : tapeV L n = ((n : Int) * 7).tmod 11 := if_neg hlt
    unfold tnext
    rw [et]
    clear hh h et
    have hltb : decide (n < L.length) = false := by simp; omega
    go_enter Tryz.func9, Tryz.ntmps9
    go_wp2_with fail
    go_quiet (fail)
    go_wp2_with fail
    refine (Fold_x _ m _ hm).mono ?_
    rintro e w1 ⟨rfl, rfl⟩
    go_wp2_with fail
    go_ret
    exact ⟨rfl, H1.out _⟩
end
end Go.Proofs.YtmiknfneeipkeaaGreat
