/- Contracts of the walk, part 14. -/
import Derived.Test.YtmiknfneeipkeaaGreatR10
import Derived.Test.YtmiknfneeipkeaaGreatR05
namespace Go.Proofs.YtmiknfneeipkeaaGreat
open Go.RowKit Go.MapKept Go.ChangeMaps
attribute [local go_sem] wext_cell
section
variable {b : Nat} {w0 w : World} {l : List Ob} {A : Option Addr} {m cm ge : Nat} {n a s bs : Int}
theorem RowV.of {t : TypeId} {sz n c : Nat} {xs : List Value} (h : w.ownsRow 0 t sz (.slice A n c) n xs) : RowV w t sz A n xs := by
  refine ⟨h.1, ?_⟩
  rcases h.2 with ⟨_, h2⟩ | ⟨g, cap, cur, hv, _, hh, _, _, _, hx⟩
  · exact .inl h2
  · injection hv with hv
    exact .inr ⟨g, cur, hv, hh, hx⟩
theorem revs_succ (m : Nat) : revs (m + 1) = revs m ++ [(m : Int) + 1] := by simp [revs, List.range_succ]
set_option maxRecDepth 100000 in
set_option maxHeartbeats 16000000 in
theorem append_any (h : SW b w0 l w) (hv : rvOb A m ∈ l) (h0 : m = 0 → A = none ∧ cm = 0) (hm : m ≤ 99) (he : cellOb ge 100 (cEd a s bs) ∈ l) (ha : actI ((m : Int) + 1) = a) (hs : (m : Int) + 1 = s) (hb : (m : Int) = bs) (hn : n = 10 * ((m : Int) + 1)) : Calls Tryz.prog 50 #[.agg #[.slice A m cm, .slice none 0 0], .agg #[.int .i64 n, .string ⟨#[]⟩, .string ⟨#[]⟩, .slice (some ⟨ge, 0, none⟩) 1 1, .slice none 0 0]] w (fun e w' => ∃ A' cm', e = .returned (.tuple #[.agg #[.slice A' (m + 1) cm', .slice none 0 0], .int .i64 0]) ∧ SW b w0 (rvOb A' (m + 1) :: l) w') := by
  have S0 := Lib.hid (((h.newCell 96 #[.slice A m cm, .slice none 0 0]).newCellAt 105 #[.int .i64 n, .string ⟨#[]⟩, .string ⟨#[]⟩, .slice (some ⟨ge, 0, none⟩) 1 1, .slice none 0 0] (H := w.heap.size + 1) (by simp)).newCellAt 96 #[.slice none 0 0, .slice none 0 0] (H := w.heap.size + 1 + 1) (by simp))
  have HV := Lib.hid hv
  have HE := Lib.hid he
  have H0 := Lib.hid h0
  have HA := Lib.hid ha
  have HS := Lib.hid hs
  have HB := Lib.hid hb
  have HN := Lib.hid hn
  have ha4 : a ≠ 4 := by rw [← ha]; unfold actI; split <;> decide
  have ha5 : a ≠ 5 := by rw [← ha]; unfold actI; split <;> decide
  clear h hv he h0 ha hs hb hn
  go_enter Tryz.func50, Tryz.ntmps50
  go_upto_region 1 with fail
  obtain ⟨w1, HW⟩ : ∃ W, Hid (((w.alloc (.cells #[.slice A m cm, .slice none 0 0] 96)).alloc (.cells #[.int .i64 n, .string ⟨#[]⟩, .string ⟨#[]⟩, .slice (some ⟨ge, 0, none⟩) 1 1, .slice none 0 0] 105)).alloc (.cells #[.slice none 0 0, .slice none 0 0] 96) = W) := ⟨_, rfl⟩
  rw [HW.out] at S0 ⊢
  clear HW
  obtain ⟨g4, HG⟩ : ∃ x, Hid (w.heap.size + 1 + 1 = x) := ⟨_, rfl⟩
  rw [HG.out] at S0 ⊢
  clear HG
  obtain ⟨g3, HG⟩ : ∃ x, Hid (w.heap.size + 1 = x) := ⟨_, rfl⟩
  rw [HG.out] at S0 ⊢
  clear HG
  obtain ⟨g2, HG⟩ : ∃ x, Hid (w.heap.size = x) := ⟨_, rfl⟩
  rw [HG.out] at S0 ⊢
  clear HG
  have S0' : Hid (SW b w0 (cellOb g4 96 #[.slice none 0 0, .slice none 0 0] :: cellOb g3 105 #[.int .i64 n, .string ⟨#[]⟩, .string ⟨#[]⟩, .slice (some ⟨ge, 0, none⟩) 1 1, .slice none 0 0] :: cellOb g2 96 #[.slice A m cm, .slice none 0 0] :: l) w1) := S0
  clear S0
  have S0 := S0'
  clear S0'
  have c0 : w1.cell? ⟨g2, 0, none⟩ = some (.slice A m cm) := (S0.out.cell 2 rfl).cell 0
  have c1 : w1.cell? ⟨g2, 1, none⟩ = some (.slice none 0 0) := (S0.out.cell 2 rfl).cell 1
  have d0 : w1.cell? ⟨g3, 0, none⟩ = some (.int .i64 n) := (S0.out.cell 1 rfl).cell 0
  have d1 : w1.cell? ⟨g3, 1, none⟩ = some (.string ⟨#[]⟩) := (S0.out.cell 1 rfl).cell 1
  have d2 : w1.cell? ⟨g3, 2, none⟩ = some (.string ⟨#[]⟩) := (S0.out.cell 1 rfl).cell 2
  have d3 : w1.cell? ⟨g3, 3, none⟩ = some (.slice (some ⟨ge, 0, none⟩) 1 1) := (S0.out.cell 1 rfl).cell 3
  have d4 : w1.cell? ⟨g3, 4, none⟩ = some (.slice none 0 0) := (S0.out.cell 1 rfl).cell 4
  have HNC := Lib.hid (newCheck_any (n := n) (Ev := .slice (some ⟨ge, 0, none⟩) 1 1) (cm := cm) S0.out (List.mem_cons_of_mem _ (List.mem_cons_of_mem _ (List.mem_cons_of_mem _ HV.out))) (by omega))
  go_wp2_with (go_at_call 95; (with_reducible refine HNC.out.mono ?_); refine halt_ ?_)
  rintro e w2 ⟨kb, ml, me, mi, rfl, s2⟩
  have S1 : Hid (SW b w0 (mpOb okS kS vE3 me ([]) :: mpOb okS kS vRw ml (lastL m) :: mpOb okF vF vF mi (linL m) :: cellOb kb 209 (ckC (.slice A m cm) n (.slice (some ⟨ge, 0, none⟩) 1 1) ml me mi) :: cellOb g4 96 #[.slice none 0 0, .slice none 0 0] :: cellOb g3 105 #[.int .i64 n, .string ⟨#[]⟩, .string ⟨#[]⟩, .slice (some ⟨ge, 0, none⟩) 1 1, .slice none 0 0] :: cellOb g2 96 #[.slice A m cm, .slice none 0 0] :: l) w2) := s2
  clear s2 HNC S0 c0 c1 d0 d1 d2 d3 d4
  go_wp2_with (go_at_call 96; (with_reducible refine (steps_any _ _).mono ?_); refine halt_ ?_)
  rintro e w3 ⟨rfl, rfl⟩
  have S2a := Lib.hid (S1.out.newCell 156 (stC kb))
  obtain ⟨g5, HG⟩ : ∃ x, Hid (w2.heap.size = x) := ⟨_, rfl⟩
  obtain ⟨w3, HW⟩ : ∃ x, Hid (w2.alloc (.cells (stC kb) 156) = x) := ⟨_, rfl⟩
  rw [HG.out, HW.out] at S2a ⊢
  clear HG HW S1
  have S2 : Hid (SW b w0 (mpOb okS kS vE3 me ([]) :: mpOb okS kS vRw ml (lastL m) :: mpOb okF vF vF mi (linL m) :: cellOb kb 209 (ckC (.slice A m cm) n (.slice (some ⟨ge, 0, none⟩) 1 1) ml me mi) :: cellOb g5 156 (stC kb) :: cellOb g4 96 #[.slice none 0 0, .slice none 0 0] :: cellOb g3 105 #[.int .i64 n, .string ⟨#[]⟩, .string ⟨#[]⟩, .slice (some ⟨ge, 0, none⟩) 1 1, .slice none 0 0] :: cellOb g2 96 #[.slice A m cm, .slice none 0 0] :: l) w3) := SW.front (pre := [_, _, _, _, _, _, _, _]) S2a.out [1, 2, 3, 4, 0, 5, 6, 7] (n := 8) rfl (by decide)
  clear S2a
  go_wp2_with fail
  go_loopw [19] (fun s19 wr => ∃ (j : Nat), s19 = .int .i64 (j : Int) ∧ j ≤ 5 ∧ SW b w0 (mpOb okS kS vE3 me ((if j < 2 then [] else [(pA, (a, s, bs))])) :: mpOb okS kS vRw ml (lastL m) :: mpOb okF vF vF mi (linL m) :: cellOb kb 209 (ckC (.slice A m cm) n (.slice (some ⟨ge, 0, none⟩) 1 1) ml me mi) :: cellOb g5 156 (stC kb) :: cellOb g4 96 #[.slice none 0 0, .slice none 0 0] :: cellOb g3 105 #[.int .i64 n, .string ⟨#[]⟩, .string ⟨#[]⟩, .slice (some ⟨ge, 0, none⟩) 1 1, .slice none 0 0] :: cellOb g2 96 #[.slice A m cm, .slice none 0 0] :: l) wr) (fun s19 _ => 5 - (intOf s19).toNat)
  case atStart => exact ⟨0, rfl, by omega, S2.out⟩
  case round =>
    obtain ⟨j, rfl, hj, hs⟩ := hrel
    clear S2
    have hj' : j = 0 ∨ j = 1 ∨ j = 2 ∨ j = 3 ∨ j = 4 ∨ j = 5 := by omega
    clear hj
    rcases hj' with rfl | rfl | rfl | rfl | rfl | rfl
    · have S1 : Hid (SW b w0 (mpOb okS kS vE3 me ([]) :: mpOb okS kS vRw ml (lastL m) :: mpOb okF vF vF mi (linL m) :: cellOb kb 209 (ckC (.slice A m cm) n (.slice (some ⟨ge, 0, none⟩) 1 1) ml me mi) :: cellOb g5 156 (stC kb) :: cellOb g4 96 #[.slice none 0 0, .slice none 0 0] :: cellOb g3 105 #[.int .i64 n, .string ⟨#[]⟩, .string ⟨#[]⟩, .slice (some ⟨ge, 0, none⟩) 1 1, .slice none 0 0] :: cellOb g2 96 #[.slice A m cm, .slice none 0 0] :: l) wr) := hs
      clear hs
      have c0 : wr.cell? ⟨g5, 0, none⟩ = some (.func (.func 132) #[vPtr kb] #[]) := (S1.out.cell 4 rfl).cell 0
      have HC := Lib.hid (size_any S1.out (List.mem_cons_of_mem _ (List.mem_cons_of_mem _ (List.mem_cons_of_mem _ (List.mem_cons_self ..)))) (List.mem_cons_of_mem _ (List.mem_cons_of_mem _ (List.mem_cons_of_mem _ (List.mem_cons_of_mem _ (List.mem_cons_of_mem _ (List.mem_cons_of_mem _ (List.mem_cons_of_mem _ (List.mem_cons_of_mem _ HV.out)))))))) HN.out (by omega))
      go_wp2_with (go_at_call 132; (with_reducible refine HC.out.mono ?_); refine halt_ ?_)
      rintro e w4 ⟨rfl, hb4⟩
      have S3 := Lib.hid (S1.out.on hb4)
      clear hb4
      clear HC S1 c0
      go_wp2_with fail
      go_roundw
      case rel => exact ⟨1, by go_num, by omega, S3.out⟩
      case measure => simp [intOf]
    · have S1 : Hid (SW b w0 (mpOb okS kS vE3 me ([]) :: mpOb okS kS vRw ml (lastL m) :: mpOb okF vF vF mi (linL m) :: cellOb kb 209 (ckC (.slice A m cm) n (.slice (some ⟨ge, 0, none⟩) 1 1) ml me mi) :: cellOb g5 156 (stC kb) :: cellOb g4 96 #[.slice none 0 0, .slice none 0 0] :: cellOb g3 105 #[.int .i64 n, .string ⟨#[]⟩, .string ⟨#[]⟩, .slice (some ⟨ge, 0, none⟩) 1 1, .slice none 0 0] :: cellOb g2 96 #[.slice A m cm, .slice none 0 0] :: l) wr) := hs
      clear hs
      have c1 : wr.cell? ⟨g5, 1, none⟩ = some (.func (.func 133) #[vPtr kb] #[]) := (S1.out.cell 4 rfl).cell 1
      have HC := Lib.hid (everyEdit_any (Le := []) S1.out (List.mem_cons_of_mem _ (List.mem_cons_of_mem _ (List.mem_cons_self ..))) (List.mem_cons_of_mem _ (List.mem_cons_of_mem _ (List.mem_cons_of_mem _ (List.mem_cons_of_mem _ (List.mem_cons_of_mem _ (List.mem_cons_of_mem _ (List.mem_cons_of_mem _ HE.out))))))) (fun W hW => oneEdit_m hW (List.mem_cons_of_mem _ (List.mem_cons_of_mem _ (List.mem_cons_of_mem _ (List.mem_cons_self ..)))) (List.mem_cons_of_mem _ (List.mem_cons_self ..)) HA.out HB.out))
      go_wp2_with (go_at_call 133; (with_reducible refine HC.out.mono ?_); refine halt_ ?_)
      rintro e w4 ⟨rfl, s4⟩
      have S3 : Hid (SW b w0 (mpOb okS kS vE3 me ([(pA, (a, s, bs))]) :: mpOb okS kS vRw ml (lastL m) :: mpOb okF vF vF mi (linL m) :: cellOb kb 209 (ckC (.slice A m cm) n (.slice (some ⟨ge, 0, none⟩) 1 1) ml me mi) :: cellOb g5 156 (stC kb) :: cellOb g4 96 #[.slice none 0 0, .slice none 0 0] :: cellOb g3 105 #[.int .i64 n, .string ⟨#[]⟩, .string ⟨#[]⟩, .slice (some ⟨ge, 0, none⟩) 1 1, .slice none 0 0] :: cellOb g2 96 #[.slice A m cm, .slice none 0 0] :: l) w4) := s4
      clear s4
      clear HC S1 c1
      go_wp2_with fail
      go_roundw
      case rel => exact ⟨2, by go_num, by omega, S3.out⟩
      case measure => simp [intOf]
    · have S1 : Hid (SW b w0 (mpOb okS kS vE3 me ([(pA, (a, s, bs))]) :: mpOb okS kS vRw ml (lastL m) :: mpOb okF vF vF mi (linL m) :: cellOb kb 209 (ckC (.slice A m cm) n (.slice (some ⟨ge, 0, none⟩) 1 1) ml me mi) :: cellOb g5 156 (stC kb) :: cellOb g4 96 #[.slice none 0 0, .slice none 0 0] :: cellOb g3 105 #[.int .i64 n, .string ⟨#[]⟩, .string ⟨#[]⟩, .slice (some ⟨ge, 0, none⟩) 1 1, .slice none 0 0] :: cellOb g2 96 #[.slice A m cm, .slice none 0 0] :: l) wr) := hs
      clear hs
      have c2 : wr.cell? ⟨g5, 2, none⟩ = some (.func (.func 134) #[vPtr kb] #[]) := (S1.out.cell 4 rfl).cell 2
      have HC := Lib.hid (moves_any S1.out (List.mem_cons_of_mem _ (List.mem_cons_of_mem _ (List.mem_cons_of_mem _ (List.mem_cons_self ..)))) (List.mem_cons_of_mem _ (List.mem_cons_of_mem _ (List.mem_cons_of_mem _ (List.mem_cons_of_mem _ (List.mem_cons_of_mem _ (List.mem_cons_of_mem _ (List.mem_cons_of_mem _ (List.mem_cons_of_mem _ HE.out)))))))) ha4 ha5)
      go_wp2_with (go_at_call 134; (with_reducible refine HC.out.mono ?_); refine halt_ ?_)
      rintro e w4 ⟨rfl, hb4⟩
      have S3 := Lib.hid (S1.out.on hb4)
      clear hb4
      clear HC S1 c2
      go_wp2_with fail
      go_roundw
      case rel => exact ⟨3, by go_num, by omega, S3.out⟩
      case measure => simp [intOf]
    · have S1 : Hid (SW b w0 (mpOb okS kS vE3 me ([(pA, (a, s, bs))]) :: mpOb okS kS vRw ml (lastL m) :: mpOb okF vF vF mi (linL m) :: cellOb kb 209 (ckC (.slice A m cm) n (.slice (some ⟨ge, 0, none⟩) 1 1) ml me mi) :: cellOb g5 156 (stC kb) :: cellOb g4 96 #[.slice none 0 0, .slice none 0 0] :: cellOb g3 105 #[.int .i64 n, .string ⟨#[]⟩, .string ⟨#[]⟩, .slice (some ⟨ge, 0, none⟩) 1 1, .slice none 0 0] :: cellOb g2 96 #[.slice A m cm, .slice none 0 0] :: l) wr) := hs
      clear hs
      have c3 : wr.cell? ⟨g5, 3, none⟩ = some (.func (.func 135) #[vPtr kb] #[]) := (S1.out.cell 4 rfl).cell 3
      have HC := Lib.hid (records_any S1.out (List.mem_cons_of_mem _ (List.mem_cons_of_mem _ (List.mem_cons_of_mem _ (List.mem_cons_self ..)))))
      go_wp2_with (go_at_call 135; (with_reducible refine HC.out.mono ?_); refine halt_ ?_)
      rintro e w4 ⟨rfl, hb4⟩
      have S3 := Lib.hid (S1.out.on hb4)
      clear hb4
      clear HC S1 c3
      go_wp2_with fail
      go_roundw
      case rel => exact ⟨4, by go_num, by omega, S3.out⟩
      case measure => simp [intOf]
    · have S1 : Hid (SW b w0 (mpOb okS kS vE3 me ([(pA, (a, s, bs))]) :: mpOb okS kS vRw ml (lastL m) :: mpOb okF vF vF mi (linL m) :: cellOb kb 209 (ckC (.slice A m cm) n (.slice (some ⟨ge, 0, none⟩) 1 1) ml me mi) :: cellOb g5 156 (stC kb) :: cellOb g4 96 #[.slice none 0 0, .slice none 0 0] :: cellOb g3 105 #[.int .i64 n, .string ⟨#[]⟩, .string ⟨#[]⟩, .slice (some ⟨ge, 0, none⟩) 1 1, .slice none 0 0] :: cellOb g2 96 #[.slice A m cm, .slice none 0 0] :: l) wr) := hs
      clear hs
      have c4 : wr.cell? ⟨g5, 4, none⟩ = some (.func (.func 136) #[vPtr kb] #[]) := (S1.out.cell 4 rfl).cell 4
      have HC := Lib.hid (room_any S1.out (List.mem_cons_of_mem _ (List.mem_cons_of_mem _ (List.mem_cons_of_mem _ (List.mem_cons_self ..)))) (by omega))
      go_wp2_with (go_at_call 136; (with_reducible refine HC.out.mono ?_); refine halt_ ?_)
      rintro e w4 ⟨rfl, hb4⟩
      have S3 := Lib.hid (S1.out.on hb4)
      clear hb4
      clear HC S1 c4
      go_wp2_with fail
      go_roundw
      case rel => exact ⟨5, by go_num, by omega, S3.out⟩
      case measure => simp [intOf]
    · have S1 : Hid (SW b w0 (mpOb okS kS vE3 me ([(pA, (a, s, bs))]) :: mpOb okS kS vRw ml (lastL m) :: mpOb okF vF vF mi (linL m) :: cellOb kb 209 (ckC (.slice A m cm) n (.slice (some ⟨ge, 0, none⟩) 1 1) ml me mi) :: cellOb g5 156 (stC kb) :: cellOb g4 96 #[.slice none 0 0, .slice none 0 0] :: cellOb g3 105 #[.int .i64 n, .string ⟨#[]⟩, .string ⟨#[]⟩, .slice (some ⟨ge, 0, none⟩) 1 1, .slice none 0 0] :: cellOb g2 96 #[.slice A m cm, .slice none 0 0] :: l) wr) := hs
      clear hs
      go_upto_region 9 with fail
      go_cut [10] from 30 to 39 (fun s10 w' => ∃ (g10 : Nat) (vA : Option Addr) (vc : Nat), s10 = vPtr g10 ∧ SW b w0 (cellOb g10 96 #[.slice vA m vc, .slice none 0 0] :: rowOb 111 12 (.slice vA m vc) m ((revs m).flatMap encR) :: mpOb okS kS vRw ml (lastL m) :: mpOb okF vF vF mi (linL m) :: cellOb kb 209 (ckC (.slice A m cm) n (.slice (some ⟨ge, 0, none⟩) 1 1) ml me mi) :: cellOb g4 96 #[.slice none 0 0, .slice none 0 0] :: cellOb g3 105 #[.int .i64 n, .string ⟨#[]⟩, .string ⟨#[]⟩, .slice (some ⟨ge, 0, none⟩) 1 1, .slice none 0 0] :: l) w')
      case first =>
        have S1d := S1.out.drew
        refine wp_region_tree 11 (.take 0 (.take 1 (.take 3 (.take 4 (.take 5 (.take 6 (.three 2 (.two 7 (.two 8 (.take 9 (.one 10 .nil)) 10 (.one 8 (.take 9 .nil))) 10 (.one 7 (.one 8 (.take 9 .nil)))) 7 (.two 2 (.two 8 (.take 9 (.one 10 .nil)) 10 (.one 8 (.take 9 .nil))) 10 (.one 2 (.one 8 (.take 9 .nil)))) 10 (.two 2 (.one 7 (.one 8 (.take 9 .nil))) 7 (.one 2 (.one 8 (.take 9 .nil))))))))))) (fun w' => w'.cell? ⟨g2, 0, none⟩ = some (.slice A m cm) ∧ w'.cell? ⟨g2, 1, none⟩ = some (.slice none 0 0) ∧ w'.cell? ⟨g3, 4, none⟩ = some (.slice none 0 0)) (by kernel_rfl) (fun _ _ d _ _ h => by cases d <;> exact h) (by kernel_rfl) (⟨(S1d.cell 7 rfl).cell 0, (S1d.cell 7 rfl).cell 1, (S1d.cell 6 rfl).cell 4⟩) ?_
        generalize wr.drew = wd at S1d ⊢
        refine wpTr_takeL rfl ?_ (Or.inl ⟨by rfl, ?_⟩) ?_
        rotate_left
        · (intro w' hSw; obtain ⟨h1, h2, h3⟩ := hSw; go_simp; try with_reducible rfl)
        try simp only [Act.put, List.setIfInBounds_toArray, List.set]
        refine wpTr_takeL rfl ?_ (Or.inl ⟨by rfl, ?_⟩) ?_
        rotate_left
        · (intro w' hSw; obtain ⟨h1, h2, h3⟩ := hSw; go_simp; try with_reducible rfl)
        try simp only [Act.put, List.setIfInBounds_toArray, List.set]
        refine wpTr_takeL rfl ?_ (Or.inl ⟨by rfl, ?_⟩) ?_
        rotate_left
        · (intro w' hSw; obtain ⟨h1, h2, h3⟩ := hSw; go_simp; try with_reducible rfl)
        try simp only [Act.put, List.setIfInBounds_toArray, List.set]
        refine wpTr_takeL rfl ?_ (Or.inl ⟨by rfl, ?_⟩) ?_
        rotate_left
        · (intro w' hSw; obtain ⟨h1, h2, h3⟩ := hSw; go_simp; try with_reducible rfl)
        try simp only [Act.put, List.setIfInBounds_toArray, List.set]
        refine wpTr_takeL rfl ?_ (Or.inl ⟨by rfl, ?_⟩) ?_
        rotate_left
        · (intro w' hSw; obtain ⟨h1, h2, h3⟩ := hSw; go_simp; try with_reducible rfl)
        try simp only [Act.put, List.setIfInBounds_toArray, List.set]
        refine wpTr_takeL rfl ?_ (Or.inl ⟨by rfl, ?_⟩) ?_
        rotate_left
        · (intro w' hSw; obtain ⟨h1, h2, h3⟩ := hSw; go_simp; try with_reducible rfl)
        try simp only [Act.put, List.setIfInBounds_toArray, List.set]
        refine wpTr_three ?_ ?_ ?_
        · refine wpTr_runL rfl (fun K' hK' => ?_)
          go_simp
          go_at_call 97
          refine (Clone_any S1d (List.mem_cons_of_mem _ (List.mem_cons_of_mem _ (List.mem_cons_of_mem _ (List.mem_cons_of_mem _ (List.mem_cons_of_mem _ (List.mem_cons_of_mem _ (List.mem_cons_of_mem _ (List.mem_cons_of_mem _ HV.out)))))))) H0.out (by omega)).mono ?_
          rintro e wc1 ⟨vA1, vc1, rfl, sc1⟩
          have SC1 : SW b w0 (rowOb 111 12 (.slice vA1 m vc1) m ((revs m).flatMap encR) :: mpOb okS kS vE3 me ([(pA, (a, s, bs))]) :: mpOb okS kS vRw ml (lastL m) :: mpOb okF vF vF mi (linL m) :: cellOb kb 209 (ckC (.slice A m cm) n (.slice (some ⟨ge, 0, none⟩) 1 1) ml me mi) :: cellOb g5 156 (stC kb) :: cellOb g4 96 #[.slice none 0 0, .slice none 0 0] :: cellOb g3 105 #[.int .i64 n, .string ⟨#[]⟩, .string ⟨#[]⟩, .slice (some ⟨ge, 0, none⟩) 1 1, .slice none 0 0] :: cellOb g2 96 #[.slice A m cm, .slice none 0 0] :: l) wc1 := sc1
          clear sc1
          go_wp2_with fail
          refine hK'.out _ _ (⟨(SC1.cell 8 rfl).cell 0, (SC1.cell 8 rfl).cell 1, (SC1.cell 7 rfl).cell 4⟩) ?_
          clear hK' K'
          try simp only [Act.put, List.setIfInBounds_toArray, List.set]
          refine wpTr_two ?_ ?_
          · refine wpTr_runL rfl (fun K' hK' => ?_)
            have SA2 : SW b w0 (cellOb _ 94 #[.slice none 0 0, .slice none 0 0] :: rowOb 111 12 (.slice vA1 m vc1) m ((revs m).flatMap encR) :: mpOb okS kS vE3 me ([(pA, (a, s, bs))]) :: mpOb okS kS vRw ml (lastL m) :: mpOb okF vF vF mi (linL m) :: cellOb kb 209 (ckC (.slice A m cm) n (.slice (some ⟨ge, 0, none⟩) 1 1) ml me mi) :: cellOb g5 156 (stC kb) :: cellOb g4 96 #[.slice none 0 0, .slice none 0 0] :: cellOb g3 105 #[.int .i64 n, .string ⟨#[]⟩, .string ⟨#[]⟩, .slice (some ⟨ge, 0, none⟩) 1 1, .slice none 0 0] :: cellOb g2 96 #[.slice A m cm, .slice none 0 0] :: l) _ := SW.newCell SC1 94 #[.slice none 0 0, .slice none 0 0]
            go_simp
            refine hK'.out _ _ (⟨(SA2.cell 9 rfl).cell 0, (SA2.cell 9 rfl).cell 1, (SA2.cell 8 rfl).cell 4⟩) ?_
            clear hK' K'
            obtain ⟨gn2, wn2, eG2, eW2, SB2⟩ : ∃ gn2 wn2, Hid (_ = gn2) ∧ Hid (_ = wn2) ∧ SW b w0 (cellOb gn2 94 #[.slice none 0 0, .slice none 0 0] :: rowOb 111 12 (.slice vA1 m vc1) m ((revs m).flatMap encR) :: mpOb okS kS vE3 me ([(pA, (a, s, bs))]) :: mpOb okS kS vRw ml (lastL m) :: mpOb okF vF vF mi (linL m) :: cellOb kb 209 (ckC (.slice A m cm) n (.slice (some ⟨ge, 0, none⟩) 1 1) ml me mi) :: cellOb g5 156 (stC kb) :: cellOb g4 96 #[.slice none 0 0, .slice none 0 0] :: cellOb g3 105 #[.int .i64 n, .string ⟨#[]⟩, .string ⟨#[]⟩, .slice (some ⟨ge, 0, none⟩) 1 1, .slice none 0 0] :: cellOb g2 96 #[.slice A m cm, .slice none 0 0] :: l) wn2 := ⟨_, _, rfl, rfl, SA2⟩
            rw [eG2.out, eW2.out]
            clear eG2 eW2 SA2
            try simp only [Act.put, List.setIfInBounds_toArray, List.set]
            refine wpTr_two ?_ ?_
            · refine wpTr_runL rfl (fun K' hK' => ?_)
              go_simp
              go_at_call 98
              refine (Concat_none SB2 (List.mem_cons_self ..)).mono ?_
              rintro e wc3 ⟨rfl, rfl⟩
              go_wp2_with fail
              refine hK'.out _ _ (⟨(SB2.cell 9 rfl).cell 0, (SB2.cell 9 rfl).cell 1, (SB2.cell 8 rfl).cell 4⟩) ?_
              clear hK' K'
              try simp only [Act.put, List.setIfInBounds_toArray, List.set]
              refine wpTr_takeL rfl ?_ (Or.inl ⟨by rfl, ?_⟩) ?_
              rotate_left
              · (intro w' hSw; obtain ⟨h1, h2, h3⟩ := hSw; go_simp; try with_reducible rfl)
              try simp only [Act.put, List.setIfInBounds_toArray, List.set]
              refine wpTr_one ?_
              refine wpTr_runL rfl (fun K' hK' => ?_)
              have SA4 : SW b w0 (cellOb _ 96 #[.slice none 0 0, .slice none 0 0] :: cellOb gn2 94 #[.slice none 0 0, .slice none 0 0] :: rowOb 111 12 (.slice vA1 m vc1) m ((revs m).flatMap encR) :: mpOb okS kS vE3 me ([(pA, (a, s, bs))]) :: mpOb okS kS vRw ml (lastL m) :: mpOb okF vF vF mi (linL m) :: cellOb kb 209 (ckC (.slice A m cm) n (.slice (some ⟨ge, 0, none⟩) 1 1) ml me mi) :: cellOb g5 156 (stC kb) :: cellOb g4 96 #[.slice none 0 0, .slice none 0 0] :: cellOb g3 105 #[.int .i64 n, .string ⟨#[]⟩, .string ⟨#[]⟩, .slice (some ⟨ge, 0, none⟩) 1 1, .slice none 0 0] :: cellOb g2 96 #[.slice A m cm, .slice none 0 0] :: l) _ := SW.newCell SB2 96 #[.slice none 0 0, .slice none 0 0]
              go_simp
              refine hK'.out _ _ (⟨(SA4.cell 10 rfl).cell 0, (SA4.cell 10 rfl).cell 1, (SA4.cell 9 rfl).cell 4⟩) ?_
              clear hK' K'
              obtain ⟨gn4, wn4, eG4, eW4, SB4⟩ : ∃ gn4 wn4, Hid (_ = gn4) ∧ Hid (_ = wn4) ∧ SW b w0 (cellOb gn4 96 #[.slice none 0 0, .slice none 0 0] :: cellOb gn2 94 #[.slice none 0 0, .slice none 0 0] :: rowOb 111 12 (.slice vA1 m vc1) m ((revs m).flatMap encR) :: mpOb okS kS vE3 me ([(pA, (a, s, bs))]) :: mpOb okS kS vRw ml (lastL m) :: mpOb okF vF vF mi (linL m) :: cellOb kb 209 (ckC (.slice A m cm) n (.slice (some ⟨ge, 0, none⟩) 1 1) ml me mi) :: cellOb g5 156 (stC kb) :: cellOb g4 96 #[.slice none 0 0, .slice none 0 0] :: cellOb g3 105 #[.int .i64 n, .string ⟨#[]⟩, .string ⟨#[]⟩, .slice (some ⟨ge, 0, none⟩) 1 1, .slice none 0 0] :: cellOb g2 96 #[.slice A m cm, .slice none 0 0] :: l) wn4 := ⟨_, _, rfl, rfl, SA4⟩
              rw [eG4.out, eW4.out]
              clear eG4 eW4 SA4
              try simp only [Act.put, List.setIfInBounds_toArray, List.set]
              refine wpTr_nil ?_
              simp only [List.drop_succ_cons, List.drop_zero]
              have X := Lib.hid SB4
              clear SB4
              have d0 := (X.out.cell 0 rfl).cell 0
              have d1 := (X.out.cell 0 rfl).cell 1
              have f0 := (X.out.cell 0 rfl).frozen 0
              have f1 := (X.out.cell 0 rfl).frozen 1
              have Y := Lib.hid ((X.out.setAt 0 rfl 0 (.slice vA1 m vc1)).setAt 0 rfl 1 (.slice none 0 0))
              have Z : Hid (SW b w0 (cellOb gn4 96 #[.slice vA1 m vc1, .slice none 0 0] :: rowOb 111 12 (.slice vA1 m vc1) m ((revs m).flatMap encR) :: mpOb okS kS vRw ml (lastL m) :: mpOb okF vF vF mi (linL m) :: cellOb kb 209 (ckC (.slice A m cm) n (.slice (some ⟨ge, 0, none⟩) 1 1) ml me mi) :: cellOb g4 96 #[.slice none 0 0, .slice none 0 0] :: cellOb g3 105 #[.int .i64 n, .string ⟨#[]⟩, .string ⟨#[]⟩, .slice (some ⟨ge, 0, none⟩) 1 1, .slice none 0 0] :: l) _) := SW.few (pre := [_, _, _, _, _, _, _, _, _, _, _]) Y.out [0, 2, 4, 5, 6, 8, 9] (n := 11) rfl (by decide) (by decide)
              clear X Y
              go_wp2_with fail
              go_meet
              exact ⟨gn4, vA1, vc1, rfl, Z.out⟩
            · refine wpTr_runL rfl (fun K' hK' => ?_)
              have SA5 : SW b w0 (cellOb _ 96 #[.slice none 0 0, .slice none 0 0] :: cellOb gn2 94 #[.slice none 0 0, .slice none 0 0] :: rowOb 111 12 (.slice vA1 m vc1) m ((revs m).flatMap encR) :: mpOb okS kS vE3 me ([(pA, (a, s, bs))]) :: mpOb okS kS vRw ml (lastL m) :: mpOb okF vF vF mi (linL m) :: cellOb kb 209 (ckC (.slice A m cm) n (.slice (some ⟨ge, 0, none⟩) 1 1) ml me mi) :: cellOb g5 156 (stC kb) :: cellOb g4 96 #[.slice none 0 0, .slice none 0 0] :: cellOb g3 105 #[.int .i64 n, .string ⟨#[]⟩, .string ⟨#[]⟩, .slice (some ⟨ge, 0, none⟩) 1 1, .slice none 0 0] :: cellOb g2 96 #[.slice A m cm, .slice none 0 0] :: l) _ := SW.newCell SB2 96 #[.slice none 0 0, .slice none 0 0]
              go_simp
              refine hK'.out _ _ (⟨(SA5.cell 10 rfl).cell 0, (SA5.cell 10 rfl).cell 1, (SA5.cell 9 rfl).cell 4⟩) ?_
              clear hK' K'
              obtain ⟨gn5, wn5, eG5, eW5, SB5⟩ : ∃ gn5 wn5, Hid (_ = gn5) ∧ Hid (_ = wn5) ∧ SW b w0 (cellOb gn5 96 #[.slice none 0 0, .slice none 0 0] :: cellOb gn2 94 #[.slice none 0 0, .slice none 0 0] :: rowOb 111 12 (.slice vA1 m vc1) m ((revs m).flatMap encR) :: mpOb okS kS vE3 me ([(pA, (a, s, bs))]) :: mpOb okS kS vRw ml (lastL m) :: mpOb okF vF vF mi (linL m) :: cellOb kb 209 (ckC (.slice A m cm) n (.slice (some ⟨ge, 0, none⟩) 1 1) ml me mi) :: cellOb g5 156 (stC kb) :: cellOb g4 96 #[.slice none 0 0, .slice none 0 0] :: cellOb g3 105 #[.int .i64 n, .string ⟨#[]⟩, .string ⟨#[]⟩, .slice (some ⟨ge, 0, none⟩) 1 1, .slice none 0 0] :: cellOb g2 96 #[.slice A m cm, .slice none 0 0] :: l) wn5 := ⟨_, _, rfl, rfl, SA5⟩
              rw [eG5.out, eW5.out]
              clear eG5 eW5 SA5
              try simp only [Act.put, List.setIfInBounds_toArray, List.set]
              refine wpTr_one ?_
              refine wpTr_runL rfl (fun K' hK' => ?_)
              go_simp
              go_at_call 98
              refine (Concat_none SB5 (List.mem_cons_of_mem _ (List.mem_cons_self ..))).mono ?_
              rintro e wc6 ⟨rfl, rfl⟩
              go_wp2_with fail
              refine hK'.out _ _ (⟨(SB5.cell 10 rfl).cell 0, (SB5.cell 10 rfl).cell 1, (SB5.cell 9 rfl).cell 4⟩) ?_
              clear hK' K'
              try simp only [Act.put, List.setIfInBounds_toArray, List.set]
              refine wpTr_takeL rfl ?_ (Or.inl ⟨by rfl, ?_⟩) ?_
              rotate_left
              · (intro w' hSw; obtain ⟨h1, h2, h3⟩ := hSw; go_simp; try with_reducible rfl)
              try simp only [Act.put, List.setIfInBounds_toArray, List.set]
              refine wpTr_nil ?_
              simp only [List.drop_succ_cons, List.drop_zero]
              have X := Lib.hid SB5
              clear SB5
              have d0 := (X.out.cell 0 rfl).cell 0
              have d1 := (X.out.cell 0 rfl).cell 1
              have f0 := (X.out.cell 0 rfl).frozen 0
              have f1 := (X.out.cell 0 rfl).frozen 1
              have Y := Lib.hid ((X.out.setAt 0 rfl 0 (.slice vA1 m vc1)).setAt 0 rfl 1 (.slice none 0 0))
              have Z : Hid (SW b w0 (cellOb gn5 96 #[.slice vA1 m vc1, .slice none 0 0] :: rowOb 111 12 (.slice vA1 m vc1) m ((revs m).flatMap encR) :: mpOb okS kS vRw ml (lastL m) :: mpOb okF vF vF mi (linL m) :: cellOb kb 209 (ckC (.slice A m cm) n (.slice (some ⟨ge, 0, none⟩) 1 1) ml me mi) :: cellOb g4 96 #[.slice none 0 0, .slice none 0 0] :: cellOb g3 105 #[.int .i64 n, .string ⟨#[]⟩, .string ⟨#[]⟩, .slice (some ⟨ge, 0, none⟩) 1 1, .slice none 0 0] :: l) _) := SW.few (pre := [_, _, _, _, _, _, _, _, _, _, _]) Y.out [0, 2, 4, 5, 6, 8, 9] (n := 11) rfl (by decide) (by decide)
              clear X Y
              go_wp2_with fail
              go_meet
              exact ⟨gn5, vA1, vc1, rfl, Z.out⟩
          · refine wpTr_runL rfl (fun K' hK' => ?_)
            have SA7 : SW b w0 (cellOb _ 96 #[.slice none 0 0, .slice none 0 0] :: rowOb 111 12 (.slice vA1 m vc1) m ((revs m).flatMap encR) :: mpOb okS kS vE3 me ([(pA, (a, s, bs))]) :: mpOb okS kS vRw ml (lastL m) :: mpOb okF vF vF mi (linL m) :: cellOb kb 209 (ckC (.slice A m cm) n (.slice (some ⟨ge, 0, none⟩) 1 1) ml me mi) :: cellOb g5 156 (stC kb) :: cellOb g4 96 #[.slice none 0 0, .slice none 0 0] :: cellOb g3 105 #[.int .i64 n, .string ⟨#[]⟩, .string ⟨#[]⟩, .slice (some ⟨ge, 0, none⟩) 1 1, .slice none 0 0] :: cellOb g2 96 #[.slice A m cm, .slice none 0 0] :: l) _ := SW.newCell SC1 96 #[.slice none 0 0, .slice none 0 0]
            go_simp
            refine hK'.out _ _ (⟨(SA7.cell 9 rfl).cell 0, (SA7.cell 9 rfl).cell 1, (SA7.cell 8 rfl).cell 4⟩) ?_
            clear hK' K'
            obtain ⟨gn7, wn7, eG7, eW7, SB7⟩ : ∃ gn7 wn7, Hid (_ = gn7) ∧ Hid (_ = wn7) ∧ SW b w0 (cellOb gn7 96 #[.slice none 0 0, .slice none 0 0] :: rowOb 111 12 (.slice vA1 m vc1) m ((revs m).flatMap encR) :: mpOb okS kS vE3 me ([(pA, (a, s, bs))]) :: mpOb okS kS vRw ml (lastL m) :: mpOb okF vF vF mi (linL m) :: cellOb kb 209 (ckC (.slice A m cm) n (.slice (some ⟨ge, 0, none⟩) 1 1) ml me mi) :: cellOb g5 156 (stC kb) :: cellOb g4 96 #[.slice none 0 0, .slice none 0 0] :: cellOb g3 105 #[.int .i64 n, .string ⟨#[]⟩, .string ⟨#[]⟩, .slice (some ⟨ge, 0, none⟩) 1 1, .slice none 0 0] :: cellOb g2 96 #[.slice A m cm, .slice none 0 0] :: l) wn7 := ⟨_, _, rfl, rfl, SA7⟩
            rw [eG7.out, eW7.out]
            clear eG7 eW7 SA7
            try simp only [Act.put, List.setIfInBounds_toArray, List.set]
            refine wpTr_one ?_
            refine wpTr_runL rfl (fun K' hK' => ?_)
            have SA8 : SW b w0 (cellOb _ 94 #[.slice none 0 0, .slice none 0 0] :: cellOb gn7 96 #[.slice none 0 0, .slice none 0 0] :: rowOb 111 12 (.slice vA1 m vc1) m ((revs m).flatMap encR) :: mpOb okS kS vE3 me ([(pA, (a, s, bs))]) :: mpOb okS kS vRw ml (lastL m) :: mpOb okF vF vF mi (linL m) :: cellOb kb 209 (ckC (.slice A m cm) n (.slice (some ⟨ge, 0, none⟩) 1 1) ml me mi) :: cellOb g5 156 (stC kb) :: cellOb g4 96 #[.slice none 0 0, .slice none 0 0] :: cellOb g3 105 #[.int .i64 n, .string ⟨#[]⟩, .string ⟨#[]⟩, .slice (some ⟨ge, 0, none⟩) 1 1, .slice none 0 0] :: cellOb g2 96 #[.slice A m cm, .slice none 0 0] :: l) _ := SW.newCell SB7 94 #[.slice none 0 0, .slice none 0 0]
            go_simp
            refine hK'.out _ _ (⟨(SA8.cell 10 rfl).cell 0, (SA8.cell 10 rfl).cell 1, (SA8.cell 9 rfl).cell 4⟩) ?_
            clear hK' K'
            obtain ⟨gn8, wn8, eG8, eW8, SB8⟩ : ∃ gn8 wn8, Hid (_ = gn8) ∧ Hid (_ = wn8) ∧ SW b w0 (cellOb gn8 94 #[.slice none 0 0, .slice none 0 0] :: cellOb gn7 96 #[.slice none 0 0, .slice none 0 0] :: rowOb 111 12 (.slice vA1 m vc1) m ((revs m).flatMap encR) :: mpOb okS kS vE3 me ([(pA, (a, s, bs))]) :: mpOb okS kS vRw ml (lastL m) :: mpOb okF vF vF mi (linL m) :: cellOb kb 209 (ckC (.slice A m cm) n (.slice (some ⟨ge, 0, none⟩) 1 1) ml me mi) :: cellOb g5 156 (stC kb) :: cellOb g4 96 #[.slice none 0 0, .slice none 0 0] :: cellOb g3 105 #[.int .i64 n, .string ⟨#[]⟩, .string ⟨#[]⟩, .slice (some ⟨ge, 0, none⟩) 1 1, .slice none 0 0] :: cellOb g2 96 #[.slice A m cm, .slice none 0 0] :: l) wn8 := ⟨_, _, rfl, rfl, SA8⟩
            rw [eG8.out, eW8.out]
            clear eG8 eW8 SA8
            try simp only [Act.put, List.setIfInBounds_toArray, List.set]
            refine wpTr_one ?_
            refine wpTr_runL rfl (fun K' hK' => ?_)
            go_simp
            go_at_call 98
            refine (Concat_none SB8 (List.mem_cons_self ..)).mono ?_
            rintro e wc9 ⟨rfl, rfl⟩
            go_wp2_with fail
            refine hK'.out _ _ (⟨(SB8.cell 10 rfl).cell 0, (SB8.cell 10 rfl).cell 1, (SB8.cell 9 rfl).cell 4⟩) ?_
            clear hK' K'
            try simp only [Act.put, List.setIfInBounds_toArray, List.set]
            refine wpTr_takeL rfl ?_ (Or.inl ⟨by rfl, ?_⟩) ?_
            rotate_left
            · (intro w' hSw; obtain ⟨h1, h2, h3⟩ := hSw; go_simp; try with_reducible rfl)
            try simp only [Act.put, List.setIfInBounds_toArray, List.set]
            refine wpTr_nil ?_
            simp only [List.drop_succ_cons, List.drop_zero]
            have X := Lib.hid SB8
            clear SB8
            have d0 := (X.out.cell 1 rfl).cell 0
            have d1 := (X.out.cell 1 rfl).cell 1
            have f0 := (X.out.cell 1 rfl).frozen 0
            have f1 := (X.out.cell 1 rfl).frozen 1
            have Y := Lib.hid ((X.out.setAt 1 rfl 0 (.slice vA1 m vc1)).setAt 1 rfl 1 (.slice none 0 0))
            have Z : Hid (SW b w0 (cellOb gn7 96 #[.slice vA1 m vc1, .slice none 0 0] :: rowOb 111 12 (.slice vA1 m vc1) m ((revs m).flatMap encR) :: mpOb okS kS vRw ml (lastL m) :: mpOb okF vF vF mi (linL m) :: cellOb kb 209 (ckC (.slice A m cm) n (.slice (some ⟨ge, 0, none⟩) 1 1) ml me mi) :: cellOb g4 96 #[.slice none 0 0, .slice none 0 0] :: cellOb g3 105 #[.int .i64 n, .string ⟨#[]⟩, .string ⟨#[]⟩, .slice (some ⟨ge, 0, none⟩) 1 1, .slice none 0 0] :: l) _) := SW.few (pre := [_, _, _, _, _, _, _, _, _, _, _]) Y.out [1, 2, 4, 5, 6, 8, 9] (n := 11) rfl (by decide) (by decide)
            clear X Y
            go_wp2_with fail
            go_meet
            exact ⟨gn7, vA1, vc1, rfl, Z.out⟩
        · refine wpTr_runL rfl (fun K' hK' => ?_)
          have SA10 : SW b w0 (cellOb _ 94 #[.slice none 0 0, .slice none 0 0] :: mpOb okS kS vE3 me ([(pA, (a, s, bs))]) :: mpOb okS kS vRw ml (lastL m) :: mpOb okF vF vF mi (linL m) :: cellOb kb 209 (ckC (.slice A m cm) n (.slice (some ⟨ge, 0, none⟩) 1 1) ml me mi) :: cellOb g5 156 (stC kb) :: cellOb g4 96 #[.slice none 0 0, .slice none 0 0] :: cellOb g3 105 #[.int .i64 n, .string ⟨#[]⟩, .string ⟨#[]⟩, .slice (some ⟨ge, 0, none⟩) 1 1, .slice none 0 0] :: cellOb g2 96 #[.slice A m cm, .slice none 0 0] :: l) _ := SW.newCell S1d 94 #[.slice none 0 0, .slice none 0 0]
          go_simp
          refine hK'.out _ _ (⟨(SA10.cell 8 rfl).cell 0, (SA10.cell 8 rfl).cell 1, (SA10.cell 7 rfl).cell 4⟩) ?_
          clear hK' K'
          obtain ⟨gn10, wn10, eG10, eW10, SB10⟩ : ∃ gn10 wn10, Hid (_ = gn10) ∧ Hid (_ = wn10) ∧ SW b w0 (cellOb gn10 94 #[.slice none 0 0, .slice none 0 0] :: mpOb okS kS vE3 me ([(pA, (a, s, bs))]) :: mpOb okS kS vRw ml (lastL m) :: mpOb okF vF vF mi (linL m) :: cellOb kb 209 (ckC (.slice A m cm) n (.slice (some ⟨ge, 0, none⟩) 1 1) ml me mi) :: cellOb g5 156 (stC kb) :: cellOb g4 96 #[.slice none 0 0, .slice none 0 0] :: cellOb g3 105 #[.int .i64 n, .string ⟨#[]⟩, .string ⟨#[]⟩, .slice (some ⟨ge, 0, none⟩) 1 1, .slice none 0 0] :: cellOb g2 96 #[.slice A m cm, .slice none 0 0] :: l) wn10 := ⟨_, _, rfl, rfl, SA10⟩
          rw [eG10.out, eW10.out]
          clear eG10 eW10 SA10
          try simp only [Act.put, List.setIfInBounds_toArray, List.set]
          refine wpTr_two ?_ ?_
          · refine wpTr_runL rfl (fun K' hK' => ?_)
            go_simp
            go_at_call 97
            refine (Clone_any SB10 (List.mem_cons_of_mem _ (List.mem_cons_of_mem _ (List.mem_cons_of_mem _ (List.mem_cons_of_mem _ (List.mem_cons_of_mem _ (List.mem_cons_of_mem _ (List.mem_cons_of_mem _ (List.mem_cons_of_mem _ (List.mem_cons_of_mem _ HV.out))))))))) H0.out (by omega)).mono ?_
            rintro e wc11 ⟨vA11, vc11, rfl, sc11⟩
            have SC11 : SW b w0 (rowOb 111 12 (.slice vA11 m vc11) m ((revs m).flatMap encR) :: cellOb gn10 94 #[.slice none 0 0, .slice none 0 0] :: mpOb okS kS vE3 me ([(pA, (a, s, bs))]) :: mpOb okS kS vRw ml (lastL m) :: mpOb okF vF vF mi (linL m) :: cellOb kb 209 (ckC (.slice A m cm) n (.slice (some ⟨ge, 0, none⟩) 1 1) ml me mi) :: cellOb g5 156 (stC kb) :: cellOb g4 96 #[.slice none 0 0, .slice none 0 0] :: cellOb g3 105 #[.int .i64 n, .string ⟨#[]⟩, .string ⟨#[]⟩, .slice (some ⟨ge, 0, none⟩) 1 1, .slice none 0 0] :: cellOb g2 96 #[.slice A m cm, .slice none 0 0] :: l) wc11 := sc11
            clear sc11
            go_wp2_with fail
            refine hK'.out _ _ (⟨(SC11.cell 9 rfl).cell 0, (SC11.cell 9 rfl).cell 1, (SC11.cell 8 rfl).cell 4⟩) ?_
            clear hK' K'
            try simp only [Act.put, List.setIfInBounds_toArray, List.set]
            refine wpTr_two ?_ ?_
            · refine wpTr_runL rfl (fun K' hK' => ?_)
              go_simp
              go_at_call 98
              refine (Concat_none SC11 (List.mem_cons_of_mem _ (List.mem_cons_self ..))).mono ?_
              rintro e wc12 ⟨rfl, rfl⟩
              go_wp2_with fail
              refine hK'.out _ _ (⟨(SC11.cell 9 rfl).cell 0, (SC11.cell 9 rfl).cell 1, (SC11.cell 8 rfl).cell 4⟩) ?_
              clear hK' K'
              try simp only [Act.put, List.setIfInBounds_toArray, List.set]
              refine wpTr_takeL rfl ?_ (Or.inl ⟨by rfl, ?_⟩) ?_
              rotate_left
              · (intro w' hSw; obtain ⟨h1, h2, h3⟩ := hSw; go_simp; try with_reducible rfl)
              try simp only [Act.put, List.setIfInBounds_toArray, List.set]
              refine wpTr_one ?_
              refine wpTr_runL rfl (fun K' hK' => ?_)
              have SA13 : SW b w0 (cellOb _ 96 #[.slice none 0 0, .slice none 0 0] :: rowOb 111 12 (.slice vA11 m vc11) m ((revs m).flatMap encR) :: cellOb gn10 94 #[.slice none 0 0, .slice none 0 0] :: mpOb okS kS vE3 me ([(pA, (a, s, bs))]) :: mpOb okS kS vRw ml (lastL m) :: mpOb okF vF vF mi (linL m) :: cellOb kb 209 (ckC (.slice A m cm) n (.slice (some ⟨ge, 0, none⟩) 1 1) ml me mi) :: cellOb g5 156 (stC kb) :: cellOb g4 96 #[.slice none 0 0, .slice none 0 0] :: cellOb g3 105 #[.int .i64 n, .string ⟨#[]⟩, .string ⟨#[]⟩, .slice (some ⟨ge, 0, none⟩) 1 1, .slice none 0 0] :: cellOb g2 96 #[.slice A m cm, .slice none 0 0] :: l) _ := SW.newCell SC11 96 #[.slice none 0 0, .slice none 0 0]
              go_simp
              refine hK'.out _ _ (⟨(SA13.cell 10 rfl).cell 0, (SA13.cell 10 rfl).cell 1, (SA13.cell 9 rfl).cell 4⟩) ?_
              clear hK' K'
              obtain ⟨gn13, wn13, eG13, eW13, SB13⟩ : ∃ gn13 wn13, Hid (_ = gn13) ∧ Hid (_ = wn13) ∧ SW b w0 (cellOb gn13 96 #[.slice none 0 0, .slice none 0 0] :: rowOb 111 12 (.slice vA11 m vc11) m ((revs m).flatMap encR) :: cellOb gn10 94 #[.slice none 0 0, .slice none 0 0] :: mpOb okS kS vE3 me ([(pA, (a, s, bs))]) :: mpOb okS kS vRw ml (lastL m) :: mpOb okF vF vF mi (linL m) :: cellOb kb 209 (ckC (.slice A m cm) n (.slice (some ⟨ge, 0, none⟩) 1 1) ml me mi) :: cellOb g5 156 (stC kb) :: cellOb g4 96 #[.slice none 0 0, .slice none 0 0] :: cellOb g3 105 #[.int .i64 n, .string ⟨#[]⟩, .string ⟨#[]⟩, .slice (some ⟨ge, 0, none⟩) 1 1, .slice none 0 0] :: cellOb g2 96 #[.slice A m cm, .slice none 0 0] :: l) wn13 := ⟨_, _, rfl, rfl, SA13⟩
              rw [eG13.out, eW13.out]
              clear eG13 eW13 SA13
              try simp only [Act.put, List.setIfInBounds_toArray, List.set]
              refine wpTr_nil ?_
              simp only [List.drop_succ_cons, List.drop_zero]
              have X := Lib.hid SB13
              clear SB13
              have d0 := (X.out.cell 0 rfl).cell 0
              have d1 := (X.out.cell 0 rfl).cell 1
              have f0 := (X.out.cell 0 rfl).frozen 0
              have f1 := (X.out.cell 0 rfl).frozen 1
              have Y := Lib.hid ((X.out.setAt 0 rfl 0 (.slice vA11 m vc11)).setAt 0 rfl 1 (.slice none 0 0))
              have Z : Hid (SW b w0 (cellOb gn13 96 #[.slice vA11 m vc11, .slice none 0 0] :: rowOb 111 12 (.slice vA11 m vc11) m ((revs m).flatMap encR) :: mpOb okS kS vRw ml (lastL m) :: mpOb okF vF vF mi (linL m) :: cellOb kb 209 (ckC (.slice A m cm) n (.slice (some ⟨ge, 0, none⟩) 1 1) ml me mi) :: cellOb g4 96 #[.slice none 0 0, .slice none 0 0] :: cellOb g3 105 #[.int .i64 n, .string ⟨#[]⟩, .string ⟨#[]⟩, .slice (some ⟨ge, 0, none⟩) 1 1, .slice none 0 0] :: l) _) := SW.few (pre := [_, _, _, _, _, _, _, _, _, _, _]) Y.out [0, 1, 4, 5, 6, 8, 9] (n := 11) rfl (by decide) (by decide)
              clear X Y
              go_wp2_with fail
              go_meet
              exact ⟨gn13, vA11, vc11, rfl, Z.out⟩
            · refine wpTr_runL rfl (fun K' hK' => ?_)
              have SA14 : SW b w0 (cellOb _ 96 #[.slice none 0 0, .slice none 0 0] :: rowOb 111 12 (.slice vA11 m vc11) m ((revs m).flatMap encR) :: cellOb gn10 94 #[.slice none 0 0, .slice none 0 0] :: mpOb okS kS vE3 me ([(pA, (a, s, bs))]) :: mpOb okS kS vRw ml (lastL m) :: mpOb okF vF vF mi (linL m) :: cellOb kb 209 (ckC (.slice A m cm) n (.slice (some ⟨ge, 0, none⟩) 1 1) ml me mi) :: cellOb g5 156 (stC kb) :: cellOb g4 96 #[.slice none 0 0, .slice none 0 0] :: cellOb g3 105 #[.int .i64 n, .string ⟨#[]⟩, .string ⟨#[]⟩, .slice (some ⟨ge, 0, none⟩) 1 1, .slice none 0 0] :: cellOb g2 96 #[.slice A m cm, .slice none 0 0] :: l) _ := SW.newCell SC11 96 #[.slice none 0 0, .slice none 0 0]
              go_simp
              refine hK'.out _ _ (⟨(SA14.cell 10 rfl).cell 0, (SA14.cell 10 rfl).cell 1, (SA14.cell 9 rfl).cell 4⟩) ?_
              clear hK' K'
              obtain ⟨gn14, wn14, eG14, eW14, SB14⟩ : ∃ gn14 wn14, Hid (_ = gn14) ∧ Hid (_ = wn14) ∧ SW b w0 (cellOb gn14 96 #[.slice none 0 0, .slice none 0 0] :: rowOb 111 12 (.slice vA11 m vc11) m ((revs m).flatMap encR) :: cellOb gn10 94 #[.slice none 0 0, .slice none 0 0] :: mpOb okS kS vE3 me ([(pA, (a, s, bs))]) :: mpOb okS kS vRw ml (lastL m) :: mpOb okF vF vF mi (linL m) :: cellOb kb 209 (ckC (.slice A m cm) n (.slice (some ⟨ge, 0, none⟩) 1 1) ml me mi) :: cellOb g5 156 (stC kb) :: cellOb g4 96 #[.slice none 0 0, .slice none 0 0] :: cellOb g3 105 #[.int .i64 n, .string ⟨#[]⟩, .string ⟨#[]⟩, .slice (some ⟨ge, 0, none⟩) 1 1, .slice none 0 0] :: cellOb g2 96 #[.slice A m cm, .slice none 0 0] :: l) wn14 := ⟨_, _, rfl, rfl, SA14⟩
              rw [eG14.out, eW14.out]
              clear eG14 eW14 SA14
              try simp only [Act.put, List.setIfInBounds_toArray, List.set]
              refine wpTr_one ?_
              refine wpTr_runL rfl (fun K' hK' => ?_)
              go_simp
              go_at_call 98
              refine (Concat_none SB14 (List.mem_cons_of_mem _ (List.mem_cons_of_mem _ (List.mem_cons_self ..)))).mono ?_
              rintro e wc15 ⟨rfl, rfl⟩
              go_wp2_with fail
              refine hK'.out _ _ (⟨(SB14.cell 10 rfl).cell 0, (SB14.cell 10 rfl).cell 1, (SB14.cell 9 rfl).cell 4⟩) ?_
              clear hK' K'
              try simp only [Act.put, List.setIfInBounds_toArray, List.set]
              refine wpTr_takeL rfl ?_ (Or.inl ⟨by rfl, ?_⟩) ?_
              rotate_left
              · (intro w' hSw; obtain ⟨h1, h2, h3⟩ := hSw; go_simp; try with_reducible rfl)
              try simp only [Act.put, List.setIfInBounds_toArray, List.set]
              refine wpTr_nil ?_
              simp only [List.drop_succ_cons, List.drop_zero]
              have X := Lib.hid SB14
              clear SB14
              have d0 := (X.out.cell 0 rfl).cell 0
              have d1 := (X.out.cell 0 rfl).cell 1
              have f0 := (X.out.cell 0 rfl).frozen 0
              have f1 := (X.out.cell 0 rfl).frozen 1
              have Y := Lib.hid ((X.out.setAt 0 rfl 0 (.slice vA11 m vc11)).setAt 0 rfl 1 (.slice none 0 0))
              have Z : Hid (SW b w0 (cellOb gn14 96 #[.slice vA11 m vc11, .slice none 0 0] :: rowOb 111 12 (.slice vA11 m vc11) m ((revs m).flatMap encR) :: mpOb okS kS vRw ml (lastL m) :: mpOb okF vF vF mi (linL m) :: cellOb kb 209 (ckC (.slice A m cm) n (.slice (some ⟨ge, 0, none⟩) 1 1) ml me mi) :: cellOb g4 96 #[.slice none 0 0, .slice none 0 0] :: cellOb g3 105 #[.int .i64 n, .string ⟨#[]⟩, .string ⟨#[]⟩, .slice (some ⟨ge, 0, none⟩) 1 1, .slice none 0 0] :: l) _) := SW.few (pre := [_, _, _, _, _, _, _, _, _, _, _]) Y.out [0, 1, 4, 5, 6, 8, 9] (n := 11) rfl (by decide) (by decide)
              clear X Y
              go_wp2_with fail
              go_meet
              exact ⟨gn14, vA11, vc11, rfl, Z.out⟩
          · refine wpTr_runL rfl (fun K' hK' => ?_)
            have SA16 : SW b w0 (cellOb _ 96 #[.slice none 0 0, .slice none 0 0] :: cellOb gn10 94 #[.slice none 0 0, .slice none 0 0] :: mpOb okS kS vE3 me ([(pA, (a, s, bs))]) :: mpOb okS kS vRw ml (lastL m) :: mpOb okF vF vF mi (linL m) :: cellOb kb 209 (ckC (.slice A m cm) n (.slice (some ⟨ge, 0, none⟩) 1 1) ml me mi) :: cellOb g5 156 (stC kb) :: cellOb g4 96 #[.slice none 0 0, .slice none 0 0] :: cellOb g3 105 #[.int .i64 n, .string ⟨#[]⟩, .string ⟨#[]⟩, .slice (some ⟨ge, 0, none⟩) 1 1, .slice none 0 0] :: cellOb g2 96 #[.slice A m cm, .slice none 0 0] :: l) _ := SW.newCell SB10 96 #[.slice none 0 0, .slice none 0 0]
            go_simp
            refine hK'.out _ _ (⟨(SA16.cell 9 rfl).cell 0, (SA16.cell 9 rfl).cell 1, (SA16.cell 8 rfl).cell 4⟩) ?_
            clear hK' K'
            obtain ⟨gn16, wn16, eG16, eW16, SB16⟩ : ∃ gn16 wn16, Hid (_ = gn16) ∧ Hid (_ = wn16) ∧ SW b w0 (cellOb gn16 96 #[.slice none 0 0, .slice none 0 0] :: cellOb gn10 94 #[.slice none 0 0, .slice none 0 0] :: mpOb okS kS vE3 me ([(pA, (a, s, bs))]) :: mpOb okS kS vRw ml (lastL m) :: mpOb okF vF vF mi (linL m) :: cellOb kb 209 (ckC (.slice A m cm) n (.slice (some ⟨ge, 0, none⟩) 1 1) ml me mi) :: cellOb g5 156 (stC kb) :: cellOb g4 96 #[.slice none 0 0, .slice none 0 0] :: cellOb g3 105 #[.int .i64 n, .string ⟨#[]⟩, .string ⟨#[]⟩, .slice (some ⟨ge, 0, none⟩) 1 1, .slice none 0 0] :: cellOb g2 96 #[.slice A m cm, .slice none 0 0] :: l) wn16 := ⟨_, _, rfl, rfl, SA16⟩
            rw [eG16.out, eW16.out]
            clear eG16 eW16 SA16
            try simp only [Act.put, List.setIfInBounds_toArray, List.set]
            refine wpTr_one ?_
            refine wpTr_runL rfl (fun K' hK' => ?_)
            go_simp
            go_at_call 97
            refine (Clone_any SB16 (List.mem_cons_of_mem _ (List.mem_cons_of_mem _ (List.mem_cons_of_mem _ (List.mem_cons_of_mem _ (List.mem_cons_of_mem _ (List.mem_cons_of_mem _ (List.mem_cons_of_mem _ (List.mem_cons_of_mem _ (List.mem_cons_of_mem _ (List.mem_cons_of_mem _ HV.out)))))))))) H0.out (by omega)).mono ?_
            rintro e wc17 ⟨vA17, vc17, rfl, sc17⟩
            have SC17 : SW b w0 (rowOb 111 12 (.slice vA17 m vc17) m ((revs m).flatMap encR) :: cellOb gn16 96 #[.slice none 0 0, .slice none 0 0] :: cellOb gn10 94 #[.slice none 0 0, .slice none 0 0] :: mpOb okS kS vE3 me ([(pA, (a, s, bs))]) :: mpOb okS kS vRw ml (lastL m) :: mpOb okF vF vF mi (linL m) :: cellOb kb 209 (ckC (.slice A m cm) n (.slice (some ⟨ge, 0, none⟩) 1 1) ml me mi) :: cellOb g5 156 (stC kb) :: cellOb g4 96 #[.slice none 0 0, .slice none 0 0] :: cellOb g3 105 #[.int .i64 n, .string ⟨#[]⟩, .string ⟨#[]⟩, .slice (some ⟨ge, 0, none⟩) 1 1, .slice none 0 0] :: cellOb g2 96 #[.slice A m cm, .slice none 0 0] :: l) wc17 := sc17
            clear sc17
            go_wp2_with fail
            refine hK'.out _ _ (⟨(SC17.cell 10 rfl).cell 0, (SC17.cell 10 rfl).cell 1, (SC17.cell 9 rfl).cell 4⟩) ?_
            clear hK' K'
            try simp only [Act.put, List.setIfInBounds_toArray, List.set]
            refine wpTr_one ?_
            refine wpTr_runL rfl (fun K' hK' => ?_)
            go_simp
            go_at_call 98
            refine (Concat_none SC17 (List.mem_cons_of_mem _ (List.mem_cons_of_mem _ (List.mem_cons_self ..)))).mono ?_
            rintro e wc18 ⟨rfl, rfl⟩
            go_wp2_with fail
            refine hK'.out _ _ (⟨(SC17.cell 10 rfl).cell 0, (SC17.cell 10 rfl).cell 1, (SC17.cell 9 rfl).cell 4⟩) ?_
            clear hK' K'
            try simp only [Act.put, List.setIfInBounds_toArray, List.set]
            refine wpTr_takeL rfl ?_ (Or.inl ⟨by rfl, ?_⟩) ?_
            rotate_left
            · (intro w' hSw; obtain ⟨h1, h2, h3⟩ := hSw; go_simp; try with_reducible rfl)
            try simp only [Act.put, List.setIfInBounds_toArray, List.set]
            refine wpTr_nil ?_
            simp only [List.drop_succ_cons, List.drop_zero]
            have X := Lib.hid SC17
            clear SC17
            have d0 := (X.out.cell 1 rfl).cell 0
            have d1 := (X.out.cell 1 rfl).cell 1
            have f0 := (X.out.cell 1 rfl).frozen 0
            have f1 := (X.out.cell 1 rfl).frozen 1
            have Y := Lib.hid ((X.out.setAt 1 rfl 0 (.slice vA17 m vc17)).setAt 1 rfl 1 (.slice none 0 0))
            have Z : Hid (SW b w0 (cellOb gn16 96 #[.slice vA17 m vc17, .slice none 0 0] :: rowOb 111 12 (.slice vA17 m vc17) m ((revs m).flatMap encR) :: mpOb okS kS vRw ml (lastL m) :: mpOb okF vF vF mi (linL m) :: cellOb kb 209 (ckC (.slice A m cm) n (.slice (some ⟨ge, 0, none⟩) 1 1) ml me mi) :: cellOb g4 96 #[.slice none 0 0, .slice none 0 0] :: cellOb g3 105 #[.int .i64 n, .string ⟨#[]⟩, .string ⟨#[]⟩, .slice (some ⟨ge, 0, none⟩) 1 1, .slice none 0 0] :: l) _) := SW.few (pre := [_, _, _, _, _, _, _, _, _, _, _]) Y.out [1, 0, 4, 5, 6, 8, 9] (n := 11) rfl (by decide) (by decide)
            clear X Y
            go_wp2_with fail
            go_meet
            exact ⟨gn16, vA17, vc17, rfl, Z.out⟩
        · refine wpTr_runL rfl (fun K' hK' => ?_)
          have SA19 : SW b w0 (cellOb _ 96 #[.slice none 0 0, .slice none 0 0] :: mpOb okS kS vE3 me ([(pA, (a, s, bs))]) :: mpOb okS kS vRw ml (lastL m) :: mpOb okF vF vF mi (linL m) :: cellOb kb 209 (ckC (.slice A m cm) n (.slice (some ⟨ge, 0, none⟩) 1 1) ml me mi) :: cellOb g5 156 (stC kb) :: cellOb g4 96 #[.slice none 0 0, .slice none 0 0] :: cellOb g3 105 #[.int .i64 n, .string ⟨#[]⟩, .string ⟨#[]⟩, .slice (some ⟨ge, 0, none⟩) 1 1, .slice none 0 0] :: cellOb g2 96 #[.slice A m cm, .slice none 0 0] :: l) _ := SW.newCell S1d 96 #[.slice none 0 0, .slice none 0 0]
          go_simp
          refine hK'.out _ _ (⟨(SA19.cell 8 rfl).cell 0, (SA19.cell 8 rfl).cell 1, (SA19.cell 7 rfl).cell 4⟩) ?_
          clear hK' K'
          obtain ⟨gn19, wn19, eG19, eW19, SB19⟩ : ∃ gn19 wn19, Hid (_ = gn19) ∧ Hid (_ = wn19) ∧ SW b w0 (cellOb gn19 96 #[.slice none 0 0, .slice none 0 0] :: mpOb okS kS vE3 me ([(pA, (a, s, bs))]) :: mpOb okS kS vRw ml (lastL m) :: mpOb okF vF vF mi (linL m) :: cellOb kb 209 (ckC (.slice A m cm) n (.slice (some ⟨ge, 0, none⟩) 1 1) ml me mi) :: cellOb g5 156 (stC kb) :: cellOb g4 96 #[.slice none 0 0, .slice none 0 0] :: cellOb g3 105 #[.int .i64 n, .string ⟨#[]⟩, .string ⟨#[]⟩, .slice (some ⟨ge, 0, none⟩) 1 1, .slice none 0 0] :: cellOb g2 96 #[.slice A m cm, .slice none 0 0] :: l) wn19 := ⟨_, _, rfl, rfl, SA19⟩
          rw [eG19.out, eW19.out]
          clear eG19 eW19 SA19
          try simp only [Act.put, List.setIfInBounds_toArray, List.set]
          refine wpTr_two ?_ ?_
          · refine wpTr_runL rfl (fun K' hK' => ?_)
            go_simp
            go_at_call 97
            refine (Clone_any SB19 (List.mem_cons_of_mem _ (List.mem_cons_of_mem _ (List.mem_cons_of_mem _ (List.mem_cons_of_mem _ (List.mem_cons_of_mem _ (List.mem_cons_of_mem _ (List.mem_cons_of_mem _ (List.mem_cons_of_mem _ (List.mem_cons_of_mem _ HV.out))))))))) H0.out (by omega)).mono ?_
            rintro e wc20 ⟨vA20, vc20, rfl, sc20⟩
            have SC20 : SW b w0 (rowOb 111 12 (.slice vA20 m vc20) m ((revs m).flatMap encR) :: cellOb gn19 96 #[.slice none 0 0, .slice none 0 0] :: mpOb okS kS vE3 me ([(pA, (a, s, bs))]) :: mpOb okS kS vRw ml (lastL m) :: mpOb okF vF vF mi (linL m) :: cellOb kb 209 (ckC (.slice A m cm) n (.slice (some ⟨ge, 0, none⟩) 1 1) ml me mi) :: cellOb g5 156 (stC kb) :: cellOb g4 96 #[.slice none 0 0, .slice none 0 0] :: cellOb g3 105 #[.int .i64 n, .string ⟨#[]⟩, .string ⟨#[]⟩, .slice (some ⟨ge, 0, none⟩) 1 1, .slice none 0 0] :: cellOb g2 96 #[.slice A m cm, .slice none 0 0] :: l) wc20 := sc20
            clear sc20
            go_wp2_with fail
            refine hK'.out _ _ (⟨(SC20.cell 9 rfl).cell 0, (SC20.cell 9 rfl).cell 1, (SC20.cell 8 rfl).cell 4⟩) ?_
            clear hK' K'
            try simp only [Act.put, List.setIfInBounds_toArray, List.set]
            refine wpTr_one ?_
            refine wpTr_runL rfl (fun K' hK' => ?_)
            have SA21 : SW b w0 (cellOb _ 94 #[.slice none 0 0, .slice none 0 0] :: rowOb 111 12 (.slice vA20 m vc20) m ((revs m).flatMap encR) :: cellOb gn19 96 #[.slice none 0 0, .slice none 0 0] :: mpOb okS kS vE3 me ([(pA, (a, s, bs))]) :: mpOb okS kS vRw ml (lastL m) :: mpOb okF vF vF mi (linL m) :: cellOb kb 209 (ckC (.slice A m cm) n (.slice (some ⟨ge, 0, none⟩) 1 1) ml me mi) :: cellOb g5 156 (stC kb) :: cellOb g4 96 #[.slice none 0 0, .slice none 0 0] :: cellOb g3 105 #[.int .i64 n, .string ⟨#[]⟩, .string ⟨#[]⟩, .slice (some ⟨ge, 0, none⟩) 1 1, .slice none 0 0] :: cellOb g2 96 #[.slice A m cm, .slice none 0 0] :: l) _ := SW.newCell SC20 94 #[.slice none 0 0, .slice none 0 0]
            go_simp
            refine hK'.out _ _ (⟨(SA21.cell 10 rfl).cell 0, (SA21.cell 10 rfl).cell 1, (SA21.cell 9 rfl).cell 4⟩) ?_
            clear hK' K'
            obtain ⟨gn21, wn21, eG21, eW21, SB21⟩ : ∃ gn21 wn21, Hid (_ = gn21) ∧ Hid (_ = wn21) ∧ SW b w0 (cellOb gn21 94 #[.slice none 0 0, .slice none 0 0] :: rowOb 111 12 (.slice vA20 m vc20) m ((revs m).flatMap encR) :: cellOb gn19 96 #[.slice none 0 0, .slice none 0 0] :: mpOb okS kS vE3 me ([(pA, (a, s, bs))]) :: mpOb okS kS vRw ml (lastL m) :: mpOb okF vF vF mi (linL m) :: cellOb kb 209 (ckC (.slice A m cm) n (.slice (some ⟨ge, 0, none⟩) 1 1) ml me mi) :: cellOb g5 156 (stC kb) :: cellOb g4 96 #[.slice none 0 0, .slice none 0 0] :: cellOb g3 105 #[.int .i64 n, .string ⟨#[]⟩, .string ⟨#[]⟩, .slice (some ⟨ge, 0, none⟩) 1 1, .slice none 0 0] :: cellOb g2 96 #[.slice A m cm, .slice none 0 0] :: l) wn21 := ⟨_, _, rfl, rfl, SA21⟩
            rw [eG21.out, eW21.out]
            clear eG21 eW21 SA21
            try simp only [Act.put, List.setIfInBounds_toArray, List.set]
            refine wpTr_one ?_
            refine wpTr_runL rfl (fun K' hK' => ?_)
            go_simp
            go_at_call 98
            refine (Concat_none SB21 (List.mem_cons_self ..)).mono ?_
            rintro e wc22 ⟨rfl, rfl⟩
            go_wp2_with fail
            refine hK'.out _ _ (⟨(SB21.cell 10 rfl).cell 0, (SB21.cell 10 rfl).cell 1, (SB21.cell 9 rfl).cell 4⟩) ?_
            clear hK' K'
            try simp only [Act.put, List.setIfInBounds_toArray, List.set]
            refine wpTr_takeL rfl ?_ (Or.inl ⟨by rfl, ?_⟩) ?_
            rotate_left
            · (intro w' hSw; obtain ⟨h1, h2, h3⟩ := hSw; go_simp; try with_reducible rfl)
            try simp only [Act.put, List.setIfInBounds_toArray, List.set]
            refine wpTr_nil ?_
            simp only [List.drop_succ_cons, List.drop_zero]
            have X := Lib.hid SB21
            clear SB21
            have d0 := (X.out.cell 2 rfl).cell 0
            have d1 := (X.out.cell 2 rfl).cell 1
            have f0 := (X.out.cell 2 rfl).frozen 0
            have f1 := (X.out.cell 2 rfl).frozen 1
            have Y := Lib.hid ((X.out.setAt 2 rfl 0 (.slice vA20 m vc20)).setAt 2 rfl 1 (.slice none 0 0))
            have Z : Hid (SW b w0 (cellOb gn19 96 #[.slice vA20 m vc20, .slice none 0 0] :: rowOb 111 12 (.slice vA20 m vc20) m ((revs m).flatMap encR) :: mpOb okS kS vRw ml (lastL m) :: mpOb okF vF vF mi (linL m) :: cellOb kb 209 (ckC (.slice A m cm) n (.slice (some ⟨ge, 0, none⟩) 1 1) ml me mi) :: cellOb g4 96 #[.slice none 0 0, .slice none 0 0] :: cellOb g3 105 #[.int .i64 n, .string ⟨#[]⟩, .string ⟨#[]⟩, .slice (some ⟨ge, 0, none⟩) 1 1, .slice none 0 0] :: l) _) := SW.few (pre := [_, _, _, _, _, _, _, _, _, _, _]) Y.out [2, 1, 4, 5, 6, 8, 9] (n := 11) rfl (by decide) (by decide)
            clear X Y
            go_wp2_with fail
            go_meet
            exact ⟨gn19, vA20, vc20, rfl, Z.out⟩
          · refine wpTr_runL rfl (fun K' hK' => ?_)
            have SA23 : SW b w0 (cellOb _ 94 #[.slice none 0 0, .slice none 0 0] :: cellOb gn19 96 #[.slice none 0 0, .slice none 0 0] :: mpOb okS kS vE3 me ([(pA, (a, s, bs))]) :: mpOb okS kS vRw ml (lastL m) :: mpOb okF vF vF mi (linL m) :: cellOb kb 209 (ckC (.slice A m cm) n (.slice (some ⟨ge, 0, none⟩) 1 1) ml me mi) :: cellOb g5 156 (stC kb) :: cellOb g4 96 #[.slice none 0 0, .slice none 0 0] :: cellOb g3 105 #[.int .i64 n, .string ⟨#[]⟩, .string ⟨#[]⟩, .slice (some ⟨ge, 0, none⟩) 1 1, .slice none 0 0] :: cellOb g2 96 #[.slice A m cm, .slice none 0 0] :: l) _ := SW.newCell SB19 94 #[.slice none 0 0, .slice none 0 0]
            go_simp
            refine hK'.out _ _ (⟨(SA23.cell 9 rfl).cell 0, (SA23.cell 9 rfl).cell 1, (SA23.cell 8 rfl).cell 4⟩) ?_
            clear hK' K'
            obtain ⟨gn23, wn23, eG23, eW23, SB23⟩ : ∃ gn23 wn23, Hid (_ = gn23) ∧ Hid (_ = wn23) ∧ SW b w0 (cellOb gn23 94 #[.slice none 0 0, .slice none 0 0] :: cellOb gn19 96 #[.slice none 0 0, .slice none 0 0] :: mpOb okS kS vE3 me ([(pA, (a, s, bs))]) :: mpOb okS kS vRw ml (lastL m) :: mpOb okF vF vF mi (linL m) :: cellOb kb 209 (ckC (.slice A m cm) n (.slice (some ⟨ge, 0, none⟩) 1 1) ml me mi) :: cellOb g5 156 (stC kb) :: cellOb g4 96 #[.slice none 0 0, .slice none 0 0] :: cellOb g3 105 #[.int .i64 n, .string ⟨#[]⟩, .string ⟨#[]⟩, .slice (some ⟨ge, 0, none⟩) 1 1, .slice none 0 0] :: cellOb g2 96 #[.slice A m cm, .slice none 0 0] :: l) wn23 := ⟨_, _, rfl, rfl, SA23⟩
            rw [eG23.out, eW23.out]
            clear eG23 eW23 SA23
            try simp only [Act.put, List.setIfInBounds_toArray, List.set]
            refine wpTr_one ?_
            refine wpTr_runL rfl (fun K' hK' => ?_)
            go_simp
            go_at_call 97
            refine (Clone_any SB23 (List.mem_cons_of_mem _ (List.mem_cons_of_mem _ (List.mem_cons_of_mem _ (List.mem_cons_of_mem _ (List.mem_cons_of_mem _ (List.mem_cons_of_mem _ (List.mem_cons_of_mem _ (List.mem_cons_of_mem _ (List.mem_cons_of_mem _ (List.mem_cons_of_mem _ HV.out)))))))))) H0.out (by omega)).mono ?_
            rintro e wc24 ⟨vA24, vc24, rfl, sc24⟩
            have SC24 : SW b w0 (rowOb 111 12 (.slice vA24 m vc24) m ((revs m).flatMap encR) :: cellOb gn23 94 #[.slice none 0 0, .slice none 0 0] :: cellOb gn19 96 #[.slice none 0 0, .slice none 0 0] :: mpOb okS kS vE3 me ([(pA, (a, s, bs))]) :: mpOb okS kS vRw ml (lastL m) :: mpOb okF vF vF mi (linL m) :: cellOb kb 209 (ckC (.slice A m cm) n (.slice (some ⟨ge, 0, none⟩) 1 1) ml me mi) :: cellOb g5 156 (stC kb) :: cellOb g4 96 #[.slice none 0 0, .slice none 0 0] :: cellOb g3 105 #[.int .i64 n, .string ⟨#[]⟩, .string ⟨#[]⟩, .slice (some ⟨ge, 0, none⟩) 1 1, .slice none 0 0] :: cellOb g2 96 #[.slice A m cm, .slice none 0 0] :: l) wc24 := sc24
            clear sc24
            go_wp2_with fail
            refine hK'.out _ _ (⟨(SC24.cell 10 rfl).cell 0, (SC24.cell 10 rfl).cell 1, (SC24.cell 9 rfl).cell 4⟩) ?_
            clear hK' K'
            try simp only [Act.put, List.setIfInBounds_toArray, List.set]
            refine wpTr_one ?_
            refine wpTr_runL rfl (fun K' hK' => ?_)
            go_simp
            go_at_call 98
            refine (Concat_none SC24 (List.mem_cons_of_mem _ (List.mem_cons_self ..))).mono ?_
            rintro e wc25 ⟨rfl, rfl⟩
            go_wp2_with fail
            refine hK'.out _ _ (⟨(SC24.cell 10 rfl).cell 0, (SC24.cell 10 rfl).cell 1, (SC24.cell 9 rfl).cell 4⟩) ?_
            clear hK' K'
            try simp only [Act.put, List.setIfInBounds_toArray, List.set]
            refine wpTr_takeL rfl ?_ (Or.inl ⟨by rfl, ?_⟩) ?_
            rotate_left
            · (intro w' hSw; obtain ⟨h1, h2, h3⟩ := hSw; go_simp; try with_reducible rfl)
            try simp only [Act.put, List.setIfInBounds_toArray, List.set]
            refine wpTr_nil ?_
            simp only [List.drop_succ_cons, List.drop_zero]
            have X := Lib.hid SC24
            clear SC24
            have d0 := (X.out.cell 2 rfl).cell 0
            have d1 := (X.out.cell 2 rfl).cell 1
            have f0 := (X.out.cell 2 rfl).frozen 0
            have f1 := (X.out.cell 2 rfl).frozen 1
            have Y := Lib.hid ((X.out.setAt 2 rfl 0 (.slice vA24 m vc24)).setAt 2 rfl 1 (.slice none 0 0))
            have Z : Hid (SW b w0 (cellOb gn19 96 #[.slice vA24 m vc24, .slice none 0 0] :: rowOb 111 12 (.slice vA24 m vc24) m ((revs m).flatMap encR) :: mpOb okS kS vRw ml (lastL m) :: mpOb okF vF vF mi (linL m) :: cellOb kb 209 (ckC (.slice A m cm) n (.slice (some ⟨ge, 0, none⟩) 1 1) ml me mi) :: cellOb g4 96 #[.slice none 0 0, .slice none 0 0] :: cellOb g3 105 #[.int .i64 n, .string ⟨#[]⟩, .string ⟨#[]⟩, .slice (some ⟨ge, 0, none⟩) 1 1, .slice none 0 0] :: l) _) := SW.few (pre := [_, _, _, _, _, _, _, _, _, _, _]) Y.out [2, 0, 4, 5, 6, 8, 9] (n := 11) rfl (by decide) (by decide)
            clear X Y
            go_wp2_with fail
            go_meet
            exact ⟨gn19, vA24, vc24, rfl, Z.out⟩
      case rest =>
        obtain ⟨g10, vA, vc, rfl, s10⟩ := hcut
        clear S1
        have S2 : Hid (SW b w0 (cellOb g10 96 #[.slice vA m vc, .slice none 0 0] :: rowOb 111 12 (.slice vA m vc) m ((revs m).flatMap encR) :: mpOb okS kS vRw ml (lastL m) :: mpOb okF vF vF mi (linL m) :: cellOb kb 209 (ckC (.slice A m cm) n (.slice (some ⟨ge, 0, none⟩) 1 1) ml me mi) :: cellOb g4 96 #[.slice none 0 0, .slice none 0 0] :: cellOb g3 105 #[.int .i64 n, .string ⟨#[]⟩, .string ⟨#[]⟩, .slice (some ⟨ge, 0, none⟩) 1 1, .slice none 0 0] :: l) wc) := s10
        clear s10
        have d3 : wc.cell? ⟨g3, 3, none⟩ = some (.slice (some ⟨ge, 0, none⟩) 1 1) := (S2.out.cell 6 rfl).cell 3
        go_wp2_with fail
        clear d3
        go_loopw [43] (fun s43 wr => ∃ (k : Nat), s43 = .int .i64 (k : Int) ∧ k ≤ 1 ∧ ∃ (vA : Option Addr) (vc : Nat), SW b w0 (cellOb g10 96 #[.slice vA (m + k) vc, .slice none 0 0] :: rowOb 111 12 (.slice vA (m + k) vc) (m + k) ((revs (m + k)).flatMap encR) :: mpOb okS kS vRw ml (lastL m) :: mpOb okF vF vF mi (linL m) :: cellOb kb 209 (ckC (.slice A m cm) n (.slice (some ⟨ge, 0, none⟩) 1 1) ml me mi) :: cellOb g4 96 #[.slice none 0 0, .slice none 0 0] :: cellOb g3 105 #[.int .i64 n, .string ⟨#[]⟩, .string ⟨#[]⟩, .slice (some ⟨ge, 0, none⟩) 1 1, .slice none 0 0] :: l) wr) (fun s43 _ => 1 - (intOf s43).toNat)
        case atStart => exact ⟨0, rfl, by omega, vA, vc, S2.out⟩
        case round =>
          obtain ⟨k, rfl, hk, vA, vc, hs⟩ := hrel
          clear S2
          rename World => wy
          by_cases hlt : k = 0
          · subst hlt
            have S3 : Hid (SW b w0 (cellOb g10 96 #[.slice vA m vc, .slice none 0 0] :: rowOb 111 12 (.slice vA m vc) m ((revs m).flatMap encR) :: mpOb okS kS vRw ml (lastL m) :: mpOb okF vF vF mi (linL m) :: cellOb kb 209 (ckC (.slice A m cm) n (.slice (some ⟨ge, 0, none⟩) 1 1) ml me mi) :: cellOb g4 96 #[.slice none 0 0, .slice none 0 0] :: cellOb g3 105 #[.int .i64 n, .string ⟨#[]⟩, .string ⟨#[]⟩, .slice (some ⟨ge, 0, none⟩) 1 1, .slice none 0 0] :: l) wy) := hs
            clear hs hk
            have HEC : Hid (IsB wy ge 100 (cEd a s bs)) := S3.out.1.holds (cellOb ge 100 (cEd a s bs)) (List.mem_cons_of_mem _ (List.mem_cons_of_mem _ (List.mem_cons_of_mem _ (List.mem_cons_of_mem _ (List.mem_cons_of_mem _ (List.mem_cons_of_mem _ (List.mem_cons_of_mem _ HE.out)))))))
            have e0 : wy.cell? ⟨ge, 0, none⟩ = some (.string pA) := HEC.out.cell 0
            have e1 : wy.cell? ⟨ge, 1, none⟩ = some (.int .i64 a) := HEC.out.cell 1
            have e2 : wy.cell? ⟨ge, 2, none⟩ = some (.int .i64 1) := HEC.out.cell 2
            have e3 : wy.cell? ⟨ge, 3, none⟩ = some (.bool false) := HEC.out.cell 3
            have e4 : wy.cell? ⟨ge, 4, none⟩ = some (.bool false) := HEC.out.cell 4
            have e5 : wy.cell? ⟨ge, 5, none⟩ = some (.bool false) := HEC.out.cell 5
            have e6 : wy.cell? ⟨ge, 6, none⟩ = some (.int .u64 s) := HEC.out.cell 6
            have e7 : wy.cell? ⟨ge, 7, none⟩ = some (.int .i64 1) := HEC.out.cell 7
            have e8 : wy.cell? ⟨ge, 8, none⟩ = some (.int .i64 bs) := HEC.out.cell 8
            have e9 : wy.cell? ⟨ge, 9, none⟩ = some (.string ⟨#[]⟩) := HEC.out.cell 9
            have e10 : wy.cell? ⟨ge, 10, none⟩ = some (.int .i64 0) := HEC.out.cell 10
            have e11 : wy.cell? ⟨ge, 11, none⟩ = some (.int .i64 0) := HEC.out.cell 11
            have S4a := Lib.hid (S3.out.newCell 100 #[.string pA, .int .i64 a, .int .i64 1, .bool false, .bool false, .bool false, .int .u64 s, .int .i64 1, .int .i64 bs, .string ⟨#[]⟩, .int .i64 0, .int .i64 0])
            go_upto_region 13 with fail
            clear HEC e0 e1 e2 e3 e4 e5 e6 e7 e8 e9 e10 e11
            obtain ⟨w4, HW⟩ : ∃ W, Hid (wy.alloc (.cells #[.string pA, .int .i64 a, .int .i64 1, .bool false, .bool false, .bool false, .int .u64 s, .int .i64 1, .int .i64 bs, .string ⟨#[]⟩, .int .i64 0, .int .i64 0] 100) = W) := ⟨_, rfl⟩
            obtain ⟨g12, HG⟩ : ∃ x, Hid (wy.heap.size = x) := ⟨_, rfl⟩
            rw [HW.out, HG.out] at S4a ⊢
            have S4 : Hid (SW b w0 (cellOb g12 100 #[.string pA, .int .i64 a, .int .i64 1, .bool false, .bool false, .bool false, .int .u64 s, .int .i64 1, .int .i64 bs, .string ⟨#[]⟩, .int .i64 0, .int .i64 0] :: cellOb g10 96 #[.slice vA m vc, .slice none 0 0] :: rowOb 111 12 (.slice vA m vc) m ((revs m).flatMap encR) :: mpOb okS kS vRw ml (lastL m) :: mpOb okF vF vF mi (linL m) :: cellOb kb 209 (ckC (.slice A m cm) n (.slice (some ⟨ge, 0, none⟩) 1 1) ml me mi) :: cellOb g4 96 #[.slice none 0 0, .slice none 0 0] :: cellOb g3 105 #[.int .i64 n, .string ⟨#[]⟩, .string ⟨#[]⟩, .slice (some ⟨ge, 0, none⟩) 1 1, .slice none 0 0] :: l) w4.drew) := Lib.hid S4a.out.drew
            clear HW HG S4a S3
            obtain ⟨i0, hi, hz0, hz1, hz2⟩ := info_parts info111
            refine wp_region_held_tail [(0, true), (1, true), (2, true), (3, true), (4, false), (5, false), (6, false), (7, true)] (fun w' => w'.cell? ⟨g10, 0, none⟩ = some (.slice vA m vc) ∧ IsB w' g12 100 #[.string pA, .int .i64 a, .int .i64 1, .bool false, .bool false, .bool false, .int .u64 s, .int .i64 1, .int .i64 bs, .string ⟨#[]⟩, .int .i64 0, .int .i64 0]) (by kernel_rfl) (fun _ _ d _ _ h => by cases d <;> exact h) (by kernel_rfl) (⟨(S4.out.cell 1 rfl).cell 0, S4.out.cell 0 rfl⟩) ?_
            simp only [picked, List.map_cons, List.map_nil, List.getD_cons_succ, List.getD_cons_zero]
            (refine wpHeld_take (v := ?_) (Or.inl ⟨by rfl, ?_⟩) ?_
             rotate_left
             · (intro w' hSw; obtain ⟨y0, y1⟩ := hSw; have z0 : w'.cell? ⟨g12, 0, none⟩ = some (.string pA) := y1.cell 0; have z1 : w'.cell? ⟨g12, 1, none⟩ = some (.int .i64 a) := y1.cell 1; have z2 : w'.cell? ⟨g12, 2, none⟩ = some (.int .i64 1) := y1.cell 2; have z3 : w'.cell? ⟨g12, 3, none⟩ = some (.bool false) := y1.cell 3; have z4 : w'.cell? ⟨g12, 4, none⟩ = some (.bool false) := y1.cell 4; have z5 : w'.cell? ⟨g12, 5, none⟩ = some (.bool false) := y1.cell 5; have z6 : w'.cell? ⟨g12, 6, none⟩ = some (.int .u64 s) := y1.cell 6; have z7 : w'.cell? ⟨g12, 7, none⟩ = some (.int .i64 1) := y1.cell 7; have z8 : w'.cell? ⟨g12, 8, none⟩ = some (.int .i64 bs) := y1.cell 8; have z9 : w'.cell? ⟨g12, 9, none⟩ = some (.string ⟨#[]⟩) := y1.cell 9; have z10 : w'.cell? ⟨g12, 10, none⟩ = some (.int .i64 0) := y1.cell 10; have z11 : w'.cell? ⟨g12, 11, none⟩ = some (.int .i64 0) := y1.cell 11; go_simp; try with_reducible rfl)
             try simp only [Act.put, List.setIfInBounds_toArray, List.set])
            (refine wpHeld_take (v := ?_) (Or.inl ⟨by rfl, ?_⟩) ?_
             rotate_left
             · (intro w' hSw; obtain ⟨y0, y1⟩ := hSw; have z0 : w'.cell? ⟨g12, 0, none⟩ = some (.string pA) := y1.cell 0; have z1 : w'.cell? ⟨g12, 1, none⟩ = some (.int .i64 a) := y1.cell 1; have z2 : w'.cell? ⟨g12, 2, none⟩ = some (.int .i64 1) := y1.cell 2; have z3 : w'.cell? ⟨g12, 3, none⟩ = some (.bool false) := y1.cell 3; have z4 : w'.cell? ⟨g12, 4, none⟩ = some (.bool false) := y1.cell 4; have z5 : w'.cell? ⟨g12, 5, none⟩ = some (.bool false) := y1.cell 5; have z6 : w'.cell? ⟨g12, 6, none⟩ = some (.int .u64 s) := y1.cell 6; have z7 : w'.cell? ⟨g12, 7, none⟩ = some (.int .i64 1) := y1.cell 7; have z8 : w'.cell? ⟨g12, 8, none⟩ = some (.int .i64 bs) := y1.cell 8; have z9 : w'.cell? ⟨g12, 9, none⟩ = some (.string ⟨#[]⟩) := y1.cell 9; have z10 : w'.cell? ⟨g12, 10, none⟩ = some (.int .i64 0) := y1.cell 10; have z11 : w'.cell? ⟨g12, 11, none⟩ = some (.int .i64 0) := y1.cell 11; go_simp; try with_reducible rfl)
             try simp only [Act.put, List.setIfInBounds_toArray, List.set])
            (refine wpHeld_take (v := ?_) (Or.inl ⟨by rfl, ?_⟩) ?_
             rotate_left
             · (intro w' hSw; obtain ⟨y0, y1⟩ := hSw; have z0 : w'.cell? ⟨g12, 0, none⟩ = some (.string pA) := y1.cell 0; have z1 : w'.cell? ⟨g12, 1, none⟩ = some (.int .i64 a) := y1.cell 1; have z2 : w'.cell? ⟨g12, 2, none⟩ = some (.int .i64 1) := y1.cell 2; have z3 : w'.cell? ⟨g12, 3, none⟩ = some (.bool false) := y1.cell 3; have z4 : w'.cell? ⟨g12, 4, none⟩ = some (.bool false) := y1.cell 4; have z5 : w'.cell? ⟨g12, 5, none⟩ = some (.bool false) := y1.cell 5; have z6 : w'.cell? ⟨g12, 6, none⟩ = some (.int .u64 s) := y1.cell 6; have z7 : w'.cell? ⟨g12, 7, none⟩ = some (.int .i64 1) := y1.cell 7; have z8 : w'.cell? ⟨g12, 8, none⟩ = some (.int .i64 bs) := y1.cell 8; have z9 : w'.cell? ⟨g12, 9, none⟩ = some (.string ⟨#[]⟩) := y1.cell 9; have z10 : w'.cell? ⟨g12, 10, none⟩ = some (.int .i64 0) := y1.cell 10; have z11 : w'.cell? ⟨g12, 11, none⟩ = some (.int .i64 0) := y1.cell 11; go_simp; try with_reducible rfl)
             try simp only [Act.put, List.setIfInBounds_toArray, List.set])
            (refine wpHeld_take (v := ?_) (Or.inl ⟨by rfl, ?_⟩) ?_
             rotate_left
             · (intro w' hSw; obtain ⟨y0, y1⟩ := hSw; have z0 : w'.cell? ⟨g12, 0, none⟩ = some (.string pA) := y1.cell 0; have z1 : w'.cell? ⟨g12, 1, none⟩ = some (.int .i64 a) := y1.cell 1; have z2 : w'.cell? ⟨g12, 2, none⟩ = some (.int .i64 1) := y1.cell 2; have z3 : w'.cell? ⟨g12, 3, none⟩ = some (.bool false) := y1.cell 3; have z4 : w'.cell? ⟨g12, 4, none⟩ = some (.bool false) := y1.cell 4; have z5 : w'.cell? ⟨g12, 5, none⟩ = some (.bool false) := y1.cell 5; have z6 : w'.cell? ⟨g12, 6, none⟩ = some (.int .u64 s) := y1.cell 6; have z7 : w'.cell? ⟨g12, 7, none⟩ = some (.int .i64 1) := y1.cell 7; have z8 : w'.cell? ⟨g12, 8, none⟩ = some (.int .i64 bs) := y1.cell 8; have z9 : w'.cell? ⟨g12, 9, none⟩ = some (.string ⟨#[]⟩) := y1.cell 9; have z10 : w'.cell? ⟨g12, 10, none⟩ = some (.int .i64 0) := y1.cell 10; have z11 : w'.cell? ⟨g12, 11, none⟩ = some (.int .i64 0) := y1.cell 11; go_simp; try with_reducible rfl)
             try simp only [Act.put, List.setIfInBounds_toArray, List.set])
            refine wpHeld_run (fun K hK => ?_)
            go_simp
            go_at_call 99
            refine (revision_m S4.out (List.mem_cons_of_mem _ (List.mem_cons_of_mem _ (List.mem_cons_of_mem _ (List.mem_cons_of_mem _ (List.mem_cons_of_mem _ (List.mem_cons_self ..)))))) (List.mem_cons_of_mem _ (List.mem_cons_of_mem _ (List.mem_cons_of_mem _ (List.mem_cons_self ..)))) (by omega)).mono ?_
            rintro e w5 ⟨rfl, hb5⟩
            have S5 := Lib.hid (S4.out.on hb5)
            clear hb5 S4
            go_wp2_with fail
            refine hK.out _ _ ⟨(S5.out.cell 1 rfl).cell 0, S5.out.cell 0 rfl⟩ ?_
            clear hK K
            try simp only [Act.put, List.setIfInBounds_toArray, List.set]
            refine wpHeld_run (fun K hK => ?_)
            have S6 := Lib.hid (S5.out.newCell 111 #[.string pA, .int .i64 ((m : Int) + 1), .int .i64 n, .int .i64 a, .int .i64 1, .bool false, .bool false, .bool false, .int .u64 s, .int .i64 1, .string ⟨#[]⟩, .int .i64 0])
            go_simp
            refine hK.out _ _ ⟨(S6.out.cell 2 rfl).cell 0, S6.out.cell 1 rfl⟩ ?_
            clear hK K
            try simp only [Act.put, List.setIfInBounds_toArray, List.set]
            refine wpHeld_run (fun K hK => ?_)
            refine step_rowS (t := 93) (e := 111) (size := 12) (bytes := 96) (i := i0) S6.out 3 rfl (by rfl) (.tmp 48) (.tmp 52) (by rfl) Tryz.underlying93 hi hz0 hz1 hz2 rfl (by omega) (by rfl) ⟨w5.heap.size, 0, none⟩ 1 [.string pA, .int .i64 ((m : Int) + 1), .int .i64 n, .int .i64 a, .int .i64 1, .bool false, .bool false, .bool false, .int .u64 s, .int .i64 1, .string ⟨#[]⟩, .int .i64 0] (by rfl) rfl (fun j u hu => by rw [lit_add, Nat.zero_add, (S6.out.cell 0 rfl).cell, ← Array.getElem?_toList]; exact hu) (fun u hu => by simp only [List.mem_cons, List.not_mem_nil, or_false] at hu; rcases hu with rfl | rfl | rfl | rfl | rfl | rfl | rfl | rfl | rfl | rfl | rfl | rfl <;> rfl) (by unfold maxLen; omega) (by omega) ?_
            intro v2 w6 s6
            obtain ⟨A2, c2, rfl⟩ := own_slice (s6.get 3 rfl : w6.ownsRow 0 111 12 v2 _ _)
            have eR : (revs m).flatMap encR ++ [.string pA, .int .i64 ((m : Int) + 1), .int .i64 n, .int .i64 a, .int .i64 1, .bool false, .bool false, .bool false, .int .u64 s, .int .i64 1, .string ⟨#[]⟩, .int .i64 0] = (revs (m + 1)).flatMap encR := by
              rw [revs_succ, List.flatMap_append]
              simp only [List.flatMap_cons, List.flatMap_nil, List.append_nil, encR]
              rw [HA.out, HS.out, HN.out, ← HS.out]
            rw [eR] at s6
            clear eR
            have S7 : Hid (SW b w0 (cellOb w5.heap.size 111 #[.string pA, .int .i64 ((m : Int) + 1), .int .i64 n, .int .i64 a, .int .i64 1, .bool false, .bool false, .bool false, .int .u64 s, .int .i64 1, .string ⟨#[]⟩, .int .i64 0] :: cellOb g12 100 #[.string pA, .int .i64 a, .int .i64 1, .bool false, .bool false, .bool false, .int .u64 s, .int .i64 1, .int .i64 bs, .string ⟨#[]⟩, .int .i64 0, .int .i64 0] :: cellOb g10 96 #[.slice vA m vc, .slice none 0 0] :: rowOb 111 12 (.slice A2 (m + 1) c2) (m + 1) ((revs (m + 1)).flatMap encR) :: mpOb okS kS vRw ml (lastL m) :: mpOb okF vF vF mi (linL m) :: cellOb kb 209 (ckC (.slice A m cm) n (.slice (some ⟨ge, 0, none⟩) 1 1) ml me mi) :: cellOb g4 96 #[.slice none 0 0, .slice none 0 0] :: cellOb g3 105 #[.int .i64 n, .string ⟨#[]⟩, .string ⟨#[]⟩, .slice (some ⟨ge, 0, none⟩) 1 1, .slice none 0 0] :: l) w6) := s6
            clear s6 S6 S5
            refine hK.out _ _ ⟨(S7.out.cell 2 rfl).cell 0, S7.out.cell 1 rfl⟩ ?_
            clear hK K
            try simp only [Act.put, List.setIfInBounds_toArray, List.set]
            (refine wpHeld_take (v := ?_) (Or.inl ⟨by rfl, ?_⟩) ?_
             rotate_left
             · (intro w' hSw; obtain ⟨y0, y1⟩ := hSw; have z0 : w'.cell? ⟨g12, 0, none⟩ = some (.string pA) := y1.cell 0; have z1 : w'.cell? ⟨g12, 1, none⟩ = some (.int .i64 a) := y1.cell 1; have z2 : w'.cell? ⟨g12, 2, none⟩ = some (.int .i64 1) := y1.cell 2; have z3 : w'.cell? ⟨g12, 3, none⟩ = some (.bool false) := y1.cell 3; have z4 : w'.cell? ⟨g12, 4, none⟩ = some (.bool false) := y1.cell 4; have z5 : w'.cell? ⟨g12, 5, none⟩ = some (.bool false) := y1.cell 5; have z6 : w'.cell? ⟨g12, 6, none⟩ = some (.int .u64 s) := y1.cell 6; have z7 : w'.cell? ⟨g12, 7, none⟩ = some (.int .i64 1) := y1.cell 7; have z8 : w'.cell? ⟨g12, 8, none⟩ = some (.int .i64 bs) := y1.cell 8; have z9 : w'.cell? ⟨g12, 9, none⟩ = some (.string ⟨#[]⟩) := y1.cell 9; have z10 : w'.cell? ⟨g12, 10, none⟩ = some (.int .i64 0) := y1.cell 10; have z11 : w'.cell? ⟨g12, 11, none⟩ = some (.int .i64 0) := y1.cell 11; go_simp; try with_reducible rfl)
             try simp only [Act.put, List.setIfInBounds_toArray, List.set])
            refine wpHeld_nil ?_
            simp only [List.length_cons, List.length_nil, List.drop_succ_cons, List.drop_zero]
            have z0 := (S7.out.cell 2 rfl).cell 0
            have f0 := (S7.out.cell 2 rfl).frozen 0
            have S8 := Lib.hid ((S7.out.setAt 2 rfl 0 (.slice A2 (m + 1) c2)).tail.tail)
            go_wp2_with fail
            go_roundw
            case rel => exact ⟨1, by go_num, by omega, A2, c2, S8.out⟩
            case measure => simp [intOf]
          · obtain rfl : k = 1 := by omega
            have S3 : Hid (SW b w0 (cellOb g10 96 #[.slice vA (m + 1) vc, .slice none 0 0] :: rowOb 111 12 (.slice vA (m + 1) vc) (m + 1) ((revs (m + 1)).flatMap encR) :: mpOb okS kS vRw ml (lastL m) :: mpOb okF vF vF mi (linL m) :: cellOb kb 209 (ckC (.slice A m cm) n (.slice (some ⟨ge, 0, none⟩) 1 1) ml me mi) :: cellOb g4 96 #[.slice none 0 0, .slice none 0 0] :: cellOb g3 105 #[.int .i64 n, .string ⟨#[]⟩, .string ⟨#[]⟩, .slice (some ⟨ge, 0, none⟩) 1 1, .slice none 0 0] :: l) wy) := hs
            clear hs hk hlt
            have c0 : wy.cell? ⟨g10, 0, none⟩ = some (.slice vA (m + 1) vc) := (S3.out.cell 0 rfl).cell 0
            have c1 : wy.cell? ⟨g10, 1, none⟩ = some (.slice none 0 0) := (S3.out.cell 0 rfl).cell 1
            go_wp2_with (go_at_call 100; (with_reducible refine (sort_none _ _).mono ?_); refine halt_ ?_)
            rintro e w5 ⟨rfl, rfl⟩
            have d0 : wy.cell? ⟨g4, 0, none⟩ = some (.slice none 0 0) := (S3.out.cell 5 rfl).cell 0
            have d1 : wy.cell? ⟨g4, 1, none⟩ = some (.slice none 0 0) := (S3.out.cell 5 rfl).cell 1
            have f0 := (S3.out.cell 5 rfl).frozen 0
            have f1 := (S3.out.cell 5 rfl).frozen 1
            have S4 := Lib.hid ((S3.out.setAt 5 rfl 0 (.slice vA (m + 1) vc)).setAt 5 rfl 1 (.slice none 0 0))
            go_wp2_with fail
            clear d0 d1 f0 f1 c0 c1
            have e0 : _ = some (Value.slice vA (m + 1) vc) := (S4.out.cell 5 rfl).cell 0
            have e1 : _ = some (Value.slice none 0 0) := (S4.out.cell 5 rfl).cell 1
            have S5 : Hid (SW b w0 (rowOb 111 12 (.slice vA (m + 1) vc) (m + 1) ((revs (m + 1)).flatMap encR) :: l) _) := SW.few (pre := [_, _, _, _, _, _, _]) S4.out [1] (n := 7) rfl (by decide) (by decide)
            have S6 : SW b w0 (rvOb vA (m + 1) :: l) _ := S5.out.asRead (RowV.of (S5.out.get 0 rfl)) (fun i hi => hi.elim) (fun i hi => by obtain ⟨_, hi⟩ := hi; subst hi; rfl)
            refine bodyPost_ret (v := .tuple #[.agg #[.slice vA (m + 1) vc, .slice none 0 0], .int .i64 0]) ?_ rfl ⟨vA, vc, rfl, S6⟩
            simp only [results, Tryz.results50]
            go_simp
end
end Go.Proofs.YtmiknfneeipkeaaGreat
