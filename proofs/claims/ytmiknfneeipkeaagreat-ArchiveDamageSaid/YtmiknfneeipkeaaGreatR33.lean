/- Contracts of the walk, part 33. -/
import Derived.Test.YtmiknfneeipkeaaGreatR32
import Derived.Test.YtmiknfneeipkeaaGreatR29
namespace Go.Proofs.YtmiknfneeipkeaaGreat
open Go.RowKit Go.MapKept Go.ChangeMaps Go.Shelf Go.Sort
attribute [local go_sem] wext_cell
def SrtR (T Y : List CH) : Prop := AscI (Y.map (·.1)) ∧ (∀ e ∈ Y, fpOf e.2.bs = e.1 ∧ ∃ x ∈ T, x.2.bs = e.2.bs) ∧ ∀ x ∈ T, fpOf x.2.bs ∈ Y.map (·.1)
theorem cell3_src {W : World} {g : Nat} {x y z : Value} {t : TypeId} (h : IsB W g t #[x, y, z]) : ∀ (j : Nat) (v : Value), [x, y, z][j]? = some v → W.cell? ((⟨g, 0, none⟩ : Addr).add j) = some v := by
  intro j v hu
  rw [lit_add, Nat.zero_add, h.cell]
  simpa using hu
theorem ins_mem {α : Type} (l : List α) (j : Nat) (a e : α) : e ∈ l.take j ++ a :: l.drop j ↔ e ∈ l ++ [a] := by
  conv => rhs; rw [← List.take_append_drop j l]
  simp only [List.mem_append, List.mem_cons, List.not_mem_nil, or_false]
  rw [or_comm (a := e = a), ← or_assoc]
theorem getD_fst {Y : List CH} {j : Nat} (h : j < Y.length) : (Y.map (·.1)).getD j id0 = (Y.getD j ch0).1 := by simp [List.getD_eq_getElem?_getD, List.getElem?_eq_getElem h]
theorem asc_ins {A : List ID} {i : ID} {j : Nat} (ha : AscI A) (hlo : ∀ q, q < j → q < A.length → ltID (A.getD q id0) i = true) (hhi : j < A.length → ltID i (A.getD j id0) = true) : AscI (A.take j ++ i :: A.drop j) := by
  have hp : AscI (A.take j ++ A.drop j) := by rw [List.take_append_drop]; exact ha
  rw [AscI, List.pairwise_append] at hp ⊢
  refine ⟨hp.1, List.pairwise_cons.2 ⟨fun a h => ?_, hp.2.1⟩, fun a h c hc => ?_⟩
  · obtain ⟨q, hq, hl, rfl⟩ := mem_drop_ix id0 h
    have h1 := hhi (by omega)
    rcases Nat.eq_or_lt_of_le hq with rfl | hlt
    · exact h1
    · exact ltI_trans h1 (asc_getD ha hl hlt)
  · rcases List.mem_cons.1 hc with rfl | hc
    · obtain ⟨q, hq, hl, rfl⟩ := mem_take_ix id0 h
      exact hlo q hq hl
    · exact hp.2.2 a h c hc
theorem srt_nil : SrtR [] [] := ⟨List.Pairwise.nil, (fun e he => by cases he), (fun x hx => by cases hx)⟩
theorem srt_ins {T Y : List CH} {x : CH} {k1 k2 : Int} {d : BD} {cs : List UInt8} {j : Nat} (h : SrtR T Y) (hlo : ∀ q, q < j → q < Y.length → ltID ((Y.map (·.1)).getD q id0) (k1, k2) = true) (hhi : j < Y.length → ltID (k1, k2) ((Y.map (·.1)).getD j id0) = true) (hf : fpOf cs = (k1, k2) ∧ x.2.bs = cs) : SrtR (T ++ [x]) (Y.take j ++ (((k1, k2), (⟨d, cs⟩ : BS)) : CH) :: Y.drop j) := by
  obtain ⟨h1, h2, h3⟩ := h
  have hmap : (Y.take j ++ (((k1, k2), (⟨d, cs⟩ : BS)) : CH) :: Y.drop j).map (·.1) = (Y.map (·.1)).take j ++ (k1, k2) :: (Y.map (·.1)).drop j := by rw [List.map_append, List.map_cons, List.map_take, List.map_drop]
  refine ⟨?_, fun e he => ?_, fun y hy => ?_⟩
  · rw [hmap]
    exact asc_ins h1 (fun q hq hl => hlo q hq (by rwa [List.length_map] at hl)) (fun hl => hhi (by rwa [List.length_map] at hl))
  · rcases List.mem_append.1 ((ins_mem _ _ _ _).1 he) with he | he
    · obtain ⟨a, y, b, c⟩ := h2 e he
      exact ⟨a, y, List.mem_append_left _ b, c⟩
    · rw [List.mem_singleton] at he
      rw [he]
      exact ⟨hf.1, x, List.mem_append_right _ (List.mem_singleton.2 rfl), hf.2⟩
  · rw [hmap, ins_mem]
    rcases List.mem_append.1 hy with hy | hy
    · exact List.mem_append_left _ (h3 y hy)
    · rw [List.mem_singleton.1 hy, hf.2, hf.1]
      exact List.mem_append_right _ (List.mem_singleton.2 rfl)
theorem srt_len {T Y : List CH} (h : SrtR T Y) : Y.length ≤ T.length := by
  have h1 : (Y.map (·.1)).Nodup := h.1.imp (fun {a b} hab e => by rw [e] at hab; simp [ltID] at hab)
  have h3 := nodup_len (b := T.map (fun x => fpOf x.2.bs)) h1 (fun i hi => by
    obtain ⟨e, he, rfl⟩ := List.mem_map.1 hi
    obtain ⟨a, x, hx, c⟩ := h.2.1 e he
    exact List.mem_map.2 ⟨x, hx, by rw [c, a]⟩)
  rwa [List.length_map, List.length_map] at h3
theorem srt_same {T Y : List CH} {x : CH} (h : SrtR T Y) (hx : fpOf x.2.bs ∈ Y.map (·.1)) : SrtR (T ++ [x]) Y := by
  obtain ⟨h1, h2, h3⟩ := h
  refine ⟨h1, fun e he => ?_, fun y hy => ?_⟩
  · obtain ⟨a, y, b, c⟩ := h2 e he
    exact ⟨a, y, List.mem_append_left _ b, c⟩
  · rcases List.mem_append.1 hy with hy | hy
    · exact h3 y hy
    · rw [List.mem_singleton.1 hy]
      exact hx
section
variable {b : Nat} {w0 w w' : World} {l : List Ob}
set_option maxRecDepth 100000 in
set_option maxHeartbeats 16000000 in
theorem rSortC_any (h : SW b w0 l w) {C : Option Addr} {T : List CH} (hc : cxOb C T ∈ l) {D : Option Addr} {d : Nat} (hd : rowOb 40 1 (.slice D T.length d) T.length (T.flatMap (fun e => encB e.2)) ∈ l) (hn : T.length ≤ 100000) (hb : ∀ e ∈ T, e.2.bs.length ≤ 1048576) :
    Calls Tryz.prog 26 #[.slice D T.length d] w (fun e w' => ∃ (Y : List CH) (B : Option Addr) (bc : Nat), SrtR T Y ∧ Y.length ≤ T.length ∧ e = .returned (.slice B Y.length bc) ∧ SW b w0 (rowOb 42 3 (.slice B Y.length bc) Y.length (Y.flatMap encCH) :: bsOb Y :: l) w') := by
  have HC := Lib.hid hc
  have HD := Lib.hid hd
  have HB := Lib.hid hb
  have S0 : Hid (SW b w0 (rowOb 42 3 (.slice none 0 0) 0 [] :: bsOb [] :: l) w) := SW.front (pre := [_, _]) (SW.bufsBs (SW.noBufs (h.newRow 42 3)) (fun e he => by cases he)) [1, 0] (n := 2) rfl (by decide)
  clear h hc hd hb
  obtain ⟨i1, gi, gz0, gz1, gz2⟩ := info_parts info42
  go_enter Tryz.func26, Tryz.ntmps26
  go_wp2_with fail
  go_loopw [3, 4] (fun s3 s4 wr => ∃ (k : Nat) (Y : List CH) (B : Option Addr) (bc : Nat), k ≤ T.length ∧ s4 = .int .i64 (k : Int) ∧ s3 = .slice B Y.length bc ∧ Hid (SrtR (T.take k) Y ∧ (Y = [] → B = none)) ∧ SW b w0 (rowOb 42 3 (.slice B Y.length bc) Y.length (Y.flatMap encCH) :: bsOb Y :: l) wr) (fun _ s4 _ => T.length - (intOf s4).toNat)
  case atStart => exact ⟨0, [], none, 0, Nat.zero_le _, rfl, rfl, ⟨srt_nil, fun _ => rfl⟩, S0.out⟩
  case round =>
    obtain ⟨k, Y, B, bc, hk, rfl, rfl, HY, hs⟩ := hrel
    have S1 := Lib.hid hs
    clear hs S0
    have hYn : Y.length ≤ k := by
      have h1 := srt_len HY.out.1
      rw [List.length_take] at h1
      omega
    by_cases hlt : k < T.length
    · obtain ⟨⟨ti, e⟩, HTE⟩ : ∃ x, Hid (T.getD k ch0 = x) := ⟨_, rfl⟩
      have HTK : Hid (T.take (k + 1) = T.take k ++ [(ti, e)]) := by rw [Hid, take_snoc _ ch0 _ hlt, HTE.out]
      have hmem : (ti, e) ∈ T := by rw [← HTE.out]; exact getD_mem _ _ _ hlt
      have hel := HB.out _ hmem
      simp only at hel
      obtain ⟨k1, k2, HK⟩ : ∃ a c, Hid (fpOf e.bs = (a, c)) := ⟨_, _, rfl⟩
      obtain ⟨gD, d9, e7⟩ := own_some (S1.out.1.holds _ (.tail _ (.tail _ HD.out))) (by omega)
      injection e7 with e7 e8 e9
      clear e8 e9
      subst e7
      have HCE : Hid (∀ W l', SW b w0 l' W → (∀ o ∈ l, o ∈ l') → gD < W.heap.size ∧ W.cell? ⟨gD, k, none⟩ = some (.slice e.d.A e.bs.length e.d.cap) ∧ RS W e.d.A e.bs) := fun W l' hS hsub => by
        have hrow := hS.1.holds _ (hsub _ HD.out)
        have hcx := (hS.1.holds _ (hsub _ HC.out)).2 _ hmem
        have h1 := flat_at (k := 1) (enc := fun e : CH => encB e.2) (fun _ => rfl) ch0 T k 0 hlt (by omega)
        refine ⟨(hrow.lt gD rfl).2, ?_, hcx.1⟩
        have h2 := hrow.cellAt k (by omega)
        rw [h2, ← hcx.2.1]
        rw [HTE.out] at h1
        simpa [encB] using h1
      obtain ⟨hgD, p0, hrs⟩ := HCE.out _ _ S1.out (fun o ho => .tail _ (.tail _ ho))
      have HMEM := Lib.hid hmem
      clear hmem
      have HOF := Lib.hid (fun (W : World) (h : RS W e.d.A e.bs) => rOf_any e.d.A e.d.cap e.bs W h (by omega))
      rw [HK.out] at HOF
      go_upto_region 5 with fail
      go_cut [5] from 13 to 24 (fun s5 w' => ∃ (gX : Nat) (dA : Option Addr) (dl dk : Nat), s5 = vPtr gX ∧ SW b w0 (cellOb gX 42 #[.int .u64 k1, .int .i64 k2, .slice dA dl dk] :: rowOb 42 3 (.slice B Y.length bc) Y.length (Y.flatMap encCH) :: bufOb ⟨dA, dl, dk⟩ e.bs :: bsOb Y :: l) w')
      case first =>
        have S1d := S1.out.drew
        refine wp_region_tree 12 (.take 0 (.take 1 (.take 2 (.take 3 (.take 5 (.take 6 (.take 7 (.take 8 (.two 4 (.two 9 (.take 10 (.one 11 .nil)) 11 (.one 9 (.take 10 .nil))) 11 (.one 4 (.one 9 (.take 10 .nil)))))))))))) (fun w' => gD < w'.heap.size ∧ w'.cell? ⟨gD, k, none⟩ = some (.slice e.d.A e.bs.length e.d.cap)) (by kernel_rfl) (fun _ _ d _ _ h => by cases d <;> exact h) (by kernel_rfl) (⟨(HCE.out _ _ S1d (fun o ho => .tail _ (.tail _ ho))).1, (HCE.out _ _ S1d (fun o ho => .tail _ (.tail _ ho))).2.1⟩) ?_
        generalize wr.drew = wd at S1d ⊢
        refine wpTr_takeL rfl ?_ (Or.inl ⟨by rfl, ?_⟩) ?_
        rotate_left
        · (intro w' hSw; obtain ⟨h1, h2⟩ := hSw; go_simp; try with_reducible rfl)
        try simp only [Act.put, List.setIfInBounds_toArray, List.set]
        refine wpTr_takeL rfl ?_ (Or.inl ⟨by rfl, ?_⟩) ?_
        rotate_left
        · (intro w' hSw; obtain ⟨h1, h2⟩ := hSw; go_simp; try with_reducible rfl)
        try simp only [Act.put, List.setIfInBounds_toArray, List.set]
        refine wpTr_takeL rfl ?_ (Or.inl ⟨by rfl, ?_⟩) ?_
        rotate_left
        · (intro w' hSw; obtain ⟨h1, h2⟩ := hSw; go_simp; try with_reducible rfl)
        try simp only [Act.put, List.setIfInBounds_toArray, List.set]
        refine wpTr_takeL rfl ?_ (Or.inl ⟨by rfl, ?_⟩) ?_
        rotate_left
        · (intro w' hSw; obtain ⟨h1, h2⟩ := hSw; go_simp; try with_reducible rfl)
        try simp only [Act.put, List.setIfInBounds_toArray, List.set]
        refine wpTr_takeL rfl ?_ (Or.inl ⟨by rfl, ?_⟩) ?_
        rotate_left
        · (intro w' hSw; obtain ⟨h1, h2⟩ := hSw; go_simp; try with_reducible rfl)
        try simp only [Act.put, List.setIfInBounds_toArray, List.set]
        refine wpTr_takeL rfl ?_ (Or.inl ⟨by rfl, ?_⟩) ?_
        rotate_left
        · (intro w' hSw; obtain ⟨h1, h2⟩ := hSw; go_simp; try with_reducible rfl)
        try simp only [Act.put, List.setIfInBounds_toArray, List.set]
        refine wpTr_takeL rfl ?_ (Or.inl ⟨by rfl, ?_⟩) ?_
        rotate_left
        · (intro w' hSw; obtain ⟨h1, h2⟩ := hSw; go_simp; try with_reducible rfl)
        try simp only [Act.put, List.setIfInBounds_toArray, List.set]
        refine wpTr_takeL rfl ?_ (Or.inl ⟨by rfl, ?_⟩) ?_
        rotate_left
        · (intro w' hSw; obtain ⟨h1, h2⟩ := hSw; go_simp; try with_reducible rfl)
        try simp only [Act.put, List.setIfInBounds_toArray, List.set]
        refine wpTr_two ?_ ?_
        · refine wpTr_runL rfl (fun K' hK' => ?_)
          go_simp
          go_at_call 70
          refine (HOF.out _ (HCE.out _ _ S1d (fun o ho => .tail _ (.tail _ ho))).2.2).mono ?_
          rintro e wc1 ⟨rfl, hb1⟩
          have SC1 := S1d.on hb1
          clear hb1
          go_wp2_with fail
          refine hK'.out _ _ (⟨(HCE.out _ _ SC1 (fun o ho => .tail _ (.tail _ ho))).1, (HCE.out _ _ SC1 (fun o ho => .tail _ (.tail _ ho))).2.1⟩) ?_
          clear hK' K'
          try simp only [Act.put, List.setIfInBounds_toArray, List.set]
          refine wpTr_two ?_ ?_
          · refine wpTr_runL rfl (fun K' hK' => ?_)
            have SN2 : SW b w0 (bufOb ⟨none, 0, 0⟩ [] :: rowOb 42 3 (.slice B Y.length bc) Y.length (Y.flatMap encCH) :: bsOb Y :: l) _ := SW.newBuT SC1 (Below.refl _ _) ⟨rfl, Nat.le_refl _, (fun _ => rfl), (fun ad e => by cases e)⟩ (fun g hg => by cases hg)
            refine step_append_bytes (by rfl) (.const (.slice none 0 0)) (.tmp 21) (by rfl) ⟨none, 0, 0⟩ [] (by rfl) (SN2.get 0 (o := bufOb ⟨none, 0, 0⟩ []) rfl) e.d.A e.d.cap e.bs (by rfl) (HCE.out _ _ SC1 (fun o ho => .tail _ (.tail _ ho))).2.2.sb (by simp; omega) ?_
            intro d2 wd2 hl2 ha2
            obtain ⟨dA2, dl2, dk2⟩ := d2
            have SP2 : SW b w0 (bufOb ⟨dA2, dl2, dk2⟩ e.bs :: rowOb 42 3 (.slice B Y.length bc) Y.length (Y.flatMap encCH) :: bsOb Y :: l) wd2 := SN2.appB 0 rfl ha2
            clear ha2 hl2 SN2
            try simp only [vB]
            refine hK'.out _ _ (⟨(HCE.out _ _ SP2 (fun o ho => .tail _ (.tail _ (.tail _ ho)))).1, (HCE.out _ _ SP2 (fun o ho => .tail _ (.tail _ (.tail _ ho)))).2.1⟩) ?_
            clear hK' K'
            try simp only [Act.put, List.setIfInBounds_toArray, List.set]
            refine wpTr_takeL rfl ?_ (Or.inl ⟨by rfl, ?_⟩) ?_
            rotate_left
            · (intro w' hSw; obtain ⟨h1, h2⟩ := hSw; go_simp; try with_reducible rfl)
            try simp only [Act.put, List.setIfInBounds_toArray, List.set]
            refine wpTr_one ?_
            refine wpTr_runL rfl (fun K' hK' => ?_)
            have SA3 : SW b w0 (cellOb _ 42 #[.int .u64 0, .int .i64 0, .slice none 0 0] :: bufOb ⟨dA2, dl2, dk2⟩ e.bs :: rowOb 42 3 (.slice B Y.length bc) Y.length (Y.flatMap encCH) :: bsOb Y :: l) _ := SW.newCell SP2 42 #[.int .u64 0, .int .i64 0, .slice none 0 0]
            go_simp
            refine hK'.out _ _ (⟨(HCE.out _ _ SA3 (fun o ho => .tail _ (.tail _ (.tail _ (.tail _ ho))))).1, (HCE.out _ _ SA3 (fun o ho => .tail _ (.tail _ (.tail _ (.tail _ ho))))).2.1⟩) ?_
            clear hK' K'
            obtain ⟨gn3, wn3, eG3, eW3, SB3⟩ : ∃ gn3 wn3, Hid (_ = gn3) ∧ Hid (_ = wn3) ∧ SW b w0 (cellOb gn3 42 #[.int .u64 0, .int .i64 0, .slice none 0 0] :: bufOb ⟨dA2, dl2, dk2⟩ e.bs :: rowOb 42 3 (.slice B Y.length bc) Y.length (Y.flatMap encCH) :: bsOb Y :: l) wn3 := ⟨_, _, rfl, rfl, SA3⟩
            rw [eG3.out, eW3.out]
            clear eG3 eW3 SA3
            try simp only [Act.put, List.setIfInBounds_toArray, List.set]
            refine wpTr_nil ?_
            simp only [List.drop_succ_cons, List.drop_zero]
            have Z := Lib.hid SB3
            clear SB3
            have z0 := (Z.out.cell 0 rfl).cell 0
            have f0 := (Z.out.cell 0 rfl).frozen 0
            have z1 := (Z.out.cell 0 rfl).cell 1
            have f1 := (Z.out.cell 0 rfl).frozen 1
            have z2 := (Z.out.cell 0 rfl).cell 2
            have f2 := (Z.out.cell 0 rfl).frozen 2
            have Z2 := Lib.hid (((Z.out.setAt 0 rfl 0 (.int .u64 k1)).setAt 0 rfl 1 (.int .i64 k2)).setAt 0 rfl 2 (.slice dA2 dl2 dk2))
            have Z3 : Hid (SW b w0 (cellOb gn3 42 #[.int .u64 k1, .int .i64 k2, .slice dA2 dl2 dk2] :: rowOb 42 3 (.slice B Y.length bc) Y.length (Y.flatMap encCH) :: bufOb ⟨dA2, dl2, dk2⟩ e.bs :: bsOb Y :: l) _) := SW.front (pre := [_, _, _, _]) Z2.out [0, 2, 1, 3] (n := 4) rfl (by decide)
            clear Z Z2
            go_wp2_with fail
            go_meet
            exact ⟨gn3, dA2, dl2, dk2, rfl, Z3.out⟩
          · refine wpTr_runL rfl (fun K' hK' => ?_)
            have SA4 : SW b w0 (cellOb _ 42 #[.int .u64 0, .int .i64 0, .slice none 0 0] :: rowOb 42 3 (.slice B Y.length bc) Y.length (Y.flatMap encCH) :: bsOb Y :: l) _ := SW.newCell SC1 42 #[.int .u64 0, .int .i64 0, .slice none 0 0]
            go_simp
            refine hK'.out _ _ (⟨(HCE.out _ _ SA4 (fun o ho => .tail _ (.tail _ (.tail _ ho)))).1, (HCE.out _ _ SA4 (fun o ho => .tail _ (.tail _ (.tail _ ho)))).2.1⟩) ?_
            clear hK' K'
            obtain ⟨gn4, wn4, eG4, eW4, SB4⟩ : ∃ gn4 wn4, Hid (_ = gn4) ∧ Hid (_ = wn4) ∧ SW b w0 (cellOb gn4 42 #[.int .u64 0, .int .i64 0, .slice none 0 0] :: rowOb 42 3 (.slice B Y.length bc) Y.length (Y.flatMap encCH) :: bsOb Y :: l) wn4 := ⟨_, _, rfl, rfl, SA4⟩
            rw [eG4.out, eW4.out]
            clear eG4 eW4 SA4
            try simp only [Act.put, List.setIfInBounds_toArray, List.set]
            refine wpTr_one ?_
            refine wpTr_runL rfl (fun K' hK' => ?_)
            have SN5 : SW b w0 (bufOb ⟨none, 0, 0⟩ [] :: cellOb gn4 42 #[.int .u64 0, .int .i64 0, .slice none 0 0] :: rowOb 42 3 (.slice B Y.length bc) Y.length (Y.flatMap encCH) :: bsOb Y :: l) _ := SW.newBuT SB4 (Below.refl _ _) ⟨rfl, Nat.le_refl _, (fun _ => rfl), (fun ad e => by cases e)⟩ (fun g hg => by cases hg)
            refine step_append_bytes (by rfl) (.const (.slice none 0 0)) (.tmp 21) (by rfl) ⟨none, 0, 0⟩ [] (by rfl) (SN5.get 0 (o := bufOb ⟨none, 0, 0⟩ []) rfl) e.d.A e.d.cap e.bs (by rfl) (HCE.out _ _ SB4 (fun o ho => .tail _ (.tail _ (.tail _ ho)))).2.2.sb (by simp; omega) ?_
            intro d5 wd5 hl5 ha5
            obtain ⟨dA5, dl5, dk5⟩ := d5
            have SP5 : SW b w0 (bufOb ⟨dA5, dl5, dk5⟩ e.bs :: cellOb gn4 42 #[.int .u64 0, .int .i64 0, .slice none 0 0] :: rowOb 42 3 (.slice B Y.length bc) Y.length (Y.flatMap encCH) :: bsOb Y :: l) wd5 := SN5.appB 0 rfl ha5
            clear ha5 hl5 SN5
            try simp only [vB]
            refine hK'.out _ _ (⟨(HCE.out _ _ SP5 (fun o ho => .tail _ (.tail _ (.tail _ (.tail _ ho))))).1, (HCE.out _ _ SP5 (fun o ho => .tail _ (.tail _ (.tail _ (.tail _ ho))))).2.1⟩) ?_
            clear hK' K'
            try simp only [Act.put, List.setIfInBounds_toArray, List.set]
            refine wpTr_takeL rfl ?_ (Or.inl ⟨by rfl, ?_⟩) ?_
            rotate_left
            · (intro w' hSw; obtain ⟨h1, h2⟩ := hSw; go_simp; try with_reducible rfl)
            try simp only [Act.put, List.setIfInBounds_toArray, List.set]
            refine wpTr_nil ?_
            simp only [List.drop_succ_cons, List.drop_zero]
            have Z := Lib.hid SP5
            clear SP5
            have z0 := (Z.out.cell 1 rfl).cell 0
            have f0 := (Z.out.cell 1 rfl).frozen 0
            have z1 := (Z.out.cell 1 rfl).cell 1
            have f1 := (Z.out.cell 1 rfl).frozen 1
            have z2 := (Z.out.cell 1 rfl).cell 2
            have f2 := (Z.out.cell 1 rfl).frozen 2
            have Z2 := Lib.hid (((Z.out.setAt 1 rfl 0 (.int .u64 k1)).setAt 1 rfl 1 (.int .i64 k2)).setAt 1 rfl 2 (.slice dA5 dl5 dk5))
            have Z3 : Hid (SW b w0 (cellOb gn4 42 #[.int .u64 k1, .int .i64 k2, .slice dA5 dl5 dk5] :: rowOb 42 3 (.slice B Y.length bc) Y.length (Y.flatMap encCH) :: bufOb ⟨dA5, dl5, dk5⟩ e.bs :: bsOb Y :: l) _) := SW.front (pre := [_, _, _, _]) Z2.out [1, 2, 0, 3] (n := 4) rfl (by decide)
            clear Z Z2
            go_wp2_with fail
            go_meet
            exact ⟨gn4, dA5, dl5, dk5, rfl, Z3.out⟩
        · refine wpTr_runL rfl (fun K' hK' => ?_)
          have SA6 : SW b w0 (cellOb _ 42 #[.int .u64 0, .int .i64 0, .slice none 0 0] :: rowOb 42 3 (.slice B Y.length bc) Y.length (Y.flatMap encCH) :: bsOb Y :: l) _ := SW.newCell S1d 42 #[.int .u64 0, .int .i64 0, .slice none 0 0]
          go_simp
          refine hK'.out _ _ (⟨(HCE.out _ _ SA6 (fun o ho => .tail _ (.tail _ (.tail _ ho)))).1, (HCE.out _ _ SA6 (fun o ho => .tail _ (.tail _ (.tail _ ho)))).2.1⟩) ?_
          clear hK' K'
          obtain ⟨gn6, wn6, eG6, eW6, SB6⟩ : ∃ gn6 wn6, Hid (_ = gn6) ∧ Hid (_ = wn6) ∧ SW b w0 (cellOb gn6 42 #[.int .u64 0, .int .i64 0, .slice none 0 0] :: rowOb 42 3 (.slice B Y.length bc) Y.length (Y.flatMap encCH) :: bsOb Y :: l) wn6 := ⟨_, _, rfl, rfl, SA6⟩
          rw [eG6.out, eW6.out]
          clear eG6 eW6 SA6
          try simp only [Act.put, List.setIfInBounds_toArray, List.set]
          refine wpTr_one ?_
          refine wpTr_runL rfl (fun K' hK' => ?_)
          go_simp
          go_at_call 70
          refine (HOF.out _ (HCE.out _ _ SB6 (fun o ho => .tail _ (.tail _ (.tail _ ho)))).2.2).mono ?_
          rintro e wc7 ⟨rfl, hb7⟩
          have SC7 := SB6.on hb7
          clear hb7
          go_wp2_with fail
          refine hK'.out _ _ (⟨(HCE.out _ _ SC7 (fun o ho => .tail _ (.tail _ (.tail _ ho)))).1, (HCE.out _ _ SC7 (fun o ho => .tail _ (.tail _ (.tail _ ho)))).2.1⟩) ?_
          clear hK' K'
          try simp only [Act.put, List.setIfInBounds_toArray, List.set]
          refine wpTr_one ?_
          refine wpTr_runL rfl (fun K' hK' => ?_)
          have SN8 : SW b w0 (bufOb ⟨none, 0, 0⟩ [] :: cellOb gn6 42 #[.int .u64 0, .int .i64 0, .slice none 0 0] :: rowOb 42 3 (.slice B Y.length bc) Y.length (Y.flatMap encCH) :: bsOb Y :: l) _ := SW.newBuT SC7 (Below.refl _ _) ⟨rfl, Nat.le_refl _, (fun _ => rfl), (fun ad e => by cases e)⟩ (fun g hg => by cases hg)
          refine step_append_bytes (by rfl) (.const (.slice none 0 0)) (.tmp 21) (by rfl) ⟨none, 0, 0⟩ [] (by rfl) (SN8.get 0 (o := bufOb ⟨none, 0, 0⟩ []) rfl) e.d.A e.d.cap e.bs (by rfl) (HCE.out _ _ SC7 (fun o ho => .tail _ (.tail _ (.tail _ ho)))).2.2.sb (by simp; omega) ?_
          intro d8 wd8 hl8 ha8
          obtain ⟨dA8, dl8, dk8⟩ := d8
          have SP8 : SW b w0 (bufOb ⟨dA8, dl8, dk8⟩ e.bs :: cellOb gn6 42 #[.int .u64 0, .int .i64 0, .slice none 0 0] :: rowOb 42 3 (.slice B Y.length bc) Y.length (Y.flatMap encCH) :: bsOb Y :: l) wd8 := SN8.appB 0 rfl ha8
          clear ha8 hl8 SN8
          try simp only [vB]
          refine hK'.out _ _ (⟨(HCE.out _ _ SP8 (fun o ho => .tail _ (.tail _ (.tail _ (.tail _ ho))))).1, (HCE.out _ _ SP8 (fun o ho => .tail _ (.tail _ (.tail _ (.tail _ ho))))).2.1⟩) ?_
          clear hK' K'
          try simp only [Act.put, List.setIfInBounds_toArray, List.set]
          refine wpTr_takeL rfl ?_ (Or.inl ⟨by rfl, ?_⟩) ?_
          rotate_left
          · (intro w' hSw; obtain ⟨h1, h2⟩ := hSw; go_simp; try with_reducible rfl)
          try simp only [Act.put, List.setIfInBounds_toArray, List.set]
          refine wpTr_nil ?_
          simp only [List.drop_succ_cons, List.drop_zero]
          have Z := Lib.hid SP8
          clear SP8
          have z0 := (Z.out.cell 1 rfl).cell 0
          have f0 := (Z.out.cell 1 rfl).frozen 0
          have z1 := (Z.out.cell 1 rfl).cell 1
          have f1 := (Z.out.cell 1 rfl).frozen 1
          have z2 := (Z.out.cell 1 rfl).cell 2
          have f2 := (Z.out.cell 1 rfl).frozen 2
          have Z2 := Lib.hid (((Z.out.setAt 1 rfl 0 (.int .u64 k1)).setAt 1 rfl 1 (.int .i64 k2)).setAt 1 rfl 2 (.slice dA8 dl8 dk8))
          have Z3 : Hid (SW b w0 (cellOb gn6 42 #[.int .u64 k1, .int .i64 k2, .slice dA8 dl8 dk8] :: rowOb 42 3 (.slice B Y.length bc) Y.length (Y.flatMap encCH) :: bufOb ⟨dA8, dl8, dk8⟩ e.bs :: bsOb Y :: l) _) := SW.front (pre := [_, _, _, _]) Z2.out [1, 2, 0, 3] (n := 4) rfl (by decide)
          clear Z Z2
          go_wp2_with fail
          go_meet
          exact ⟨gn6, dA8, dl8, dk8, rfl, Z3.out⟩
      case rest =>
        obtain ⟨gX, dA, dl, dk, rfl, s2⟩ := hcut
        obtain ⟨cs, HCS⟩ : ∃ x, Hid (e.bs = x) := ⟨_, rfl⟩
        rw [HCS.out] at s2
        have HF : Hid (fpOf cs = (k1, k2) ∧ ((ti, e) : CH).2.bs = cs) := ⟨by rw [← HCS.out]; exact HK.out, HCS.out⟩
        have S2 := Lib.hid s2
        clear s2 S1 HOF p0 hgD hrs HCE
        go_wp2_with fail
        go_loopw [6] (fun s6 wq => ∃ (j : Nat), j ≤ Y.length ∧ s6 = .int .i64 (j : Int) ∧ Hid (∀ q, q < j → q < Y.length → ltID ((Y.map (·.1)).getD q id0) (k1, k2) = true) ∧ SW b w0 (cellOb gX 42 #[.int .u64 k1, .int .i64 k2, .slice dA dl dk] :: rowOb 42 3 (.slice B Y.length bc) Y.length (Y.flatMap encCH) :: bufOb ⟨dA, dl, dk⟩ cs :: bsOb Y :: l) wq) (fun s6 _ => Y.length - (intOf s6).toNat)
        case atStart => exact ⟨0, Nat.zero_le _, rfl, (fun q hq => absurd hq (Nat.not_lt_zero _)), S2.out⟩
        case round =>
          obtain ⟨j, hj, rfl, HLO, hs⟩ := hrel
          have S3 := Lib.hid hs
          clear hs S2
          have b0 := (S3.out.cell 0 rfl).cell 0
          have b1 := (S3.out.cell 0 rfl).cell 1
          have hlX := (S3.out.cell 0 rfl).lt
          by_cases hjl : j < Y.length
          · obtain ⟨⟨⟨a1, a2⟩, ea⟩, HPJ⟩ : ∃ p, Hid (Y.getD j ch0 = p) := ⟨_, rfl⟩
            have HE2 : Hid ((Y.map (·.1)).getD j id0 = (a1, a2)) := by rw [Hid, getD_fst hjl, HPJ.out]
            obtain ⟨gB, cB, e7⟩ := own_some (S3.out.get 1 rfl) (by omega)
            injection e7 with e7 e8 e9
            clear e8 e9
            subst e7
            have HCB : Hid (∀ W : World, W.ownsRow 0 42 3 (.slice (some ⟨gB, 0, none⟩) Y.length bc) Y.length (Y.flatMap encCH) → gB < W.heap.size ∧ W.cell? ⟨gB, j * 3, none⟩ = some (.int .u64 a1) ∧ W.cell? ⟨gB, j * 3 + 1, none⟩ = some (.int .i64 a2)) := fun W hrow => by
              have cellB : ∀ a v, a < 3 → (encCH ((a1, a2), ea))[a]? = some v → W.cell? ⟨gB, j * 3 + a, none⟩ = some v := fun a v ha hv => by
                rw [hrow.cellAt (j * 3 + a) (by omega), flat_at encCH_len ch0 _ j a (by omega) ha, HPJ.out]
                exact hv
              exact ⟨(hrow.lt gB rfl).2, cellB 0 _ (by omega) rfl, cellB 1 _ (by omega) rfl⟩
            obtain ⟨p2, p0, p1⟩ := HCB.out _ (S3.out.get 1 rfl)
            have HLS := Lib.hid (fun W => Less_any a1 a2 k1 k2 W)
            obtain ⟨v, hv⟩ : ∃ v, ltID (a1, a2) (k1, k2) = v := ⟨_, rfl⟩
            rw [hv] at HLS
            have HVL := Lib.hid hv
            clear hv
            go_upto_region 7 with fail
            refine wp_region_ext (by kernel_rfl) (by kernel_rfl) ?_
            repeat (go_big_quiet_step ((go_at_call 71; exact ext_call (HLS.out _))))
            refine wpQuiet_nil ?_
            intro w4 hb4
            have S4 := Lib.hid (S3.out.on hb4)
            clear hb4 S3 b0 b1 p0 p1 p2 hlX HLS
            cases v with
            | true =>
              have HLO2 : Hid (∀ q, q < j + 1 → q < Y.length → ltID ((Y.map (·.1)).getD q id0) (k1, k2) = true) := fun q hq hql => by
                rcases Nat.lt_or_ge q j with h | h
                · exact HLO.out q h hql
                · obtain rfl : q = j := by omega
                  rw [HE2.out]
                  exact HVL.out
              go_wp2_with fail
              go_roundw
              case rel => exact ⟨j + 1, by omega, by go_num, HLO2.out, S4.out⟩
              case measure => simp [intOf]; omega
            | false =>
              have b0 := (S4.out.cell 0 rfl).cell 0
              have b1 := (S4.out.cell 0 rfl).cell 1
              have hlX := (S4.out.cell 0 rfl).lt
              obtain ⟨p2, p0, p1⟩ := HCB.out _ (S4.out.get 1 rfl)
              by_cases hkk : (a1, a2) = (k1, k2)
              · injection hkk with h1 h2
                have h1 := h1.symm
                subst h1
                have h2 := h2.symm
                subst h2
                go_upto_region 9 with fail
                refine wp_region_ext (by kernel_rfl) (by kernel_rfl) ?_
                repeat (go_big_quiet_step (fail))
                refine wpQuiet_nil ?_
                intro w5 hb5
                have S5 := Lib.hid (S4.out.on hb5)
                clear hb5 S4 b0 b1 p0 p1 p2 hlX
                have HCO : Hid (SrtR (T.take (k + 1)) Y) := by
                  rw [Hid, HTK.out]
                  refine srt_same HY.out.1 ?_
                  rw [HK.out, ← HE2.out]
                  exact getD_mem _ _ _ (by rw [List.length_map]; exact hjl)
                have S6 : Hid (SW b w0 (rowOb 42 3 (.slice (some ⟨gB, 0, none⟩) Y.length bc) Y.length (Y.flatMap encCH) :: bsOb Y :: l) w5) := SW.few (pre := [_, _, _, _]) S5.out [1, 3] (n := 4) rfl (by decide) (by decide)
                clear S5
                go_wp2_with fail
                go_roundw
                case rel => exact ⟨k + 1, Y, some ⟨gB, 0, none⟩, bc, by omega, by go_num, rfl, ⟨HCO.out, HY.out.2⟩, S6.out⟩
                case measure => simp [intOf]; omega
              · have HNK : Hid ((a1, a2) ≠ (k1, k2)) := hkk
                have HHI : Hid (j < Y.length → ltID (k1, k2) ((Y.map (·.1)).getD j id0) = true) := fun _ => by
                  rw [HE2.out]
                  exact ltI_tri HVL.out HNK.out
                have HNK2 : Hid (a1 = k1 → (a2 == k2) = false) := fun e => by rw [beq_eq_false_iff_ne]; exact fun e2 => HNK.out (by rw [e, e2])
                clear hkk
                go_upto_region 9 with fail
                go_cut [53] from 40 to 54 (fun s53 w' => s53 = .bool false ∧ SW b w0 (cellOb gX 42 #[.int .u64 k1, .int .i64 k2, .slice dA dl dk] :: rowOb 42 3 (.slice (some ⟨gB, 0, none⟩) Y.length bc) Y.length (Y.flatMap encCH) :: bufOb ⟨dA, dl, dk⟩ cs :: bsOb Y :: l) w')
                case first =>
                  by_cases h1 : (a1 == k1) = true
                  · have hne := HNK2.out (by rw [beq_iff_eq] at h1; exact h1)
                    refine wp_region_ext (by kernel_rfl) (by kernel_rfl) ?_
                    repeat (go_big_quiet_step (fail))
                    refine wpQuiet_nil ?_
                    intro w5 hb5
                    have S5 := Lib.hid (S4.out.on hb5)
                    go_wp2_with fail
                    go_meet
                    exact ⟨rfl, S5.out⟩
                  · have hne : (a1 == k1) = false := by simpa using h1
                    clear h1
                    refine wp_region_ext (by kernel_rfl) (by kernel_rfl) ?_
                    repeat (go_big_quiet_step (fail))
                    refine wpQuiet_nil ?_
                    intro w5 hb5
                    have S5 := Lib.hid (S4.out.on hb5)
                    go_wp2_with fail
                    go_meet
                    exact ⟨rfl, S5.out⟩
                case rest =>
                  obtain ⟨rfl, s5⟩ := hcut
                  have SX := Lib.hid s5
                  clear s5 S4 b0 b1 p0 p1 p2 hlX
                  rename World => wS
                  have hbc : Y.length ≤ bc := by
                    rcases (SX.out.get 1 rfl : wS.ownsRow 0 42 3 (.slice (some ⟨gB, 0, none⟩) Y.length bc) Y.length (Y.flatMap encCH)).2 with ⟨hv, h0⟩ | ⟨g, cap, cur, hv, _, _, hnc, _⟩
                    · cases hv
                    · injection hv with e1 e2 e3
                      omega
                  have HTL : Hid (((Y.take j).flatMap encCH).length = j * 3) := by rw [Hid, flat_len encCH_len, List.length_take]; congr 1; omega
                  have HTD : Hid (((Y.drop j).flatMap encCH).length = (Y.length - j) * 3) := by rw [Hid, flat_len encCH_len, List.length_drop]
                  have HST : Hid (∀ W : World, W.ownsRow 0 42 3 (.slice (some ⟨gB, 0, none⟩) Y.length bc) Y.length (Y.flatMap encCH) → ∀ (a : Nat) (u : Value), ((Y.take j).flatMap encCH)[a]? = some u → W.cell? ((⟨gB, 0, none⟩ : Addr).add a) = some u) := fun W h => by
                    have := row_part encCH_len h 0 j (by omega)
                    rw [List.drop_zero, Nat.zero_mul] at this
                    exact this
                  have HSD : Hid (∀ W : World, W.ownsRow 0 42 3 (.slice (some ⟨gB, 0, none⟩) Y.length bc) Y.length (Y.flatMap encCH) → ∀ (a : Nat) (u : Value), ((Y.drop j).flatMap encCH)[a]? = some u → W.cell? ((⟨gB, j * 3, none⟩ : Addr).add a) = some u) := fun W h => by
                    have := row_part encCH_len h j (Y.length - j) (by omega)
                    rw [List.take_of_length_le (by rw [List.length_drop]; omega)] at this
                    exact this
                  have b0 := (SX.out.cell 0 rfl).cell 0
                  have b1 := (SX.out.cell 0 rfl).cell 1
                  have b2 := (SX.out.cell 0 rfl).cell 2
                  have hjb : j ≤ bc := by omega
                  have hcl : j < bc := by omega
                  have hcn : ¬ bc = j := by omega
                  go_wp2_with fail
                  go_region_law ((try simp only [Act.put, List.getElem_toArray, List.getElem_cons_succ, List.getElem_cons_zero, List.setIfInBounds_toArray, List.set]); first
                    | (refine step_rowA (t := 23) (e := 42) (size := 3) (bytes := 40) (i := i1) (SX.out.drew.newRow 42 3) 0 rfl (by rfl) (.const (.slice none 0 0)) (.tmp 56) (by rfl) Tryz.underlying23 gi gz0 gz1 gz2 rfl (by omega) (by rfl) (some ⟨gB, 0, none⟩) j bc ((Y.take j).flatMap encCH) (by rfl) HTL.out (fun _ => ⟨_, rfl, HST.out _ (SX.out.drew.get 1 rfl)⟩) (row_all encCH_one _) (by unfold maxLen; omega) (by omega) ?_; intro v2 w2 s2; have S2a : Hid (SW b w0 (rowOb 42 3 v2 (0 + j) ([] ++ ((Y.take j).flatMap encCH)) :: cellOb gX 42 #[.int .u64 k1, .int .i64 k2, .slice dA dl dk] :: rowOb 42 3 (.slice (some ⟨gB, 0, none⟩) Y.length bc) Y.length (Y.flatMap encCH) :: bufOb ⟨dA, dl, dk⟩ cs :: bsOb Y :: l) w2) := s2; clear s2; have b0 := (S2a.out.cell 1 rfl).cell 0; have b1 := (S2a.out.cell 1 rfl).cell 1; have b2 := (S2a.out.cell 1 rfl).cell 2)
                    | (refine step_rowA (t := 23) (e := 42) (size := 3) (bytes := 40) (i := i1) ((SX.out.newCell 42 #[.int .u64 k1, .int .i64 k2, .slice dA dl dk]).drew.newRow 42 3) 0 rfl (by rfl) (.const (.slice none 0 0)) (.tmp 56) (by rfl) Tryz.underlying23 gi gz0 gz1 gz2 rfl (by omega) (by rfl) (some ⟨gB, 0, none⟩) j bc ((Y.take j).flatMap encCH) (by rfl) HTL.out (fun _ => ⟨_, rfl, HST.out _ ((SX.out.newCell 42 #[.int .u64 k1, .int .i64 k2, .slice dA dl dk]).drew.get 2 rfl)⟩) (row_all encCH_one _) (by unfold maxLen; omega) (by omega) ?_; intro v2 w2 s2; have S2b : Hid (SW b w0 (rowOb 42 3 v2 (0 + j) ([] ++ ((Y.take j).flatMap encCH)) :: cellOb wS.heap.size 42 #[.int .u64 k1, .int .i64 k2, .slice dA dl dk] :: cellOb gX 42 #[.int .u64 k1, .int .i64 k2, .slice dA dl dk] :: rowOb 42 3 (.slice (some ⟨gB, 0, none⟩) Y.length bc) Y.length (Y.flatMap encCH) :: bufOb ⟨dA, dl, dk⟩ cs :: bsOb Y :: l) w2) := s2; clear s2)
                    | (refine step_rowA (t := 23) (e := 42) (size := 3) (bytes := 40) (i := i1) (S2a.out.newCell 42 #[.int .u64 k1, .int .i64 k2, .slice dA dl dk]) 1 rfl (by rfl) (.tmp 57) (.tmp 59) (by rfl) Tryz.underlying23 gi gz0 gz1 gz2 rfl (by omega) (by rfl) (some ⟨w2.heap.size, 0, none⟩) 1 1 [.int .u64 k1, .int .i64 k2, .slice dA dl dk] (by rfl) rfl (fun _ => ⟨_, rfl, mthree_new _ _ _ _ _ _ rfl⟩) (encCH_one ((k1, k2), (⟨⟨dA, dl, dk⟩, cs⟩ : BS))) (by unfold maxLen; omega) (by omega) ?_; intro v3 w3 s3; have S3 : Hid (SW b w0 (rowOb 42 3 v3 (0 + j + 1) ([] ++ ((Y.take j).flatMap encCH) ++ [.int .u64 k1, .int .i64 k2, .slice dA dl dk]) :: cellOb gX 42 #[.int .u64 k1, .int .i64 k2, .slice dA dl dk] :: rowOb 42 3 (.slice (some ⟨gB, 0, none⟩) Y.length bc) Y.length (Y.flatMap encCH) :: bufOb ⟨dA, dl, dk⟩ cs :: bsOb Y :: l) w3) := s3.tail; clear s3)
                    | (refine step_rowA (t := 23) (e := 42) (size := 3) (bytes := 40) (i := i1) S2b.out 0 rfl (by rfl) (.tmp 57) (.tmp 59) (by rfl) Tryz.underlying23 gi gz0 gz1 gz2 rfl (by omega) (by rfl) (some ⟨wS.heap.size, 0, none⟩) 1 1 [.int .u64 k1, .int .i64 k2, .slice dA dl dk] (by rfl) rfl (fun _ => ⟨_, rfl, cell3_src (S2b.out.cell 1 rfl)⟩) (encCH_one ((k1, k2), (⟨⟨dA, dl, dk⟩, cs⟩ : BS))) (by unfold maxLen; omega) (by omega) ?_; intro v3 w3 s3; have S3 : Hid (SW b w0 (rowOb 42 3 v3 (0 + j + 1) ([] ++ ((Y.take j).flatMap encCH) ++ [.int .u64 k1, .int .i64 k2, .slice dA dl dk]) :: cellOb gX 42 #[.int .u64 k1, .int .i64 k2, .slice dA dl dk] :: rowOb 42 3 (.slice (some ⟨gB, 0, none⟩) Y.length bc) Y.length (Y.flatMap encCH) :: bufOb ⟨dA, dl, dk⟩ cs :: bsOb Y :: l) w3) := SW.sub s3 (.cons_cons _ (.cons _ (List.Sublist.refl _))); clear s3)
                    | (refine step_rowA (t := 23) (e := 42) (size := 3) (bytes := 40) (i := i1) S3.out 0 rfl (by rfl) (.tmp 60) (.tmp 63) (by rfl) Tryz.underlying23 gi gz0 gz1 gz2 rfl (by omega) (by rfl) (some ⟨gB, j * 3, none⟩) (Y.length - j) (bc - j) ((Y.drop j).flatMap encCH) (by rfl) HTD.out (fun _ => ⟨_, rfl, HSD.out _ (S3.out.get 2 rfl)⟩) (row_all encCH_one _) (by unfold maxLen; omega) (by omega) ?_; intro v4 w4 s4; have S4 := Lib.hid s4; clear s4))
                  all_goals (
                    obtain ⟨Y', HY'⟩ : ∃ y, Hid (Y.take j ++ ((((k1, k2), (⟨⟨dA, dl, dk⟩, cs⟩ : BS)) : CH)) :: Y.drop j = y) := ⟨_, rfl⟩
                    have HLEN : Hid (0 + j + 1 + (Y.length - j) = Y'.length) := by rw [Hid, ← HY'.out, List.length_append, List.length_cons, List.length_take, List.length_drop]; omega
                    have HENC : Hid ([] ++ ((Y.take j).flatMap encCH) ++ [.int .u64 k1, .int .i64 k2, .slice dA dl dk] ++ ((Y.drop j).flatMap encCH) = Y'.flatMap encCH) := by rw [Hid, ← HY'.out]; simp [List.flatMap_append, encCH, vBS]
                    have HSUB : Hid (∀ e, e ∈ Y' ↔ e ∈ Y ++ [(((k1, k2), (⟨⟨dA, dl, dk⟩, cs⟩ : BS)) : CH)]) := fun e => by
                      rw [← HY'.out]
                      exact ins_mem _ _ _ _
                    obtain ⟨A4, c4, rfl⟩ := own_slice (S4.out.get 0 rfl)
                    rw [HLEN.out, HENC.out] at S4
                    have S5 : Hid (SW b w0 (rowOb 42 3 (.slice A4 Y'.length c4) Y'.length (Y'.flatMap encCH) :: bsOb Y' :: l) w4) := by
                      have h1 := SW.few (pre := [_, _, _, _, _]) S4.out [3, 4, 0] (n := 5) rfl (by decide) (by decide)
                      have h2 := SW.bsSub (S' := Y') (SW.bsSnoc h1 (k1, k2)) (fun e he => (HSUB.out e).1 he)
                      exact SW.front (pre := [_, _]) h2 [1, 0] (n := 2) rfl (by decide)
                    have HCO : Hid (SrtR (T.take (k + 1)) Y' ∧ (Y' = [] → A4 = none)) := by
                      refine ⟨?_, fun e => ?_⟩
                      · rw [HTK.out, ← HY'.out]
                        exact srt_ins HY.out.1 HLO.out HHI.out HF.out
                      · rw [← HY'.out] at e
                        simp at e
                    clear S4
                    rw [HLEN.out]
                    go_wp2_with fail
                    go_roundw
                    case rel => exact ⟨k + 1, Y', A4, c4, by omega, by go_num, rfl, HCO.out, S5.out⟩
                    case measure => simp [intOf]; omega)
          · have hjY : j = Y.length := by omega
            have hdj : decide (j < Y.length) = false := decide_eq_false hjl
            go_upto_region 7 with fail
            refine wp_region_ext (by kernel_rfl) (by kernel_rfl) ?_
            repeat (go_big_quiet_step (fail))
            refine wpQuiet_nil ?_
            intro w4 hb4
            have S4 := Lib.hid (S3.out.on hb4)
            clear hb4 S3 b0 b1 hlX
            go_upto_region 9 with fail
            refine wp_region_ext (by kernel_rfl) (by kernel_rfl) ?_
            repeat (go_big_quiet_step (fail))
            refine wpQuiet_nil ?_
            intro wS hb5
            have SX := Lib.hid (S4.out.on hb5)
            clear hb5 S4
            by_cases hY0 : Y = []
            · have hB0 := HY.out.2 hY0
              subst hY0
              subst hB0
              obtain rfl : j = 0 := hjY
              have HHI : Hid (0 < ([] : List CH).length → ltID (k1, k2) ((([] : List CH).map (·.1)).getD 0 id0) = true) := fun h => absurd h (Nat.lt_irrefl 0)
              have HNIL9 : Hid (bc = 0) := by
                rcases (SX.out.get 1 rfl : wS.ownsRow 0 42 3 (.slice none 0 bc) 0 []).2 with ⟨hv, _⟩ | ⟨g, cap, cur, hv, _⟩
                · injection hv
                · cases hv
              obtain rfl : bc = 0 := HNIL9.out
              have b0 := (SX.out.cell 0 rfl).cell 0
              have b1 := (SX.out.cell 0 rfl).cell 1
              have b2 := (SX.out.cell 0 rfl).cell 2
              go_wp2_with fail
              go_region_law ((try simp only [Act.put, List.getElem_toArray, List.getElem_cons_succ, List.getElem_cons_zero, List.setIfInBounds_toArray, List.set]); first
                | (refine step_rowA (t := 23) (e := 42) (size := 3) (bytes := 40) (i := i1) (SX.out.drew.newRow 42 3) 0 rfl (by rfl) (.const (.slice none 0 0)) (.tmp 56) (by rfl) Tryz.underlying23 gi gz0 gz1 gz2 rfl (by omega) (by rfl) none 0 0 ([] : List Value) (by rfl) rfl (fun h => absurd h (Nat.lt_irrefl 0)) (by intro u hu; cases hu) (by unfold maxLen; omega) (by omega) ?_; intro v2 w2 s2; have S2a : Hid (SW b w0 (rowOb 42 3 v2 (0 + 0) ([] ++ ([] : List Value)) :: cellOb gX 42 #[.int .u64 k1, .int .i64 k2, .slice dA dl dk] :: rowOb 42 3 (.slice none 0 0) 0 ([] : List Value) :: bufOb ⟨dA, dl, dk⟩ cs :: bsOb ([] : List CH) :: l) w2) := s2; clear s2; have b0 := (S2a.out.cell 1 rfl).cell 0; have b1 := (S2a.out.cell 1 rfl).cell 1; have b2 := (S2a.out.cell 1 rfl).cell 2)
                | (refine step_rowA (t := 23) (e := 42) (size := 3) (bytes := 40) (i := i1) ((SX.out.newCell 42 #[.int .u64 k1, .int .i64 k2, .slice dA dl dk]).drew.newRow 42 3) 0 rfl (by rfl) (.const (.slice none 0 0)) (.tmp 56) (by rfl) Tryz.underlying23 gi gz0 gz1 gz2 rfl (by omega) (by rfl) none 0 0 ([] : List Value) (by rfl) rfl (fun h => absurd h (Nat.lt_irrefl 0)) (by intro u hu; cases hu) (by unfold maxLen; omega) (by omega) ?_; intro v2 w2 s2; have S2b : Hid (SW b w0 (rowOb 42 3 v2 (0 + 0) ([] ++ ([] : List Value)) :: cellOb wS.heap.size 42 #[.int .u64 k1, .int .i64 k2, .slice dA dl dk] :: cellOb gX 42 #[.int .u64 k1, .int .i64 k2, .slice dA dl dk] :: rowOb 42 3 (.slice none 0 0) 0 ([] : List Value) :: bufOb ⟨dA, dl, dk⟩ cs :: bsOb ([] : List CH) :: l) w2) := s2; clear s2)
                | (refine step_rowA (t := 23) (e := 42) (size := 3) (bytes := 40) (i := i1) (S2a.out.newCell 42 #[.int .u64 k1, .int .i64 k2, .slice dA dl dk]) 1 rfl (by rfl) (.tmp 57) (.tmp 59) (by rfl) Tryz.underlying23 gi gz0 gz1 gz2 rfl (by omega) (by rfl) (some ⟨w2.heap.size, 0, none⟩) 1 1 [.int .u64 k1, .int .i64 k2, .slice dA dl dk] (by rfl) rfl (fun _ => ⟨_, rfl, mthree_new _ _ _ _ _ _ rfl⟩) (encCH_one ((k1, k2), (⟨⟨dA, dl, dk⟩, cs⟩ : BS))) (by unfold maxLen; omega) (by omega) ?_; intro v3 w3 s3; have S3 : Hid (SW b w0 (rowOb 42 3 v3 (0 + 0 + 1) ([] ++ ([] : List Value) ++ [.int .u64 k1, .int .i64 k2, .slice dA dl dk]) :: cellOb gX 42 #[.int .u64 k1, .int .i64 k2, .slice dA dl dk] :: rowOb 42 3 (.slice none 0 0) 0 ([] : List Value) :: bufOb ⟨dA, dl, dk⟩ cs :: bsOb ([] : List CH) :: l) w3) := s3.tail; clear s3)
                | (refine step_rowA (t := 23) (e := 42) (size := 3) (bytes := 40) (i := i1) S2b.out 0 rfl (by rfl) (.tmp 57) (.tmp 59) (by rfl) Tryz.underlying23 gi gz0 gz1 gz2 rfl (by omega) (by rfl) (some ⟨wS.heap.size, 0, none⟩) 1 1 [.int .u64 k1, .int .i64 k2, .slice dA dl dk] (by rfl) rfl (fun _ => ⟨_, rfl, cell3_src (S2b.out.cell 1 rfl)⟩) (encCH_one ((k1, k2), (⟨⟨dA, dl, dk⟩, cs⟩ : BS))) (by unfold maxLen; omega) (by omega) ?_; intro v3 w3 s3; have S3 : Hid (SW b w0 (rowOb 42 3 v3 (0 + 0 + 1) ([] ++ ([] : List Value) ++ [.int .u64 k1, .int .i64 k2, .slice dA dl dk]) :: cellOb gX 42 #[.int .u64 k1, .int .i64 k2, .slice dA dl dk] :: rowOb 42 3 (.slice none 0 0) 0 ([] : List Value) :: bufOb ⟨dA, dl, dk⟩ cs :: bsOb ([] : List CH) :: l) w3) := SW.sub s3 (.cons_cons _ (.cons _ (List.Sublist.refl _))); clear s3)
                | (refine step_rowA (t := 23) (e := 42) (size := 3) (bytes := 40) (i := i1) S3.out 0 rfl (by rfl) (.tmp 60) (.tmp 63) (by rfl) Tryz.underlying23 gi gz0 gz1 gz2 rfl (by omega) (by rfl) none 0 0 ([] : List Value) (by rfl) rfl (fun h => absurd h (Nat.lt_irrefl 0)) (by intro u hu; cases hu) (by unfold maxLen; omega) (by omega) ?_; intro v4 w4 s4; have S4 := Lib.hid s4; clear s4))
              all_goals (
                obtain ⟨Y', HY'⟩ : ∃ y, Hid (([] : List CH) ++ ((((k1, k2), (⟨⟨dA, dl, dk⟩, cs⟩ : BS)) : CH)) :: ([] : List CH) = y) := ⟨_, rfl⟩
                have HLEN : Hid (0 + 0 + 1 + 0 = Y'.length) := by rw [Hid, ← HY'.out]; rfl
                have HENC : Hid ([] ++ ([] : List Value) ++ [.int .u64 k1, .int .i64 k2, .slice dA dl dk] ++ [] = Y'.flatMap encCH) := by rw [Hid, ← HY'.out]; simp [List.flatMap_append, encCH, vBS]
                have HSUB : Hid (∀ e, e ∈ Y' ↔ e ∈ ([] : List CH) ++ [(((k1, k2), (⟨⟨dA, dl, dk⟩, cs⟩ : BS)) : CH)]) := fun e => by
                  rw [← HY'.out]
                  try exact Iff.rfl
                obtain ⟨A4, c4, rfl⟩ := own_slice (S4.out.get 0 rfl)
                rw [HLEN.out, HENC.out] at S4
                have S5 : Hid (SW b w0 (rowOb 42 3 (.slice A4 Y'.length c4) Y'.length (Y'.flatMap encCH) :: bsOb Y' :: l) w4) := by
                  have h1 := SW.few (pre := [_, _, _, _, _]) S4.out [3, 4, 0] (n := 5) rfl (by decide) (by decide)
                  have h2 := SW.bsSub (S' := Y') (SW.bsSnoc h1 (k1, k2)) (fun e he => (HSUB.out e).1 he)
                  exact SW.front (pre := [_, _]) h2 [1, 0] (n := 2) rfl (by decide)
                have HCO : Hid (SrtR (T.take (k + 1)) Y' ∧ (Y' = [] → A4 = none)) := by
                  refine ⟨?_, fun e => ?_⟩
                  · rw [HTK.out, ← HY'.out]
                    exact srt_ins (j := 0) HY.out.1 HLO.out HHI.out HF.out
                  · rw [← HY'.out] at e
                    simp at e
                clear S4
                rw [HLEN.out]
                go_wp2_with fail
                go_roundw
                case rel => exact ⟨k + 1, Y', A4, c4, by omega, by go_num, rfl, HCO.out, S5.out⟩
                case measure => simp [intOf]; omega)
            · have hYp : 0 < Y.length := List.length_pos_iff.2 hY0
              obtain rfl : j = Y.length := hjY
              obtain ⟨gB, cB, e7⟩ := own_some (SX.out.get 1 rfl) (by omega)
              injection e7 with e7 e8 e9
              clear e8 e9
              subst e7
              have HHI : Hid (Y.length < Y.length → ltID (k1, k2) ((Y.map (·.1)).getD Y.length id0) = true) := fun h => absurd h (Nat.lt_irrefl _)
              have hbc : Y.length ≤ bc := by
                rcases (SX.out.get 1 rfl : wS.ownsRow 0 42 3 (.slice (some ⟨gB, 0, none⟩) Y.length bc) Y.length (Y.flatMap encCH)).2 with ⟨hv, h0⟩ | ⟨g, cap, cur, hv, _, _, hnc, _⟩
                · cases hv
                · injection hv with e1 e2 e3
                  omega
              have HTL : Hid (((Y.take Y.length).flatMap encCH).length = Y.length * 3) := by rw [Hid, flat_len encCH_len, List.length_take]; congr 1; omega
              have HTD : Hid (((Y.drop Y.length).flatMap encCH).length = (Y.length - Y.length) * 3) := by rw [Hid, flat_len encCH_len, List.length_drop]
              have HST : Hid (∀ W : World, W.ownsRow 0 42 3 (.slice (some ⟨gB, 0, none⟩) Y.length bc) Y.length (Y.flatMap encCH) → ∀ (a : Nat) (u : Value), ((Y.take Y.length).flatMap encCH)[a]? = some u → W.cell? ((⟨gB, 0, none⟩ : Addr).add a) = some u) := fun W h => by
                have := row_part encCH_len h 0 Y.length (by omega)
                rw [List.drop_zero, Nat.zero_mul] at this
                exact this
              have HSD : Hid (∀ W : World, W.ownsRow 0 42 3 (.slice (some ⟨gB, 0, none⟩) Y.length bc) Y.length (Y.flatMap encCH) → ∀ (a : Nat) (u : Value), ((Y.drop Y.length).flatMap encCH)[a]? = some u → W.cell? ((⟨gB, Y.length * 3, none⟩ : Addr).add a) = some u) := fun W h => by
                have := row_part encCH_len h Y.length (Y.length - Y.length) (by omega)
                rw [List.take_of_length_le (by rw [List.length_drop]; omega)] at this
                exact this
              have b0 := (SX.out.cell 0 rfl).cell 0
              have b1 := (SX.out.cell 0 rfl).cell 1
              have b2 := (SX.out.cell 0 rfl).cell 2
              have hjb : Y.length ≤ bc := by omega
              by_cases hcq : bc = Y.length
              · subst hcq
                have HDR : Hid (Y.drop Y.length = []) := List.drop_eq_nil_of_le (Nat.le_refl _)
                go_wp2_with fail
                go_region_law ((try simp only [Act.put, List.getElem_toArray, List.getElem_cons_succ, List.getElem_cons_zero, List.setIfInBounds_toArray, List.set]); first
                  | (refine step_rowA (t := 23) (e := 42) (size := 3) (bytes := 40) (i := i1) (SX.out.drew.newRow 42 3) 0 rfl (by rfl) (.const (.slice none 0 0)) (.tmp 56) (by rfl) Tryz.underlying23 gi gz0 gz1 gz2 rfl (by omega) (by rfl) (some ⟨gB, 0, none⟩) Y.length Y.length ((Y.take Y.length).flatMap encCH) (by rfl) HTL.out (fun _ => ⟨_, rfl, HST.out _ (SX.out.drew.get 1 rfl)⟩) (row_all encCH_one _) (by unfold maxLen; omega) (by omega) ?_; intro v2 w2 s2; have S2a : Hid (SW b w0 (rowOb 42 3 v2 (0 + Y.length) ([] ++ ((Y.take Y.length).flatMap encCH)) :: cellOb gX 42 #[.int .u64 k1, .int .i64 k2, .slice dA dl dk] :: rowOb 42 3 (.slice (some ⟨gB, 0, none⟩) Y.length Y.length) Y.length (Y.flatMap encCH) :: bufOb ⟨dA, dl, dk⟩ cs :: bsOb Y :: l) w2) := s2; clear s2; have b0 := (S2a.out.cell 1 rfl).cell 0; have b1 := (S2a.out.cell 1 rfl).cell 1; have b2 := (S2a.out.cell 1 rfl).cell 2)
                  | (refine step_rowA (t := 23) (e := 42) (size := 3) (bytes := 40) (i := i1) ((SX.out.newCell 42 #[.int .u64 k1, .int .i64 k2, .slice dA dl dk]).drew.newRow 42 3) 0 rfl (by rfl) (.const (.slice none 0 0)) (.tmp 56) (by rfl) Tryz.underlying23 gi gz0 gz1 gz2 rfl (by omega) (by rfl) (some ⟨gB, 0, none⟩) Y.length Y.length ((Y.take Y.length).flatMap encCH) (by rfl) HTL.out (fun _ => ⟨_, rfl, HST.out _ ((SX.out.newCell 42 #[.int .u64 k1, .int .i64 k2, .slice dA dl dk]).drew.get 2 rfl)⟩) (row_all encCH_one _) (by unfold maxLen; omega) (by omega) ?_; intro v2 w2 s2; have S2b : Hid (SW b w0 (rowOb 42 3 v2 (0 + Y.length) ([] ++ ((Y.take Y.length).flatMap encCH)) :: cellOb wS.heap.size 42 #[.int .u64 k1, .int .i64 k2, .slice dA dl dk] :: cellOb gX 42 #[.int .u64 k1, .int .i64 k2, .slice dA dl dk] :: rowOb 42 3 (.slice (some ⟨gB, 0, none⟩) Y.length Y.length) Y.length (Y.flatMap encCH) :: bufOb ⟨dA, dl, dk⟩ cs :: bsOb Y :: l) w2) := s2; clear s2)
                  | (refine step_rowA (t := 23) (e := 42) (size := 3) (bytes := 40) (i := i1) (S2a.out.newCell 42 #[.int .u64 k1, .int .i64 k2, .slice dA dl dk]) 1 rfl (by rfl) (.tmp 57) (.tmp 59) (by rfl) Tryz.underlying23 gi gz0 gz1 gz2 rfl (by omega) (by rfl) (some ⟨w2.heap.size, 0, none⟩) 1 1 [.int .u64 k1, .int .i64 k2, .slice dA dl dk] (by rfl) rfl (fun _ => ⟨_, rfl, mthree_new _ _ _ _ _ _ rfl⟩) (encCH_one ((k1, k2), (⟨⟨dA, dl, dk⟩, cs⟩ : BS))) (by unfold maxLen; omega) (by omega) ?_; intro v3 w3 s3; have S3 : Hid (SW b w0 (rowOb 42 3 v3 (0 + Y.length + 1) ([] ++ ((Y.take Y.length).flatMap encCH) ++ [.int .u64 k1, .int .i64 k2, .slice dA dl dk]) :: cellOb gX 42 #[.int .u64 k1, .int .i64 k2, .slice dA dl dk] :: rowOb 42 3 (.slice (some ⟨gB, 0, none⟩) Y.length Y.length) Y.length (Y.flatMap encCH) :: bufOb ⟨dA, dl, dk⟩ cs :: bsOb Y :: l) w3) := s3.tail; clear s3)
                  | (refine step_rowA (t := 23) (e := 42) (size := 3) (bytes := 40) (i := i1) S2b.out 0 rfl (by rfl) (.tmp 57) (.tmp 59) (by rfl) Tryz.underlying23 gi gz0 gz1 gz2 rfl (by omega) (by rfl) (some ⟨wS.heap.size, 0, none⟩) 1 1 [.int .u64 k1, .int .i64 k2, .slice dA dl dk] (by rfl) rfl (fun _ => ⟨_, rfl, cell3_src (S2b.out.cell 1 rfl)⟩) (encCH_one ((k1, k2), (⟨⟨dA, dl, dk⟩, cs⟩ : BS))) (by unfold maxLen; omega) (by omega) ?_; intro v3 w3 s3; have S3 : Hid (SW b w0 (rowOb 42 3 v3 (0 + Y.length + 1) ([] ++ ((Y.take Y.length).flatMap encCH) ++ [.int .u64 k1, .int .i64 k2, .slice dA dl dk]) :: cellOb gX 42 #[.int .u64 k1, .int .i64 k2, .slice dA dl dk] :: rowOb 42 3 (.slice (some ⟨gB, 0, none⟩) Y.length Y.length) Y.length (Y.flatMap encCH) :: bufOb ⟨dA, dl, dk⟩ cs :: bsOb Y :: l) w3) := SW.sub s3 (.cons_cons _ (.cons _ (List.Sublist.refl _))); clear s3)
                  | (refine step_rowA (t := 23) (e := 42) (size := 3) (bytes := 40) (i := i1) S3.out 0 rfl (by rfl) (.tmp 60) (.tmp 63) (by rfl) Tryz.underlying23 gi gz0 gz1 gz2 rfl (by omega) (by rfl) (some ⟨gB, 0, none⟩) 0 0 ([] : List Value) (by rfl) rfl (fun h => absurd h (Nat.lt_irrefl 0)) (by intro u hu; cases hu) (by unfold maxLen; omega) (by omega) ?_; intro v4 w4 s4; have S4 := Lib.hid s4; clear s4))
                all_goals (
                  obtain ⟨Y', HY'⟩ : ∃ y, Hid (Y.take Y.length ++ ((((k1, k2), (⟨⟨dA, dl, dk⟩, cs⟩ : BS)) : CH)) :: Y.drop Y.length = y) := ⟨_, rfl⟩
                  have HLEN : Hid (0 + Y.length + 1 + 0 = Y'.length) := by rw [Hid, ← HY'.out, List.length_append, List.length_cons, List.length_take, List.length_drop]; omega
                  have HENC : Hid ([] ++ ((Y.take Y.length).flatMap encCH) ++ [.int .u64 k1, .int .i64 k2, .slice dA dl dk] ++ [] = Y'.flatMap encCH) := by rw [Hid, ← HY'.out]; simp [List.flatMap_append, encCH, vBS, HDR.out]
                  have HSUB : Hid (∀ e, e ∈ Y' ↔ e ∈ Y ++ [(((k1, k2), (⟨⟨dA, dl, dk⟩, cs⟩ : BS)) : CH)]) := fun e => by
                    rw [← HY'.out]
                    exact ins_mem _ _ _ _
                  obtain ⟨A4, c4, rfl⟩ := own_slice (S4.out.get 0 rfl)
                  rw [HLEN.out, HENC.out] at S4
                  have S5 : Hid (SW b w0 (rowOb 42 3 (.slice A4 Y'.length c4) Y'.length (Y'.flatMap encCH) :: bsOb Y' :: l) w4) := by
                    have h1 := SW.few (pre := [_, _, _, _, _]) S4.out [3, 4, 0] (n := 5) rfl (by decide) (by decide)
                    have h2 := SW.bsSub (S' := Y') (SW.bsSnoc h1 (k1, k2)) (fun e he => (HSUB.out e).1 he)
                    exact SW.front (pre := [_, _]) h2 [1, 0] (n := 2) rfl (by decide)
                  have HCO : Hid (SrtR (T.take (k + 1)) Y' ∧ (Y' = [] → A4 = none)) := by
                    refine ⟨?_, fun e => ?_⟩
                    · rw [HTK.out, ← HY'.out]
                      exact srt_ins HY.out.1 HLO.out HHI.out HF.out
                    · rw [← HY'.out] at e
                      simp at e
                  clear S4
                  rw [HLEN.out]
                  go_wp2_with fail
                  go_roundw
                  case rel => exact ⟨k + 1, Y', A4, c4, by omega, by go_num, rfl, HCO.out, S5.out⟩
                  case measure => simp [intOf]; omega)
              · have hcl : Y.length < bc := by omega
                have hcn : ¬ bc = Y.length := hcq
                have HDR : Hid (Y.drop Y.length = []) := List.drop_eq_nil_of_le (Nat.le_refl _)
                have hdz : Y.length - Y.length = 0 := by omega
                go_wp2_with fail
                go_region_law ((try simp only [Act.put, List.getElem_toArray, List.getElem_cons_succ, List.getElem_cons_zero, List.setIfInBounds_toArray, List.set]); first
                  | (refine step_rowA (t := 23) (e := 42) (size := 3) (bytes := 40) (i := i1) (SX.out.drew.newRow 42 3) 0 rfl (by rfl) (.const (.slice none 0 0)) (.tmp 56) (by rfl) Tryz.underlying23 gi gz0 gz1 gz2 rfl (by omega) (by rfl) (some ⟨gB, 0, none⟩) Y.length bc ((Y.take Y.length).flatMap encCH) (by rfl) HTL.out (fun _ => ⟨_, rfl, HST.out _ (SX.out.drew.get 1 rfl)⟩) (row_all encCH_one _) (by unfold maxLen; omega) (by omega) ?_; intro v2 w2 s2; have S2a : Hid (SW b w0 (rowOb 42 3 v2 (0 + Y.length) ([] ++ ((Y.take Y.length).flatMap encCH)) :: cellOb gX 42 #[.int .u64 k1, .int .i64 k2, .slice dA dl dk] :: rowOb 42 3 (.slice (some ⟨gB, 0, none⟩) Y.length bc) Y.length (Y.flatMap encCH) :: bufOb ⟨dA, dl, dk⟩ cs :: bsOb Y :: l) w2) := s2; clear s2; have b0 := (S2a.out.cell 1 rfl).cell 0; have b1 := (S2a.out.cell 1 rfl).cell 1; have b2 := (S2a.out.cell 1 rfl).cell 2)
                  | (refine step_rowA (t := 23) (e := 42) (size := 3) (bytes := 40) (i := i1) ((SX.out.newCell 42 #[.int .u64 k1, .int .i64 k2, .slice dA dl dk]).drew.newRow 42 3) 0 rfl (by rfl) (.const (.slice none 0 0)) (.tmp 56) (by rfl) Tryz.underlying23 gi gz0 gz1 gz2 rfl (by omega) (by rfl) (some ⟨gB, 0, none⟩) Y.length bc ((Y.take Y.length).flatMap encCH) (by rfl) HTL.out (fun _ => ⟨_, rfl, HST.out _ ((SX.out.newCell 42 #[.int .u64 k1, .int .i64 k2, .slice dA dl dk]).drew.get 2 rfl)⟩) (row_all encCH_one _) (by unfold maxLen; omega) (by omega) ?_; intro v2 w2 s2; have S2b : Hid (SW b w0 (rowOb 42 3 v2 (0 + Y.length) ([] ++ ((Y.take Y.length).flatMap encCH)) :: cellOb wS.heap.size 42 #[.int .u64 k1, .int .i64 k2, .slice dA dl dk] :: cellOb gX 42 #[.int .u64 k1, .int .i64 k2, .slice dA dl dk] :: rowOb 42 3 (.slice (some ⟨gB, 0, none⟩) Y.length bc) Y.length (Y.flatMap encCH) :: bufOb ⟨dA, dl, dk⟩ cs :: bsOb Y :: l) w2) := s2; clear s2)
                  | (refine step_rowA (t := 23) (e := 42) (size := 3) (bytes := 40) (i := i1) (S2a.out.newCell 42 #[.int .u64 k1, .int .i64 k2, .slice dA dl dk]) 1 rfl (by rfl) (.tmp 57) (.tmp 59) (by rfl) Tryz.underlying23 gi gz0 gz1 gz2 rfl (by omega) (by rfl) (some ⟨w2.heap.size, 0, none⟩) 1 1 [.int .u64 k1, .int .i64 k2, .slice dA dl dk] (by rfl) rfl (fun _ => ⟨_, rfl, mthree_new _ _ _ _ _ _ rfl⟩) (encCH_one ((k1, k2), (⟨⟨dA, dl, dk⟩, cs⟩ : BS))) (by unfold maxLen; omega) (by omega) ?_; intro v3 w3 s3; have S3 : Hid (SW b w0 (rowOb 42 3 v3 (0 + Y.length + 1) ([] ++ ((Y.take Y.length).flatMap encCH) ++ [.int .u64 k1, .int .i64 k2, .slice dA dl dk]) :: cellOb gX 42 #[.int .u64 k1, .int .i64 k2, .slice dA dl dk] :: rowOb 42 3 (.slice (some ⟨gB, 0, none⟩) Y.length bc) Y.length (Y.flatMap encCH) :: bufOb ⟨dA, dl, dk⟩ cs :: bsOb Y :: l) w3) := s3.tail; clear s3)
                  | (refine step_rowA (t := 23) (e := 42) (size := 3) (bytes := 40) (i := i1) S2b.out 0 rfl (by rfl) (.tmp 57) (.tmp 59) (by rfl) Tryz.underlying23 gi gz0 gz1 gz2 rfl (by omega) (by rfl) (some ⟨wS.heap.size, 0, none⟩) 1 1 [.int .u64 k1, .int .i64 k2, .slice dA dl dk] (by rfl) rfl (fun _ => ⟨_, rfl, cell3_src (S2b.out.cell 1 rfl)⟩) (encCH_one ((k1, k2), (⟨⟨dA, dl, dk⟩, cs⟩ : BS))) (by unfold maxLen; omega) (by omega) ?_; intro v3 w3 s3; have S3 : Hid (SW b w0 (rowOb 42 3 v3 (0 + Y.length + 1) ([] ++ ((Y.take Y.length).flatMap encCH) ++ [.int .u64 k1, .int .i64 k2, .slice dA dl dk]) :: cellOb gX 42 #[.int .u64 k1, .int .i64 k2, .slice dA dl dk] :: rowOb 42 3 (.slice (some ⟨gB, 0, none⟩) Y.length bc) Y.length (Y.flatMap encCH) :: bufOb ⟨dA, dl, dk⟩ cs :: bsOb Y :: l) w3) := SW.sub s3 (.cons_cons _ (.cons _ (List.Sublist.refl _))); clear s3)
                  | (refine step_rowA (t := 23) (e := 42) (size := 3) (bytes := 40) (i := i1) S3.out 0 rfl (by rfl) (.tmp 60) (.tmp 63) (by rfl) Tryz.underlying23 gi gz0 gz1 gz2 rfl (by omega) (by rfl) (some ⟨gB, Y.length * 3, none⟩) 0 (bc - Y.length) ([] : List Value) (by rfl) rfl (fun h => absurd h (Nat.lt_irrefl 0)) (by intro u hu; cases hu) (by unfold maxLen; omega) (by omega) ?_; intro v4 w4 s4; have S4 := Lib.hid s4; clear s4))
                all_goals (
                  obtain ⟨Y', HY'⟩ : ∃ y, Hid (Y.take Y.length ++ ((((k1, k2), (⟨⟨dA, dl, dk⟩, cs⟩ : BS)) : CH)) :: Y.drop Y.length = y) := ⟨_, rfl⟩
                  have HLEN : Hid (0 + Y.length + 1 + 0 = Y'.length) := by rw [Hid, ← HY'.out, List.length_append, List.length_cons, List.length_take, List.length_drop]; omega
                  have HENC : Hid ([] ++ ((Y.take Y.length).flatMap encCH) ++ [.int .u64 k1, .int .i64 k2, .slice dA dl dk] ++ [] = Y'.flatMap encCH) := by rw [Hid, ← HY'.out]; simp [List.flatMap_append, encCH, vBS, HDR.out]
                  have HSUB : Hid (∀ e, e ∈ Y' ↔ e ∈ Y ++ [(((k1, k2), (⟨⟨dA, dl, dk⟩, cs⟩ : BS)) : CH)]) := fun e => by
                    rw [← HY'.out]
                    exact ins_mem _ _ _ _
                  obtain ⟨A4, c4, rfl⟩ := own_slice (S4.out.get 0 rfl)
                  rw [HLEN.out, HENC.out] at S4
                  have S5 : Hid (SW b w0 (rowOb 42 3 (.slice A4 Y'.length c4) Y'.length (Y'.flatMap encCH) :: bsOb Y' :: l) w4) := by
                    have h1 := SW.few (pre := [_, _, _, _, _]) S4.out [3, 4, 0] (n := 5) rfl (by decide) (by decide)
                    have h2 := SW.bsSub (S' := Y') (SW.bsSnoc h1 (k1, k2)) (fun e he => (HSUB.out e).1 he)
                    exact SW.front (pre := [_, _]) h2 [1, 0] (n := 2) rfl (by decide)
                  have HCO : Hid (SrtR (T.take (k + 1)) Y' ∧ (Y' = [] → A4 = none)) := by
                    refine ⟨?_, fun e => ?_⟩
                    · rw [HTK.out, ← HY'.out]
                      exact srt_ins HY.out.1 HLO.out HHI.out HF.out
                    · rw [← HY'.out] at e
                      simp at e
                  clear S4
                  rw [HLEN.out]
                  go_wp2_with fail
                  go_roundw
                  case rel => exact ⟨k + 1, Y', A4, c4, by omega, by go_num, rfl, HCO.out, S5.out⟩
                  case measure => simp [intOf]; omega)
    · obtain rfl : k = T.length := by omega
      rw [List.take_length] at HY
      have HYL := Lib.hid hYn
      go_wp2_with fail
      go_ret
      exact ⟨Y, B, bc, HY.out.1, HYL.out, rfl, S1.out⟩
end
end Go.Proofs.YtmiknfneeipkeaaGreat
