/- Contracts: with, without of the reference. -/
import Derived.Test.YtddjkkmdcdiofaaRA
namespace Go.Proofs.Ytddjkkmdcdiofaa
open Go.RowKit Go.MapKept Go.ChangeMaps

theorem info101 : (Try.prog.info? 101).map (fun i => (i.zero, i.size, i.bytes)) = some (some (.agg #[.string ByteArray.empty, .slice none 0 0]), 2, 40) := by kernel_rfl
theorem step_append_own_ {P : Program} {w : World} {ops : Array Oper} {o : Oper} {a : Act} {K : Act → World → Prop} {Q : Exit → Act → World → Prop} {E : Prop} (hgd : o.guard = none) (s x : Operand) (t : TypeId)
    (ho : o.op = .call { callee := .builtin .append, args := #[s, x], argTypes := #[t, t] })
    (base : Nat) (e : TypeId) (i : TypeInfo) (z : Value) (size bytes : Nat) (ht : P.underlying t = some (.slice e)) (hi : P.info? e = some i) (hz : i.zero = some z)
    (hsize : i.size = size) (hby : i.bytes = bytes) (hzs : z.cells.size = size) (hsz : 0 < size)
    (v : Value) (n : Nat) (xs : List Value) (hs : a.eval s = v) (hown : w.ownsRow base e size v n xs)
    (A : Option Addr) (m c : Nat) (news : List Value) (hx : a.eval x = .slice A m c) (hl : news.length = m * size) (hnil : A = none → m = 0)
    (hnews : ∀ ad, A = some ad → ∀ j u, news[j]? = some u → w.cell? (ad.add j) = some u) (h1 : ∀ u ∈ news, u.oneCell' = true)
    (h63 : n + m ≤ maxLen) (hbytes : (n + m) * bytes ≤ 140737488355328) (hbase : base ≤ w.heap.size)
    (h : ∀ v' w', w'.ownsRow base e size v' (n + m) (xs ++ news) → w.grownBy w' v.ownBlock → K (a.put o.dst v') w') :
    if Region.wanted o (yielded ops a.tmps) = true then Oper.wp P o a w K Q else E := by
  have hw : Region.wanted o (yielded ops a.tmps) = true := by simp [Region.wanted, hgd]
  rw [if_pos hw]
  cases A with
  | none =>
    have hm : m = 0 := hnil rfl
    subst hm
    have hn : news = [] := List.eq_nil_of_length_eq_zero (by simpa using hl)
    subst hn
    have hrun := append_nil_run (P := P) w base t o.type e i size ht hi v n xs hown c
    unfold Oper.wp execOp
    simp only [ho, resolve, invoke, builtin, Sem.run_bind, Sem.run_pure, Result.andThen_ok, List.map_toArray, List.map_cons, List.map_nil, hs, hx, hrun]
    exact h v w (by simpa using hown) ⟨rfl, rfl, rfl, Nat.le_refl _, fun _ _ _ => rfl⟩
  | some ad => exact wp_append_own w s x t ho base e i z size bytes ht hi hz hsize hby hzs hsz v n xs hs hown ad m c news hx hl (hnews ad rfl) h1 h63 hbytes hbase (fun v' w' h2 h3 _ => h v' w' h2 h3)
theorem encF_one (l : List RFile) : ∀ u ∈ l.flatMap encF, u.oneCell' = true := by
  intro u hu
  obtain ⟨x, _, hx⟩ := List.mem_flatMap.1 hu
  simp only [encF, List.mem_cons, List.not_mem_nil, or_false] at hx
  rcases hx with rfl | rfl <;> rfl
/-- The first and the last files of a list, as they lie. -/
theorem src_take {w : World} {A : Option Addr} {c : Nat} {fs : List RFile} (h : w.ownsRow 0 101 2 (.slice A fs.length c) fs.length (fs.flatMap encF)) (k : Nat) : ∀ ad, A = some ad → ∀ j u, ((fs.take k).flatMap encF)[j]? = some u → w.cell? (ad.add j) = some u := by
  intro ad e j u hu
  subst e
  obtain ⟨g, rfl⟩ : ∃ g, ad = ⟨g, 0, none⟩ := by
    rcases h.2 with ⟨hv, _⟩ | ⟨g, cap, cur, hv, _⟩
    · cases hv
    · injection hv with h1
      injection h1 with h1
      exact ⟨g, h1⟩
  have hj : j < (fs.take k).length * 2 := by
    have := (List.getElem?_eq_some_iff.1 hu).1
    rwa [flat_len encF_len] at this
  rw [List.length_take] at hj
  rw [lit_add, Nat.zero_add, h.cellAt j (by omega), ← hu]
  conv => lhs; rw [← List.take_append_drop k fs, List.flatMap_append]
  rw [List.getElem?_append_left (by rw [flat_len encF_len, List.length_take]; omega)]
theorem src_drop {w : World} {g c : Nat} {fs : List RFile} (h : w.ownsRow 0 101 2 (.slice (some ⟨g, 0, none⟩) fs.length c) fs.length (fs.flatMap encF)) (k : Nat) (hk : k ≤ fs.length) : ∀ j u, ((fs.drop k).flatMap encF)[j]? = some u → w.cell? ((⟨g, k * 2, none⟩ : Addr).add j) = some u := by
  intro j u hu
  have hj : j < (fs.drop k).length * 2 := by
    have := (List.getElem?_eq_some_iff.1 hu).1
    rwa [flat_len encF_len] at this
  rw [List.length_drop] at hj
  rw [lit_add, h.cellAt _ (by omega), ← hu]
  conv => lhs; rw [← List.take_append_drop k fs, List.flatMap_append]
  rw [List.getElem?_append_right (by rw [flat_len encF_len, List.length_take]; omega), flat_len encF_len, List.length_take]
  congr 1
  omega
theorem src_if {w : World} {g c : Nat} {fs : List RFile} (h : w.ownsRow 0 101 2 (.slice (some ⟨g, 0, none⟩) fs.length c) fs.length (fs.flatMap encF)) (k : Nat) (hk : k ≤ fs.length) (hc : fs.length ≤ c) : ∀ ad, (if c = k then some (⟨g, 0, none⟩ : Addr) else some ⟨g, k * 2, none⟩) = some ad → ∀ j u, ((fs.drop k).flatMap encF)[j]? = some u → w.cell? (ad.add j) = some u := by
  intro ad e j u hu
  split at e
  · rw [List.drop_eq_nil_of_le (by omega)] at hu
    simp at hu
  · injection e with e
    subst e
    exact src_drop h k hk j u hu
theorem FL.addr {w : World} {A : Option Addr} {c : Nat} {fs : List RFile} (h : FL w A c fs) : (A = none ∧ fs = []) ∨ ∃ g, A = some ⟨g, 0, none⟩ ∧ g < w.heap.size ∧ fs.length ≤ c := by
  rcases h.row.2 with ⟨hv, h0⟩ | ⟨g, cap, cur, hv, _, hg, hc, _⟩
  · injection hv with h1
    exact .inl ⟨h1, List.eq_nil_of_length_eq_zero h0⟩
  · injection hv with h1 h2 h3
    subst h3
    exact .inr ⟨g, h1, (Array.getElem?_eq_some_iff.1 hg).1, hc⟩
/-- A list of files of the reference, as a result. -/
def FLPost (fs' : List RFile) (w : World) (e : Ending) (w' : World) : Prop := ∃ A c, e = .returned (.slice A fs'.length c) ∧ FL w' A c fs' ∧ Below w.heap.size w w'
theorem fl_ret {w w' : World} {A : Option Addr} {c m : Nat} {fs' : List RFile} {xs : List Value} (hm : m = fs'.length) (hx : xs = fs'.flatMap encF) (h : w'.ownsRow 0 101 2 (.slice A m c) m xs) (hr : ∀ x ∈ fs', RB w' x.d x.bs) (hs : SortedF fs') (ho : ∀ x ∈ fs', okS x.nm) (hb : Below w.heap.size w w') : FLPost fs' w (.returned (.slice A m c)) w' := by
  subst hm hx
  exact ⟨A, c, rfl, ⟨h, hr, hs, ho⟩, hb⟩
theorem ownsRow0 {w : World} {b e size n : Nat} {v : Value} {xs : List Value} (h : w.ownsRow b e size v n xs) : w.ownsRow 0 e size v n xs := by
  refine ⟨h.1, h.2.imp id ?_⟩
  rintro ⟨g, cap, cur, h1, _, h2⟩
  exact ⟨g, cap, cur, h1, Nat.zero_le _, h2⟩
set_option maxRecDepth 100000 in
set_option maxHeartbeats 4000000 in
theorem with_any (A : Option Addr) (c : Nat) (fs : List RFile) (x : RFile) (w : World) (h : FL w A c fs) (hl : fs.length ≤ 100000) (hx : RB w x.d x.bs) (hn : okS x.nm) : Calls Try.prog 65 #[.slice A fs.length c, .agg #[.string x.nm, .slice x.d.A x.d.len x.d.cap]] w (FLPost (withR fs x) w) := by
  obtain ⟨i0, hi, hz0, hz1, hz2⟩ := info_parts info101
  have H := Lib.hid h
  have HX := Lib.hid hx
  have HN := Lib.hid hn
  have HW : Hid (FL (w.alloc (.cells #[.string x.nm, .slice x.d.A x.d.len x.d.cap] 101)) A c fs) := h.on (bel1 _ _)
  have BX : Hid (IsB (w.alloc (.cells #[.string x.nm, .slice x.d.A x.d.len x.d.cap] 101)) w.heap.size 101 #[.string x.nm, .slice x.d.A x.d.len x.d.cap]) := IsB.new _ _ _
  clear h hx hn
  obtain ⟨p, HP⟩ : ∃ p, Hid (posP fs x.nm = p) := ⟨_, rfl⟩
  have hple : p ≤ fs.length := by rw [← HP.out]; exact posP_le _ _
  obtain ⟨b, Hb⟩ : ∃ b, Hid (hasP fs x.nm = b) := ⟨_, rfl⟩
  have hcap : p ≤ c := by
    rcases H.out.addr with ⟨_, h0⟩ | ⟨g, _, _, h0⟩
    · rw [h0] at hple; simp at hple; omega
    · omega
  have HNil : Hid (A = none → p = 0) := fun e => by
    rcases H.out.addr with ⟨_, h0⟩ | ⟨g, h1, _⟩
    · rw [h0] at hple; simpa using hple
    · rw [e] at h1; cases h1
  have HTl : Hid (((fs.take p).flatMap encF).length = p * 2) := by rw [Hid, flat_len encF_len, List.length_take]; congr 1; omega
  go_enter Try.func65, Try.ntmps65
  go_wp2_with fail
  refine (place_any A c fs x.nm _ HW.out hl).mono ?_
  rintro e w1 ⟨he, hb1⟩
  rw [HP.out, Hb.out] at he
  subst he
  have F1 : Hid (FL w1 A c fs) := HW.out.on hb1
  have I1 : Hid (IsB w1 w.heap.size 101 #[.string x.nm, .slice x.d.A x.d.len x.d.cap]) := BX.out.on hb1
  have B1 : Hid (Below w.heap.size w w1) := (bel1 w _).trans (hb1.mono (by simp))
  have hw1 : w.heap.size < w1.heap.size := I1.out.lt
  clear hb1
  have k0 : w1.cell? ⟨w.heap.size, 0, none⟩ = some (.string x.nm) := I1.out.cell 0
  have k1 : w1.cell? ⟨w.heap.size, 1, none⟩ = some (.slice x.d.A x.d.len x.d.cap) := I1.out.cell 1
  go_wp2_with fail
  go_region_law (first
    | (refine step_append_own_ (by rfl) (.const (.slice none 0 0)) (.tmp 17) 65 (by rfl) w1.heap.size 101 i0 _ 2 40 Try.underlying65 hi hz0 hz1 hz2 rfl (by omega) (.slice none 0 0) 0 [] (by rfl) (World.ownsRow_nil _ _ _ _) A p c ((fs.take p).flatMap encF) (by rfl) HTl.out HNil.out (src_take F1.out.row p) (encF_one _) (by unfold maxLen; omega) (by omega) (by simp) ?_; intro v2 w2 ho2 hg2; have HO2 := Lib.hid ho2; have HB2 : Hid (Below w1.heap.size w1 w2) := of_drew ((Below.refl _ _).grown hg2 (by simp) (fun q hq => by simp [Value.ownBlock] at hq)); have j0 : w2.cell? ⟨w.heap.size, 0, none⟩ = some (.string x.nm) := (HB2.out.cell (p := ⟨w.heap.size, 0, none⟩) hw1).trans (I1.out.cell 0); have j1 : w2.cell? ⟨w.heap.size, 1, none⟩ = some (.slice x.d.A x.d.len x.d.cap) := (HB2.out.cell (p := ⟨w.heap.size, 1, none⟩) hw1).trans (I1.out.cell 1); have hs2 := HB2.out.size; clear ho2 hg2)
    | (refine step_append_own_ (by rfl) (.const (.slice none 0 0)) (.tmp 17) 65 (by rfl) w1.heap.size 101 i0 _ 2 40 Try.underlying65 hi hz0 hz1 hz2 rfl (by omega) (.slice none 0 0) 0 [] (by rfl) (World.ownsRow_nil _ _ _ _) A p c ((fs.take p).flatMap encF) (by rfl) HTl.out HNil.out (src_take (own_on F1.out.row (bel_drew (bel1 _ _))) p) (encF_one _) (by unfold maxLen; omega) (by omega) (by simp) ?_; intro v2 w2 ho2 hg2; have HO2 := Lib.hid ho2; have HB2 : Hid (Below w1.heap.size w1 w2) := (bel_drew (bel1 w1 _)).grown hg2 (by simp) (fun q hq => by simp [Value.ownBlock] at hq); have IS2 : Hid (IsB w2 w1.heap.size 101 #[.string x.nm, .slice x.d.A x.d.len x.d.cap]) := ((IsB.new w1 101 #[.string x.nm, .slice x.d.A x.d.len x.d.cap]).on_drew).grown hg2 (by simp [Value.ownBlock]); have j0 : w2.cell? ⟨w.heap.size, 0, none⟩ = some (.string x.nm) := (HB2.out.cell (p := ⟨w.heap.size, 0, none⟩) hw1).trans (I1.out.cell 0); have j1 : w2.cell? ⟨w.heap.size, 1, none⟩ = some (.slice x.d.A x.d.len x.d.cap) := (HB2.out.cell (p := ⟨w.heap.size, 1, none⟩) hw1).trans (I1.out.cell 1); have hs2 := HB2.out.size; clear ho2 hg2)
    | (refine step_append_own_ (by rfl) (.tmp 18) (.tmp 20) 65 (by rfl) w1.heap.size 101 i0 _ 2 40 Try.underlying65 hi hz0 hz1 hz2 rfl (by omega) v2 (0 + p) ([] ++ (fs.take p).flatMap encF) (by rfl) (HO2.out.alloc _) (some ⟨w2.heap.size, 0, none⟩) 1 1 [.string x.nm, .slice x.d.A x.d.len x.d.cap] (by rfl) (by rfl) (by simp) (fun ad e j u hu => by injection e with e; subst e; rw [lit_add, Nat.zero_add, new_cell _ _ _ _ rfl]; simpa using hu) (encF_one [x]) (by unfold maxLen; omega) (by omega) (by first | exact hs2 | (simp; omega)) ?_; intro v3 w3 ho3 hg3; have HO3 := Lib.hid ho3; have HB3 : Hid (Below w1.heap.size w1 w3) := (HB2.out.alloc hs2 _).grown hg3 (by simp; omega) (fun q hq => (HO2.out.lt q hq).1); clear ho3 hg3)
    | (refine step_append_own_ (by rfl) (.tmp 18) (.tmp 20) 65 (by rfl) w1.heap.size 101 i0 _ 2 40 Try.underlying65 hi hz0 hz1 hz2 rfl (by omega) v2 (0 + p) ([] ++ (fs.take p).flatMap encF) (by rfl) (HO2.out) (some ⟨w1.heap.size, 0, none⟩) 1 1 [.string x.nm, .slice x.d.A x.d.len x.d.cap] (by rfl) (by rfl) (by simp) (fun ad e j u hu => by injection e with e; subst e; rw [lit_add, Nat.zero_add, IS2.out.cell]; simpa using hu) (encF_one [x]) (by unfold maxLen; omega) (by omega) (by first | exact hs2 | (simp; omega)) ?_; intro v3 w3 ho3 hg3; have HO3 := Lib.hid ho3; have HB3 : Hid (Below w1.heap.size w1 w3) := HB2.out.grown hg3 hs2 (fun q hq => (HO2.out.lt q hq).1); clear ho3 hg3))
  all_goals (
    obtain ⟨A3, c3, rfl⟩ := own_slice HO3.out
    have HRB : Hid (∀ y ∈ withR fs x, RB w1 y.d y.bs) := fun y hy => by
      rcases with_mem hy with rfl | hy
      · exact HX.out.on B1.out
      · exact F1.out.rb y hy
    have HOK : Hid (∀ y ∈ withR fs x, okS y.nm) := fun y hy => by
      rcases with_mem hy with rfl | hy
      · exact HN.out
      · exact H.out.ok y hy
    have HSo : Hid (SortedF (withR fs x)) := with_sorted H.out.sort x
    have F3 : Hid (FL w3 A c fs) := F1.out.on HB3.out
    have hs3 := HB3.out.size
    rcases H.out.addr with ⟨hAn, hfn⟩ | ⟨g, hAg, hgl, hfc⟩
    · subst hAn
      subst hfn
      have hp0 : p = 0 := HNil.out rfl
      have hb0 : b = false := by rw [← Hb.out]; rfl
      subst hp0
      subst hb0
      have HO3' : Hid (w3.ownsRow w1.heap.size 101 2 (.slice A3 1 c3) 1 [.string x.nm, .slice x.d.A x.d.len x.d.cap]) := by
        show w3.ownsRow _ _ _ _ _ _
        simpa using HO3.out
      go_wp2_with (at_builtin; refine halt_ ?_)
      refine wpList_append_opt rfl _ _ 65 rfl w1.heap.size 101 i0 _ 2 40 Try.underlying65 hi hz0 hz1 hz2 rfl (by omega) (.slice A3 1 c3) 1 _ rfl HO3'.out none 0 c [] rfl rfl (fun _ => rfl) (fun ad e => by cases e) (by simp) (by unfold maxLen; omega) (by omega) hs3 ?_
      intro v4 w4 ho4 hg4
      obtain ⟨A4, c4, rfl⟩ := own_slice ho4
      have HB4 : Hid (Below w1.heap.size w1 w4) := HB3.out.grown hg4 hs3 (fun q hq => (HO3'.out.lt q hq).1)
      have HO4 := Lib.hid ho4
      clear ho4 hg4
      go_wp2_with fail
      go_ret
      exact fl_ret (by simp [withR]) (by simp [withR, encF]) (ownsRow0 HO4.out) (fun y hy => (HRB.out y hy).on HB4.out) HSo.out HOK.out (B1.out.trans (HB4.out.mono B1.out.size))
    · subst hAg
      have HO3' : Hid (w3.ownsRow w1.heap.size 101 2 (.slice A3 (p + 1) c3) (p + 1) ((fs.take p).flatMap encF ++ [.string x.nm, .slice x.d.A x.d.len x.d.cap])) := by
        show w3.ownsRow _ _ _ _ _ _
        simpa using HO3.out
      have HWE : Hid (withR fs x = fs.take p ++ x :: fs.drop (p + if b then 1 else 0)) := by rw [Hid, withR_eq, HP.out, Hb.out]
      have hpb : b = true → p < fs.length := fun e => by
        have hh := Hb.out
        rw [e] at hh
        obtain ⟨y, hy, _⟩ := posP_at H.out.sort hh
        rw [HP.out] at hy
        exact (List.getElem?_eq_some_iff.1 hy).1
      cases b
      · clear hpb
        by_cases hcq : c = p
        · have hcq' : p = c := hcq.symm
          clear hcq
          subst hcq'
          have HDr : Hid (fs.drop p = []) := List.drop_eq_nil_of_le hfc
          go_wp2_with (at_builtin; refine halt_ ?_)
          refine wpList_append_opt rfl _ _ 65 rfl w1.heap.size 101 i0 _ 2 40 Try.underlying65 hi hz0 hz1 hz2 rfl (by omega) (.slice A3 (p + 1) c3) (p + 1) _ rfl HO3'.out (some ⟨g, 0, none⟩) 0 0 [] (by first | rfl | (show Value.slice _ (fs.length - p) _ = _; rw [show fs.length - p = 0 by omega])) rfl (fun _ => rfl) (fun ad _ j u hu => by simp at hu) (by simp) (by unfold maxLen; omega) (by omega) hs3 ?_
          intro v4 w4 ho4 hg4
          obtain ⟨A4, c4, rfl⟩ := own_slice ho4
          have HB4 : Hid (Below w1.heap.size w1 w4) := HB3.out.grown hg4 hs3 (fun q hq => (HO3'.out.lt q hq).1)
          have HO4 := Lib.hid ho4
          clear ho4 hg4
          go_wp2_with fail
          go_ret
          exact fl_ret (by rw [HWE.out]; simp; omega) (by rw [HWE.out]; simp [encF, HDr.out]) (ownsRow0 HO4.out) (fun y hy => (HRB.out y hy).on HB4.out) HSo.out HOK.out (B1.out.trans (HB4.out.mono B1.out.size))
        · go_wp2_with (at_builtin; refine halt_ ?_)
          refine wpList_append_opt rfl _ _ 65 rfl w1.heap.size 101 i0 _ 2 40 Try.underlying65 hi hz0 hz1 hz2 rfl (by omega) (.slice A3 (p + 1) c3) (p + 1) _ rfl HO3'.out (some ⟨g, p * 2, none⟩) (fs.length - p) (c - p) ((fs.drop p).flatMap encF) rfl (by rw [flat_len encF_len, List.length_drop]) (fun e => by cases e) (fun ad e => by injection e with e; subst e; exact src_drop F3.out.row p (by omega)) (encF_one _) (by unfold maxLen; omega) (by omega) hs3 ?_
          intro v4 w4 ho4 hg4
          obtain ⟨A4, c4, rfl⟩ := own_slice ho4
          have HB4 : Hid (Below w1.heap.size w1 w4) := HB3.out.grown hg4 hs3 (fun q hq => (HO3'.out.lt q hq).1)
          have HO4 := Lib.hid ho4
          clear ho4 hg4
          go_wp2_with fail
          go_ret
          exact fl_ret (by rw [HWE.out]; simp; omega) (by rw [HWE.out]; simp [encF]) (ownsRow0 HO4.out) (fun y hy => (HRB.out y hy).on HB4.out) HSo.out HOK.out (B1.out.trans (HB4.out.mono B1.out.size))
      · have hpl := hpb rfl
        clear hpb
        by_cases hcq : c = (p + 1)
        · subst hcq
          have HDr : Hid (fs.drop (p + 1) = []) := List.drop_eq_nil_of_le hfc
          go_wp2_with (at_builtin; refine halt_ ?_)
          refine wpList_append_opt rfl _ _ 65 rfl w1.heap.size 101 i0 _ 2 40 Try.underlying65 hi hz0 hz1 hz2 rfl (by omega) (.slice A3 (p + 1) c3) (p + 1) _ rfl HO3'.out (some ⟨g, 0, none⟩) 0 0 [] (by first | rfl | (show Value.slice _ (fs.length - (p + 1)) _ = _; rw [show fs.length - (p + 1) = 0 by omega])) rfl (fun _ => rfl) (fun ad _ j u hu => by simp at hu) (by simp) (by unfold maxLen; omega) (by omega) hs3 ?_
          intro v4 w4 ho4 hg4
          obtain ⟨A4, c4, rfl⟩ := own_slice ho4
          have HB4 : Hid (Below w1.heap.size w1 w4) := HB3.out.grown hg4 hs3 (fun q hq => (HO3'.out.lt q hq).1)
          have HO4 := Lib.hid ho4
          clear ho4 hg4
          go_wp2_with fail
          go_ret
          exact fl_ret (by rw [HWE.out]; simp; omega) (by rw [HWE.out]; simp [encF, HDr.out]) (ownsRow0 HO4.out) (fun y hy => (HRB.out y hy).on HB4.out) HSo.out HOK.out (B1.out.trans (HB4.out.mono B1.out.size))
        · go_wp2_with (at_builtin; refine halt_ ?_)
          refine wpList_append_opt rfl _ _ 65 rfl w1.heap.size 101 i0 _ 2 40 Try.underlying65 hi hz0 hz1 hz2 rfl (by omega) (.slice A3 (p + 1) c3) (p + 1) _ rfl HO3'.out (some ⟨g, (p + 1) * 2, none⟩) (fs.length - (p + 1)) (c - (p + 1)) ((fs.drop (p + 1)).flatMap encF) rfl (by rw [flat_len encF_len, List.length_drop]) (fun e => by cases e) (fun ad e => by injection e with e; subst e; exact src_drop F3.out.row (p + 1) (by omega)) (encF_one _) (by unfold maxLen; omega) (by omega) hs3 ?_
          intro v4 w4 ho4 hg4
          obtain ⟨A4, c4, rfl⟩ := own_slice ho4
          have HB4 : Hid (Below w1.heap.size w1 w4) := HB3.out.grown hg4 hs3 (fun q hq => (HO3'.out.lt q hq).1)
          have HO4 := Lib.hid ho4
          clear ho4 hg4
          go_wp2_with fail
          go_ret
          exact fl_ret (by rw [HWE.out]; simp; omega) (by rw [HWE.out]; simp [encF]) (ownsRow0 HO4.out) (fun y hy => (HRB.out y hy).on HB4.out) HSo.out HOK.out (B1.out.trans (HB4.out.mono B1.out.size)))
end Go.Proofs.Ytddjkkmdcdiofaa
