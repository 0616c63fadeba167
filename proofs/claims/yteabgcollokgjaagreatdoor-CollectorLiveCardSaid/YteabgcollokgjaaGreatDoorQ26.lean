/- CC CD CE CF CG CI CJ CK CL CM CN CO in one text. -/
import Derived.Test.YteabgcollokgjaaGreatDoorQ25
import Derived.BigRegion
import Derived.Deep.RegionWith
import Derived.Laws.Cells
set_option linter.unusedSimpArgs false
set_option linter.unusedVariables false
namespace Go.Proofs.YteabgcollokgjaaGreatDoor
open Go.RowKit Go.MapKept Go.ChangeMaps Go.Shelf Go.Sort

section
variable {b : Nat} {w0 w : World} {l : List Ob} {c : CR}
/-- What stays is written over the candidates. -/
theorem run_put31 {w : World} {g m cap H : Nat} {x : ID} (hi : ∃ cur, IsB w g 31 cur ∧ m * 2 + 1 < cur.size) (hroom : m + 1 ≤ cap) (h0 : w.cell? ⟨H, 0, none⟩ = some (.int .u64 x.1)) (h1 : w.cell? ⟨H, 1, none⟩ = some (.int .i64 x.2)) (ty : TypeId) :
 (Builtin.append_ #[38, 38] ty #[.slice (some ⟨g, 0, none⟩) m cap, .slice (some ⟨H, 0, none⟩) 1 1]).run Tryz.prog w = .ok (.slice (some ⟨g, 0, none⟩) (m + 1) cap) ((w.setCell ⟨g, m * 2, none⟩ (.int .u64 x.1)).setCell ⟨g, m * 2 + 1, none⟩ (.int .i64 x.2)) := by
 obtain ⟨cur, hi, hlt⟩ := hi
 obtain ⟨i, hinfo, _, hz, _⟩ := info_parts info31
 have hz : i.size = 2 := hz
 have := run_append_room_cells (P := Tryz.prog) w 38 ty 31 i Tryz.underlying38 hinfo g 0 m cap ⟨H, 0, none⟩ 1 1 [.int .u64 x.1, .int .i64 x.2] (by rw [hz]; rfl) (fun j u hu => ?_) (fun u hu => ?_) hroom (fun j hj => ?_) (fun j hj => ?_)
 · rw [this, hz]
   simp [World.setCells]
 · match j, hu with
   | 0, hu =>
    simp at hu
    subst hu
    simpa [Addr.add] using h0
   | 1, hu =>
    simp at hu
    subst hu
    simpa [Addr.add] using h1
   | j + 2, hu => simp at hu
 · simp at hu
   rcases hu with rfl | rfl <;> rfl
 · rw [hz, hi.cell]
   have hj : j < 2 := hj
   rw [Array.getElem?_eq_getElem (by omega)]
   rfl
 · exact hi.frozen _
theorem wpList_put {w : World} {ops : Array Oper} {rest : List Oper} {o : Oper} {a : Act} {Q : Exit → Act → World → Prop} (hg : o.guard = none) (s y : Operand) (hop : o.op = Op.call { callee := Callee.builtin Builtin.append, args := #[s, y], argTypes := #[38, 38] })
 {g m cap H : Nat} {x : ID} (hi : ∃ cur, IsB w g 31 cur ∧ m * 2 + 1 < cur.size) (hroom : m + 1 ≤ cap) (h0 : w.cell? ⟨H, 0, none⟩ = some (.int .u64 x.1)) (h1 : w.cell? ⟨H, 1, none⟩ = some (.int .i64 x.2))
 (hs : a.eval s = .slice (some ⟨g, 0, none⟩) m cap) (hy : a.eval y = .slice (some ⟨H, 0, none⟩) 1 1)
 (h : wpList Tryz.prog ops Q rest (a.put o.dst (.slice (some ⟨g, 0, none⟩) (m + 1) cap)) ((w.setCell ⟨g, m * 2, none⟩ (.int .u64 x.1)).setCell ⟨g, m * 2 + 1, none⟩ (.int .i64 x.2))) : wpList Tryz.prog ops Q (o :: rest) a w := by
 refine wpList_plain hg fun K hK' => ?_
 have hrun := run_put31 hi hroom h0 h1 o.type
 unfold Oper.wp
 simp [execOp, hop, resolve, invoke, builtin, hs, hy, hrun, Result.andThen]
 exact hK' _ _ h
theorem co_row {W : World} {F : List ID} {g : Nat} (h : (coOb (c.mid F)).holds W) (hA : c.A = some ⟨g, 0, none⟩) (hF : F.length < c.cand.length) : (∃ cur, IsB W g 31 cur ∧ F.length * 2 + 1 < cur.size) ∧ g < W.heap.size := by
 obtain ⟨_, _, r3⟩ := h.2.1
 obtain ⟨g', e, ⟨cur, hi, h2, _⟩, hlt⟩ := r3 _ hA
 injection e with e
 subst e
 refine ⟨⟨cur, hi, ?_⟩, hlt⟩
 rw [CR.mid_len c (Nat.le_of_lt hF)] at h2
 omega
set_option maxRecDepth 100000 in
set_option maxHeartbeats 8000000 in
theorem drop_any {gm : Nat} {G : HL} (h : SW b w0 (coOb c :: mpOb okID vID vU gm G :: l) w) (hok : ∀ i ∈ c.cand, okID i) (hl : c.cand.length ≤ 100000) :
 Calls Tryz.prog 112 #[vPtr c.cp, .map (some gm)] w (fun e w' => e = .returned (.tuple #[]) ∧ SW b w0 (coOb { c with cand := lessL G c.cand } :: mpOb okID vID vU gm G :: l) w') := by
 have HOK := Lib.hid hok
 have S0 : Hid (SW b w0 (coOb (c.mid []) :: mpOb okID vID vU gm G :: l) w) := h
 obtain ⟨n, Hn⟩ : ∃ n, Hid (c.cand.length = n) := ⟨_, rfl⟩
 have hh : (coOb c).holds w := h.get 0 rfl
 have k1 : w.cell? ⟨c.cp, 1, none⟩ = some (.slice c.A n c.cap) := by rw [← Hn.out]; exact CR.cell1 hh
 have hcap : n ≤ c.cap := by rw [← Hn.out]; exact hh.2.1.1
 have hcap63 : Hid (n ≤ c.cap) := hcap
 have HA : Hid (∀ ad, c.A = some ad → ∃ g, ad = ⟨g, 0, none⟩) := fun ad e => by
  obtain ⟨g, e2, _⟩ := hh.2.1.2.2 ad e
  exact ⟨g, e2⟩
 have HA0 : Hid (c.A = none → n = 0) := fun e => by
  rw [← Hn.out, hh.2.1.2.1 e]
  rfl
 have hsl := fun W => slice0_38 c.A HA.out n c.cap W
 rw [Hn.out] at hl
 clear h hok hh
 go_enter Tryz.func112, Tryz.ntmps112
 go_wp2_with fail
 clear hsl
 go_loopw [4, 19] (fun s4 s19 wr => ∃ k : Nat, k ≤ n ∧ s19 = .int .i64 (k : Int) ∧ s4 = .slice c.A (lessL G (c.cand.take k)).length c.cap ∧ SW b w0 (coOb (c.mid (lessL G (c.cand.take k))) :: mpOb okID vID vU gm G :: l) wr) (fun s4 s19 _ => n - (intOf s19).toNat)
 case atStart => exact ⟨0, Nat.zero_le _, rfl, rfl, S0.out⟩
 case round =>
  obtain ⟨k, hk, rfl, rfl, hs⟩ := hrel
  have S1 := Lib.hid hs
  clear hs S0 k1
  by_cases hlt : k < n
  · obtain ⟨F, HF⟩ : ∃ F, Hid (lessL G (c.cand.take k) = F) := ⟨_, rfl⟩
    rw [HF.out] at S1 ⊢
    have hFk : F.length ≤ k := by
     rw [← HF.out]
     refine Nat.le_trans (lessL_le _ _) ?_
     rw [List.length_take]
     omega
    have hltc : k < c.cand.length := by rw [Hn.out]; exact hlt
    obtain ⟨i, hik⟩ : ∃ i, c.cand.getD k id0 = i := ⟨_, rfl⟩
    have hmm : i ∈ c.cand := by
     rw [← hik, List.getD_eq_getElem?_getD, List.getElem?_eq_getElem hltc]
     exact List.getElem_mem hltc
    have hoki := HOK.out i hmm
    have hts : c.cand.take (k + 1) = c.cand.take k ++ [i] := by
     rw [List.take_succ_eq_append_getElem hltc, ← hik, List.getD_eq_getElem?_getD, List.getElem?_eq_getElem hltc]
     rfl
    have HTS : Hid (lessL G (c.cand.take (k + 1)) = F ++ if (asc G i).isSome then [] else [i]) := by rw [Hid, hts, lessL_snoc, HF.out]
    have hhm : (coOb (c.mid F)).holds wr := S1.out.get 0 rfl
    obtain ⟨A0, hA0⟩ : ∃ A0, c.A = A0 := ⟨_, rfl⟩
    cases A0 with
    | none => exact absurd (HA0.out hA0) (by omega)
    | some ad =>
     obtain ⟨g, rfl⟩ := HA.out ad hA0
     rw [hA0]
     obtain ⟨g', e, hrow, hgl⟩ := hhm.2.1.2.2 _ hA0
     injection e with e
     subst e
     have hmk : (F ++ c.cand.drop F.length).getD k id0 = i := by
      rw [List.getD_eq_getElem?_getD, List.getElem?_append_right hFk, List.getElem?_drop, show F.length + (k - F.length) = k by omega, ← hik, List.getD_eq_getElem?_getD]
     have hml : k < (F ++ c.cand.drop F.length).length := by rw [List.length_append, List.length_drop]; omega
     obtain ⟨a0, a1, _, _⟩ := hrow.cells hml hmk
     have HROW : Hid (∃ cur, IsB wr g 31 cur ∧ F.length * 2 + 1 < cur.size) := by
      obtain ⟨cur, hi, h2, _⟩ := hrow
      refine ⟨cur, hi, ?_⟩
      rw [List.length_append, List.length_drop] at h2
      omega
     have HAE := Lib.hid hA0
     have S2 := Lib.hid (S1.out.newCell 31 #[.int .u64 i.1, .int .i64 i.2])
     have hlk := look_u (S2.out.get 2 (o := mpOb okID vID vU gm G) rfl) hoki
     have c0 : (wr.alloc (.cells #[.int .u64 i.1, .int .i64 i.2] 31)).cell? ⟨wr.heap.size, 0, none⟩ = some (.int .u64 i.1) := (S2.out.cell 0 rfl).cell 0
     have c1 : (wr.alloc (.cells #[.int .u64 i.1, .int .i64 i.2] 31)).cell? ⟨wr.heap.size, 1, none⟩ = some (.int .i64 i.2) := (S2.out.cell 0 rfl).cell 1
     have HGL := Lib.hid hgl
     have hFl : F.length < c.cand.length := by omega
     have HFL := Lib.hid hFl
     have hFc : F.length + 1 ≤ c.cap := by omega
     have HFC := Lib.hid hFc
     clear hik hmm hts hhm hrow hmk hml hltc hgl S1 hA0 hoki hFl hFc hFk
     cases hgo : (asc G i).isSome with
     | true =>
      rw [hgo] at hlk HTS
      have HT2 : Hid (lessL G (c.cand.take (k + 1)) = F) := by rw [Hid, HTS.out]; simp
      clear hgo HTS
      go_wp2_with fail
      go_roundw
      case rel =>
       refine ⟨k + 1, by omega, by go_num, ?_, ?_⟩
       · rw [HT2.out]
       · rw [HT2.out]
         exact (S2.out.alloc _).tail
      case measure => simp [intOf]; omega
     | false =>
      rw [hgo] at hlk HTS
      have HT2 : Hid (lessL G (c.cand.take (k + 1)) = F ++ [i]) := by rw [Hid, HTS.out]; simp
      clear hgo HTS
      go_upto_region 6 with fail
      have S3 : Hid (SW b w0 (cellOb wr.heap.size 31 #[.int .u64 i.1, .int .i64 i.2] :: coOb (c.mid F) :: mpOb okID vID vU gm G :: l) ((wr.alloc (.cells #[.int .u64 i.1, .int .i64 i.2] 31)).alloc (.cells #[] 170))) := S2.out.alloc _
      generalize (wr.alloc (.cells #[.int .u64 i.1, .int .i64 i.2] 31)).alloc (.cells #[] 170) = W at S3 ⊢
      have d0 := (S3.out.cell 0 rfl).cell 0
      have d1 := (S3.out.cell 0 rfl).cell 1
      have S5 := Lib.hid (S3.out.newCell 31 #[.int .u64 i.1, .int .i64 i.2])
      have hrw := Lib.hid (co_row (S5.out.get 2 (o := coOb (c.mid F)) rfl) HAE.out HFL.out).1
      have e0 := Lib.hid ((S5.out.cell 0 rfl).cell 0)
      have e1 := Lib.hid ((S5.out.cell 0 rfl).cell 1)
      go_wp2_with (at_builtin; (refine wpList_put rfl (.tmp 31) (.tmp 33) rfl hrw.out HFC.out e0.out e1.out rfl rfl ?_))
      have S6 := Lib.hid (S5.out.tail.tail.coPut HAE.out HFL.out i)
      go_roundw
      case rel =>
       refine ⟨k + 1, by omega, by go_num, ?_, ?_⟩
       · rw [HT2.out, List.length_append]
         rfl
       · rw [HT2.out]
         exact S6.out
      case measure => simp [intOf]; omega
  · obtain rfl : k = n := by omega
    have hF : c.cand.take k = c.cand := by rw [← Hn.out, List.take_length]
    rw [hF] at S1 ⊢
    have k1 := CR.cell1 (S1.out.get 0 (o := coOb (c.mid (lessL G c.cand))) rfl)
    have k2 : wr.frozen? ⟨c.cp, 1, none⟩ = false := (S1.out.get 0 (o := coOb (c.mid (lessL G c.cand))) rfl).1.frozen _
    go_wp2_with fail
    go_end0
    refine ⟨rfl, ?_⟩
    have hh := S1.out.get 0 (o := coOb (c.mid (lessL G c.cand))) rfl
    refine SW.coSet (c := c.mid (lessL G c.cand)) (c' := { c with cand := lessL G c.cand }) S1.out 1 _ ?_ rfl ?_ ?_ ?_ ?_ rfl ?_
    · rfl
    · exact hh.2.2.len
    · exact fun s hs m hm => ⟨s, hs, hm, rfl⟩
    · exact hh.2.2.nomap
    · exact hh.2.2.uniq
    · rintro ⟨r1, r2, r3⟩
      refine ⟨Nat.le_trans (lessL_le G c.cand) (by rw [Hn.out]; exact hcap63.out), fun e => by
       have := lessL_le G c.cand
       rw [Hn.out, HA0.out e] at this
       have h4 : lessL G c.cand = [] := List.eq_nil_of_length_eq_zero (by omega)
       exact h4, fun ad e => ?_⟩
      obtain ⟨g, e2, hrow, hlt⟩ := r3 ad e
      exact ⟨g, e2, hrow.pre, hlt⟩
end
end Go.Proofs.YteabgcollokgjaaGreatDoor
namespace Go.Proofs.YteabgcollokgjaaGreatDoor
open Go.RowKit Go.MapKept Go.ChangeMaps Go.Shelf Go.Sort

theorem set_same {α : Type} : ∀ (L : List α) (i : Nat) (v : α), L[i]? = some v → L.set i v = L
 | [], _, _, h => by simp at h
 | x :: L, 0, v, h => by
  have h : x = v := by simpa using h
  rw [List.set_cons_zero, h]
 | x :: L, i + 1, v, h => by rw [List.set_cons_succ, set_same L i v (by simpa using h)]
/-- The sessions, one of them turned. -/
abbrev CR.put (c : CR) (f : Nat) (s : Ses) : CR := { c with se := c.se.set f s }
abbrev CR.ss (c : CR) (f : Nat) : Ses := c.se.getD f ses0
theorem co_cells (c : CR) (f : Nat) (s : Ses) (j : Nat) (u : Value) (hs : (c.se.set f s).flatMap Ses.cs = (c.se.flatMap Ses.cs).set (f * 3 + j) u) : (c.put f s).cells = c.cells.setIfInBounds (2 + f * 3 + j) u := by
 show (Value.pointer (some ⟨c.ps, 0, none⟩) :: .slice c.A c.cand.length c.cap :: (c.se.set f s).flatMap Ses.cs).toArray = (Value.pointer (some ⟨c.ps, 0, none⟩) :: .slice c.A c.cand.length c.cap :: c.se.flatMap Ses.cs).toArray.setIfInBounds (2 + f * 3 + j) u
 rw [hs, List.setIfInBounds_toArray, show 2 + f * 3 + j = (f * 3 + j) + 1 + 1 by omega, List.set_cons_succ, List.set_cons_succ]
theorem ses_flat (se : List Ses) (f : Nat) (hf : f < se.length) : (se.flatMap Ses.cs)[f * 3]? = some (.int .i64 (se.getD f ses0).num) ∧ (se.flatMap Ses.cs)[f * 3 + 1]? = some (.bool (se.getD f ses0).beg) ∧ (se.flatMap Ses.cs)[f * 3 + 2]? = some (.map (se.getD f ses0).hm) :=
 ⟨(ses_get se f 0 hf (by omega)).trans rfl, (ses_get se f 1 hf (by omega)).trans rfl, (ses_get se f 2 hf (by omega)).trans rfl⟩
theorem flat_num (se : List Ses) (f : Nat) (hf : f < se.length) (n : Int) : (se.set f { se.getD f ses0 with num := n }).flatMap Ses.cs = (se.flatMap Ses.cs).set (f * 3 + 0) (.int .i64 n) := by
 obtain ⟨h0, h1, h2⟩ := ses_flat se f hf
 rw [ses_set se f _ hf, Nat.add_zero, set_same ((se.flatMap Ses.cs).set (f * 3) (.int .i64 n)) (f * 3 + 1) _ (by rw [List.getElem?_set_ne (by omega)]; exact h1), set_same ((se.flatMap Ses.cs).set (f * 3) (.int .i64 n)) (f * 3 + 2) _ (by rw [List.getElem?_set_ne (by omega)]; exact h2)]
 rfl
theorem flat_beg (se : List Ses) (f : Nat) (hf : f < se.length) (b : Bool) : (se.set f { se.getD f ses0 with beg := b }).flatMap Ses.cs = (se.flatMap Ses.cs).set (f * 3 + 1) (.bool b) := by
 obtain ⟨h0, h1, h2⟩ := ses_flat se f hf
 rw [ses_set se f _ hf, set_same (se.flatMap Ses.cs) (f * 3) _ h0, set_same ((se.flatMap Ses.cs).set (f * 3 + 1) (.bool b)) (f * 3 + 2) _ (by rw [List.getElem?_set_ne (by omega)]; exact h2)]
theorem flat_hm (se : List Ses) (f : Nat) (hf : f < se.length) (m : Option Nat) (H : HL) : (se.set f { se.getD f ses0 with hm := m, H := H }).flatMap Ses.cs = (se.flatMap Ses.cs).set (f * 3 + 2) (.map m) := by
 obtain ⟨h0, h1, h2⟩ := ses_flat se f hf
 rw [ses_set se f _ hf, set_same (se.flatMap Ses.cs) (f * 3) _ h0, set_same (se.flatMap Ses.cs) (f * 3 + 1) _ h1]
theorem flat_H (se : List Ses) (f : Nat) (hf : f < se.length) (H : HL) : (se.set f { se.getD f ses0 with H := H }).flatMap Ses.cs = se.flatMap Ses.cs := by
 obtain ⟨h0, h1, h2⟩ := ses_flat se f hf
 rw [ses_set se f _ hf, set_same (se.flatMap Ses.cs) (f * 3) _ h0, set_same (se.flatMap Ses.cs) (f * 3 + 1) _ h1, set_same (se.flatMap Ses.cs) (f * 3 + 2) _ h2]
theorem ses_mem2 {se : List Ses} {f : Nat} {s x : Ses} (h : x ∈ se.set f s) : x = s ∨ ∃ i, i ≠ f ∧ i < se.length ∧ x = se.getD i ses0 := by
 obtain ⟨i, hi, rfl⟩ := List.getElem_of_mem h
 rw [List.length_set] at hi
 by_cases e : f = i
 · subst e
   exact .inl (by rw [List.getElem_set_self])
 · exact .inr ⟨i, fun h => e h.symm, hi, by rw [List.getElem_set_ne e, List.getD_eq_getElem?_getD, List.getElem?_eq_getElem hi]; rfl⟩
theorem ses_uniq {m : Nat} : ∀ (se : List Ses) (i j : Nat), (se.filterMap Ses.hm).Nodup → i < j → j < se.length → (se.getD i ses0).hm = some m → (se.getD j ses0).hm = some m → False
 | [], _, _, _, _, h, _, _ => by simp at h
 | x :: se, 0, j + 1, hn, _, hj, h1, h2 => by
  have h1 : x.hm = some m := h1
  rw [List.filterMap_cons_some h1] at hn
  have hj' : j < se.length := by simpa using hj
  exact (List.nodup_cons.1 hn).1 (List.mem_filterMap.2 ⟨_, ses_at hj', by simpa using h2⟩)
 | x :: se, i + 1, j + 1, hn, hij, hj, h1, h2 => by
  refine ses_uniq se i j ?_ (by omega) (by simpa using hj) (by simpa using h1) (by simpa using h2)
  rw [List.filterMap_cons] at hn
  cases hx : x.hm with
  | none => rw [hx] at hn; exact hn
  | some k => rw [hx] at hn; exact (List.nodup_cons.1 hn).2
 | _ :: _, _, 0, _, h, _, _, _ => by omega
section
variable {b : Nat} {w0 w w' : World} {l : List Ob} {c : CR}
theorem SW.coLen (h : SW b w0 (coOb c :: l) w) : c.se.length = 16 := (h.get 0 (o := coOb c) rfl).2.2.len
theorem SW.coOk (h : SW b w0 (coOb c :: l) w) : SesOk w c.se := (h.get 0 (o := coOb c) rfl).2.2
theorem SW.coNum (h : SW b w0 (coOb c :: l) w) {f : Nat} (hf : f < 16) (n : Int) : SW b w0 (coOb (c.put f { c.ss f with num := n }) :: l) (w.setCell ⟨c.cp, 2 + f * 3, none⟩ (.int .i64 n)) := by
 have hl := h.coLen
 have ho := h.coOk
 have hm := ses_at (se := c.se) (f := f) (by omega)
 refine h.coSet (2 + f * 3) (.int .i64 n) (co_cells c f _ 0 _ (flat_num c.se f (by omega) n)) rfl (by simp [hl]) (fun s hs m hm' => ?_) (fun s hs hm' => ?_) ?_ rfl (fun hr => hr)
 · rcases ses_mem hs with rfl | hs
   · exact ⟨_, hm, hm', rfl⟩
   · exact ⟨s, hs, hm', rfl⟩
 · rcases ses_mem hs with rfl | hs
   · exact ho.nomap (c.ss f) hm hm'
   · exact ho.nomap s hs hm'
 · exact (ses_eq c.se f { c.ss f with num := n } rfl (by omega)) ▸ ho.uniq
theorem SW.coBeg (h : SW b w0 (coOb c :: l) w) {f : Nat} (hf : f < 16) (v : Bool) : SW b w0 (coOb (c.put f { c.ss f with beg := v }) :: l) (w.setCell ⟨c.cp, 2 + f * 3 + 1, none⟩ (.bool v)) := by
 have hl := h.coLen
 have ho := h.coOk
 have hm := ses_at (se := c.se) (f := f) (by omega)
 refine h.coSet (2 + f * 3 + 1) (.bool v) (co_cells c f _ 1 _ (flat_beg c.se f (by omega) v)) rfl (by simp [hl]) (fun s hs m hm' => ?_) (fun s hs hm' => ?_) ?_ rfl (fun hr => hr)
 · rcases ses_mem hs with rfl | hs
   · exact ⟨_, hm, hm', rfl⟩
   · exact ⟨s, hs, hm', rfl⟩
 · rcases ses_mem hs with rfl | hs
   · exact ho.nomap (c.ss f) hm hm'
   · exact ho.nomap s hs hm'
 · exact (ses_eq c.se f { c.ss f with beg := v } rfl (by omega)) ▸ ho.uniq
theorem SW.coNil (h : SW b w0 (coOb c :: l) w) {f : Nat} (hf : f < 16) : SW b w0 (coOb (c.put f { c.ss f with hm := none, H := [] }) :: l) (w.setCell ⟨c.cp, 2 + f * 3 + 2, none⟩ (.map none)) := by
 have hl := h.coLen
 have ho := h.coOk
 refine h.coSet (2 + f * 3 + 2) (.map none) (co_cells c f _ 2 _ (flat_hm c.se f (by omega) none [])) rfl (by simp [hl]) (fun s hs m hm' => ?_) (fun s hs hm' => ?_) ((ses_sub c.se f _ rfl).nodup ho.uniq) rfl (fun hr => hr)
 · rcases ses_mem hs with rfl | hs
   · cases hm'
   · exact ⟨s, hs, hm', rfl⟩
 · rcases ses_mem hs with rfl | hs
   · rfl
   · exact ho.nomap s hs hm'
/-- A session gets a new map. -/
theorem SW.coMap {m : Nat} (h : SW b w0 (mpOb okID vID vU m ([] : HL) :: coOb c :: l) w) {f : Nat} (hf : f < 16) : SW b w0 (coOb (c.put f { c.ss f with hm := some m, H := [] }) :: l) (w.setCell ⟨c.cp, 2 + f * 3 + 2, none⟩ (.map (some m))) := by
 have hh := h.get 1 (o := coOb c) rfl
 have hmp : MapIs okID vID vU w m ([] : HL) := h.get 0 (o := mpOb okID vID vU m ([] : HL)) rfl
 have ho : SesOk w c.se := hh.2.2
 have hl := ho.len
 have hg : w.grownBy (w.setCell ⟨c.cp, 2 + f * 3 + 2, none⟩ (.map (some m))) (some c.cp) := g_set (p := ⟨c.cp, 2 + f * 3 + 2, none⟩) (g_refl _ _) (.inl rfl) _
 obtain ⟨ha, hp⟩ := List.pairwise_cons.1 h.1.apart
 have hap := ha (coOb c) (List.mem_cons_self ..)
 have hnew : m ∉ c.se.filterMap Ses.hm := fun hi => by
  obtain ⟨s, hs, e⟩ := List.mem_filterMap.1 hi
  exact (hap.1 m rfl).1 (.inr (.inr ⟨s, hs, e⟩))
 have hsz : (w.setCell ⟨c.cp, 2 + f * 3 + 2, none⟩ (.map (some m))).heap.size = w.heap.size := by simp [World.setCell]
 have hhold : (coOb (c.put f { c.ss f with hm := some m, H := [] })).holds (w.setCell ⟨c.cp, 2 + f * 3 + 2, none⟩ (.map (some m))) := by
  refine ⟨?_, ?_, by simp [hl], fun s hs k hk => ?_, fun s hs hk => ?_, ses_new c.se f _ m rfl hnew ho.uniq⟩
  · have := hh.1.set_ (2 + f * 3 + 2) (.map (some m))
    rw [co_cells c f _ 2 _ (flat_hm c.se f (by omega) (some m) [])]
    exact this
  · obtain ⟨r1, r2, r3⟩ := hh.2.1
    refine ⟨r1, r2, fun ad e => ?_⟩
    obtain ⟨g, rfl, ⟨cur, hi, hrr⟩, hlt⟩ := r3 ad e
    refine ⟨g, rfl, ⟨cur, hi.grown hg (fun e => ?_), hrr⟩, by rw [hsz]; exact hlt⟩
    injection e with e
    exact is_ne hi (e ▸ hh.1) (by decide)
  · rcases ses_mem hs with rfl | hs
    · injection hk with hk
      subst hk
      exact hmp.kept hg (fun e => map_is hmp (by injection e with e; rw [e]; exact hh.1))
    · exact (ho.map s hs k hk).kept hg (fun e => map_is (ho.map s hs k hk) (by injection e with e; rw [e]; exact hh.1))
  · rcases ses_mem hs with rfl | hs
    · rfl
    · exact ho.nomap s hs hk
 have hb : Below b w (w.setCell ⟨c.cp, 2 + f * 3 + 2, none⟩ (.map (some m))) := ⟨hg.os, hg.tape, hg.output, hg.size, fun i hi => hg.block i (by have := h.1.base; omega) (fun e => by
  injection e with e
  have := (h.1.own (coOb c) (by simp) c.cp (.inl rfl)).1
  omega)⟩
 refine ⟨⟨Nat.le_trans h.1.base hg.size, fun y hy => ?_, fun y hy i hi => ?_, fun y hy i hi => ?_, List.pairwise_cons.2 ⟨fun y hy => ?_, (List.pairwise_cons.1 hp).2⟩⟩, h.2.trans hb⟩
 · rcases List.mem_cons.1 hy with rfl | hy
   · exact hhold
   · have h1 := (List.pairwise_cons.1 hp).1 y hy
     exact y.stable w _ (h.1.holds y (by simp [hy])) ⟨hg.os, hg.tape, hg.output, hg.size⟩ (fun i hi => hg.block i (by
      rcases hi with hi | hi
      · exact (h.1.own y (by simp [hy]) i hi).2
      · exact h.1.rd y (by simp [hy]) i hi) (fun e => by
      injection e with e
      subst e
      rcases hi with hi | hi
      · exact (h1.1 _ (.inl rfl)).1 hi
      · exact (h1.1 _ (.inl rfl)).2 hi))
 · rw [hsz]
   rcases List.mem_cons.1 hy with rfl | hy
   · rcases hi with hi | hi | ⟨s, hs, hk⟩
     · exact h.1.own (coOb c) (by simp) i (.inl hi)
     · exact h.1.own (coOb c) (by simp) i (.inr (.inl hi))
     · rcases ses_mem hs with rfl | hs
       · injection hk with hk
         subst hk
         exact h.1.own (mpOb okID vID vU m ([] : HL)) (by simp) m rfl
       · exact h.1.own (coOb c) (by simp) i (.inr (.inr ⟨s, hs, hk⟩))
   · exact h.1.own y (by simp [hy]) i hi
 · rw [hsz]
   rcases List.mem_cons.1 hy with rfl | hy
   · exact hi.elim
   · exact h.1.rd y (by simp [hy]) i hi
 · have h1 := (List.pairwise_cons.1 hp).1 y hy
   have h2 := ha y (List.mem_cons_of_mem _ hy)
   refine ⟨fun i hi => ?_, fun i hi hr => hr.elim⟩
   rcases hi with hi | hi | ⟨s, hs, hk⟩
   · exact h1.1 i (.inl hi)
   · exact h1.1 i (.inr (.inl hi))
   · rcases ses_mem hs with rfl | hs
     · injection hk with hk
       subst hk
       exact h2.1 m rfl
     · exact h1.1 i (.inr (.inr ⟨s, hs, hk⟩))
/-- A session holds one more. -/
theorem SW.coUpd (h : SW b w0 (coOb c :: l) w) {f m : Nat} (hf : f < 16) (hm : (c.ss f).hm = some m) {H' : HL} (hM : MapIs okID vID vU w' m H') (hg : w.grownBy w' (some m)) : SW b w0 (coOb (c.put f { c.ss f with H := H' }) :: l) w' := by
 have hh := h.get 0 (o := coOb c) rfl
 have ho : SesOk w c.se := hh.2.2
 have hl := ho.len
 have hat := ses_at (se := c.se) (f := f) (by omega)
 have hmp := ho.map _ hat m hm
 have hmo : (coOb c).own m := .inr (.inr ⟨_, hat, hm⟩)
 have hnew : (coOb (c.put f { c.ss f with H := H' })).holds w' := by
  refine ⟨?_, ?_, by simp [hl], fun s hs k hk => ?_, fun s hs hk => ?_, (ses_eq c.se f { c.ss f with H := H' } rfl (by omega)) ▸ ho.uniq⟩
  · have := hh.1.grown hg (fun e => map_is hmp (by injection e with e; rw [← e]; exact hh.1))
    have e : (c.put f { c.ss f with H := H' }).cells = c.cells := by
     show (Value.pointer (some ⟨c.ps, 0, none⟩) :: .slice c.A c.cand.length c.cap :: (c.se.set f { c.ss f with H := H' }).flatMap Ses.cs).toArray = _
     rw [flat_H c.se f (by omega)]
    rw [e]
    exact this
  · obtain ⟨r1, r2, r3⟩ := hh.2.1
    refine ⟨r1, r2, fun ad e => ?_⟩
    obtain ⟨g, rfl, ⟨cur, hi, hrr⟩, hlt⟩ := r3 ad e
    refine ⟨g, rfl, ⟨cur, hi.grown hg (fun e => map_is hmp (by injection e with e; rw [← e]; exact hi)), hrr⟩, Nat.lt_of_lt_of_le hlt hg.size⟩
  · have hs2 := ses_mem2 hs
    by_cases hns : s = { c.ss f with H := H' }
    · subst hns
      have hk : (c.ss f).hm = some k := hk
      rw [hm] at hk
      injection hk with hk
      subst hk
      exact hM
    · have hs : s ∈ c.se := by
       rcases ses_mem hs with e | hs
       · exact absurd e hns
       · exact hs
      exact (ho.map s hs k hk).kept hg (fun e2 => by
       injection e2 with e2
       subst e2
       rcases hs2 with e3 | ⟨i, hi1, hi2, rfl⟩
       · exact hns e3
       · rcases Nat.lt_or_gt_of_ne hi1 with hlt | hlt
         · exact ses_uniq c.se i f ho.uniq hlt (by omega) hk hm
         · exact ses_uniq c.se f i ho.uniq hlt hi2 hm hk)
  · rcases ses_mem hs with rfl | hs
    · have hk : (c.ss f).hm = none := hk
      rw [hm] at hk
      cases hk
    · exact ho.nomap s hs hk
 have := h.1.step (o := coOb c) (o' := coOb (c.put f { c.ss f with H := H' })) (Fr.grown hg hmo (fun i hi => .inl (by
  rcases hi with hi | hi | ⟨s, hs, hk⟩
  · exact .inl hi
  · exact .inr (.inl hi)
  · rcases ses_mem hs with rfl | hs
    · exact .inr (.inr ⟨_, hat, hk⟩)
    · exact .inr (.inr ⟨s, hs, hk⟩)))) (fun i hi => hi.elim) hnew (fun i hi => by
  rcases hi with hi | hi
  · exact coOb_lt hnew hi
  · exact hi.elim)
 exact ⟨this.1, h.2.trans this.2⟩
end
end Go.Proofs.YteabgcollokgjaaGreatDoor
namespace Go.Proofs.YteabgcollokgjaaGreatDoor
open Go.RowKit Go.MapKept Go.ChangeMaps Go.Shelf Go.Sort

section
variable {b : Nat} {w0 w : World} {l : List Ob} {c : CR}
set_option maxRecDepth 100000 in
set_option maxHeartbeats 4000000 in
theorem Keep_any (h : SW b w0 (coOb c :: l) w) (A : Option Addr) (cap : Nat) (ids : List ID) (hA : riOb A ids ∈ l) (hi : ∀ i ∈ ids, okID i) (hc : ∀ i ∈ c.cand, okID i) (hl : ids.length ≤ 100000) (hl2 : c.cand.length ≤ 100000) :
 Calls Tryz.prog 75 #[vPtr c.cp, .slice A ids.length cap] w (fun e w' => e = .returned (.tuple #[]) ∧ SW b w0 (coOb { c with cand := lessL (setI ids) c.cand } :: l) w') := by
 have H := Lib.hid h
 have HS := Lib.hid (fun cc => set_any h A cc ids (List.mem_cons_of_mem _ hA) hi hl)
 have HC := Lib.hid hc
 have HL := Lib.hid hl2
 clear h hA hi hc hl hl2
 go_enter Tryz.func75, Tryz.ntmps75
 go_wp2_with (go_at_call 113; (with_reducible refine (HS.out _).mono ?_); rintro e w1 ⟨rfl, s1⟩; have S1 : Hid (SW b w0 (coOb c :: mpOb okID vID vU w.heap.size (setI ids) :: l) w1) := SW.front (pre := [_, _]) s1 [1, 0] (n := 2) rfl (by decide); clear s1)
 go_wp2_with (go_at_call 112; (with_reducible refine (drop_any S1.out HC.out HL.out).mono ?_); rintro e w2 ⟨rfl, s2⟩; have S2 : Hid (SW b w0 (coOb { c with cand := lessL (setI ids) c.cand } :: l) w2) := (SW.front (pre := [_, _]) s2 [1, 0] (n := 2) rfl (by decide)).tail; clear s2)
 go_end0
 exact ⟨rfl, S2.out⟩
end
end Go.Proofs.YteabgcollokgjaaGreatDoor
namespace Go.Proofs.YteabgcollokgjaaGreatDoor
open Go.RowKit Go.MapKept Go.ChangeMaps Go.Shelf Go.Sort

section
variable {b : Nat} {w0 w : World} {l : List Ob} {c : CR}
abbrev pNum (N : Int) : Ses → Bool := fun s => s.beg && (s.num == N)
/-- A session ended. -/
abbrev CR.ended (c : CR) (f : Nat) : CR := (c.put f { c.ss f with beg := false }).put f { (c.put f { c.ss f with beg := false }).ss f with hm := none, H := [] }
set_option maxRecDepth 100000 in
set_option maxHeartbeats 4000000 in
theorem End_none (h : SW b w0 (coOb c :: l) w) (N : Int) (ho : fiO (pNum N) c.se = none) :
 Calls Tryz.prog 67 #[vPtr c.cp, .int .i64 N] w (fun e w' => e = .returned (.int .i64 401) ∧ SW b w0 (coOb c :: l) w') := by
 have H := Lib.hid h
 have HF := Lib.hid (find_any (h.get 0 (o := coOb c) rfl) N)
 have hv : fiV (pNum N) c.se = -1 := by unfold fiV; rw [ho]
 rw [hv] at HF
 clear h ho hv
 go_enter Tryz.func67, Tryz.ntmps67
 go_wp2_with (go_at_call 119; (with_reducible refine HF.out.mono ?_); rintro e w1 ⟨rfl, hb1⟩; have S1 := Lib.hid (H.out.on hb1); clear hb1)
 go_ret
 exact ⟨rfl, S1.out⟩
set_option maxRecDepth 100000 in
set_option maxHeartbeats 4000000 in
theorem End_some (h : SW b w0 (coOb c :: l) w) (N : Int) (f : Nat) (ho : fiO (pNum N) c.se = some f) :
 Calls Tryz.prog 67 #[vPtr c.cp, .int .i64 N] w (fun e w' => e = .returned (.int .i64 0) ∧ SW b w0 (coOb (c.ended f) :: l) w') := by
 have H := Lib.hid h
 have HF := Lib.hid (find_any (h.get 0 (o := coOb c) rfl) N)
 have hv : fiV (pNum N) c.se = (f : Int) := by unfold fiV; rw [ho]
 have hf : f < 16 := by rw [← h.coLen]; exact (fiO_lt ho).1
 rw [hv] at HF
 clear h ho hv
 go_enter Tryz.func67, Tryz.ntmps67
 go_wp2_with (go_at_call 119; (with_reducible refine HF.out.mono ?_); rintro e w1 ⟨rfl, hb1⟩; have S1 := Lib.hid (H.out.on hb1); clear hb1)
 have hh := S1.out.get 0 (o := coOb c) rfl
 obtain ⟨a0, a1, a2⟩ := CR.ses hh hf
 have z1 : w1.frozen? ⟨c.cp, 2 + f * 3 + 1, none⟩ = false := hh.1.frozen _
 have z2 : w1.frozen? ⟨c.cp, 2 + f * 3 + 2, none⟩ = false := hh.1.frozen _
 clear hh
 go_region
 go_wp2_with fail
 go_ret
 exact ⟨rfl, ((S1.out.coBeg hf false).coNil hf).drew⟩
end
end Go.Proofs.YteabgcollokgjaaGreatDoor
namespace Go.Proofs.YteabgcollokgjaaGreatDoor
open Go.RowKit Go.MapKept Go.ChangeMaps Go.Shelf Go.Sort

section
variable {b : Nat} {w0 w : World} {l : List Ob} {c : CR}
abbrev pFree : Ses → Bool := fun s => !s.beg
/-- A session begun. -/
abbrev CR.bg (c : CR) (f : Nat) (N : Int) : CR := (c.put f { c.ss f with num := N }).put f { (c.put f { c.ss f with num := N }).ss f with beg := true }
abbrev CR.begun (c : CR) (f : Nat) (N : Int) (m : Nat) : CR := (c.bg f N).put f { (c.bg f N).ss f with hm := some m, H := [] }
set_option maxRecDepth 100000 in
set_option maxHeartbeats 4000000 in
theorem Begin_new (h : SW b w0 (coOb c :: l) w) (N : Int) (hN : 0 ≤ N) (f : Nat) (ho : fiO pFree c.se = some f) (hg : fiO (pNum N) c.se = none) :
 Calls Tryz.prog 71 #[vPtr c.cp, .int .i64 N] w (fun e w' => e = .returned (.int .i64 0) ∧ ∃ m, SW b w0 (coOb (c.begun f N m) :: l) w') := by
 have H := Lib.hid h
 have HF := Lib.hid (index123 (h.get 0 (o := coOb c) rfl))
 have hv : fiV pFree c.se = (f : Int) := by unfold fiV; rw [ho]
 have hf : f < 16 := by rw [← h.coLen]; exact (fiO_lt ho).1
 rw [hv] at HF
 have HG := Lib.hid (fun (w1 : World) (s1 : SW b w0 (coOb c :: l) w1) => find_any (s1.get 0 (o := coOb c) rfl) N)
 have hv2 : fiV (pNum N) c.se = -1 := by unfold fiV; rw [hg]
 rw [hv2] at HG
 have hN' : decide (N < 0) = false := decide_eq_false (by omega)
 have hd2 : decide (((f : Nat) : Int) < 0) = false := decide_eq_false (by omega)
 clear h ho hv hg hv2
 go_enter Tryz.func71, Tryz.ntmps71
 go_wp2_with (go_at_call 122; (with_reducible refine HF.out.mono ?_); rintro e w1 ⟨rfl, hb1⟩; have S1 := Lib.hid (H.out.on hb1); clear hb1)
 go_wp2_with (go_at_call 119; (with_reducible refine (HG.out _ S1.out).mono ?_); rintro e w2 ⟨rfl, hb2⟩; have S2 := Lib.hid (S1.out.on hb2); clear hb2)
 have hh := S2.out.get 0 (o := coOb c) rfl
 obtain ⟨a0, a1, a2⟩ := CR.ses hh hf
 have z0 : w2.frozen? ⟨c.cp, 2 + f * 3, none⟩ = false := hh.1.frozen _
 have z1 : w2.frozen? ⟨c.cp, 2 + f * 3 + 1, none⟩ = false := hh.1.frozen _
 clear hh
 go_region
 have S3 : Hid (SW b w0 (coOb (c.bg f N) :: l) _) := Lib.hid (((S2.out.coNum hf N).coBeg hf true).drew)
 clear a0 a1 a2 z0 z1
 generalize World.drew _ = W at S3 ⊢
 have S4 : Hid (SW b w0 (mpOb okID vID vU W.heap.size ([] : HL) :: coOb (c.bg f N) :: l) (W.alloc (.map #[] 0))) := S3.out.addMp
 have hh := S4.out.get 1 (o := coOb (c.bg f N)) rfl
 obtain ⟨v, a2⟩ : ∃ v, (W.alloc (.map #[] 0)).cell? ⟨c.cp, 2 + f * 3 + 2, none⟩ = some v := ⟨_, (CR.ses hh hf).2.2⟩
 have z2 : (W.alloc (.map #[] 0)).frozen? ⟨c.cp, 2 + f * 3 + 2, none⟩ = false := hh.1.frozen _
 clear hh
 have hmk : (Instr.makeMap 178 none).run Tryz.prog W = .ok (.map (some W.heap.size)) (W.alloc (.map #[] 0)) := rfl
 go_wp2_with fail
 go_ret
 exact ⟨rfl, _, S4.out.coMap hf⟩
end
end Go.Proofs.YteabgcollokgjaaGreatDoor
namespace Go.Proofs.YteabgcollokgjaaGreatDoor
open Go.RowKit Go.MapKept Go.ChangeMaps Go.Shelf Go.Sort

section
variable {b : Nat} {w0 w : World} {l : List Ob} {c : CR}
set_option maxRecDepth 100000 in
set_option maxHeartbeats 2000000 in
theorem Left_any (h : SW b w0 (coOb c :: l) w) : Calls Tryz.prog 63 #[vPtr c.cp] w (fun e w' => e = .returned (.int .i64 (c.cand.length : Int)) ∧ SW b w0 (coOb c :: l) w') := by
 have H := Lib.hid h
 have k1 := CR.cell1 (h.get 0 (o := coOb c) rfl)
 clear h
 go_enter Tryz.func63, Tryz.ntmps63
 go_wp2_with fail
 go_ret
 exact ⟨rfl, H.out⟩
/-- What the store says of an address. -/
abbrev HasC (b : Nat) (w0 : World) (c : CR) (l : List Ob) (i : ID) (v : Bool) : Prop := ∀ w', SW b w0 (coOb c :: l) w' → Calls Tryz.prog 46 #[vPtr c.ps, .agg #[.int .u64 i.1, .int .i64 i.2]] w' (fun e w'' => e = .returned (.bool v) ∧ Below w'.heap.size w' w'')
end
end Go.Proofs.YteabgcollokgjaaGreatDoor
namespace Go.Proofs.YteabgcollokgjaaGreatDoor
open Go.RowKit Go.MapKept Go.ChangeMaps Go.Shelf Go.Sort

section
variable {b : Nat} {w0 w : World} {l : List Ob} {c : CR}
set_option maxRecDepth 100000 in
set_option maxHeartbeats 4000000 in
theorem Touch_held (h : SW b w0 (coOb c :: l) w) (N : Int) (f : Nat) (ho : fiO (pNum N) c.se = some f) (m : Nat) (hm : (c.ss f).hm = some m) (i : ID) (hi : okID i) (HH : HasC b w0 c l i true) :
 Calls Tryz.prog 73 #[vPtr c.cp, .int .i64 N, .agg #[.int .u64 i.1, .int .i64 i.2]] w (fun e w' => e = .returned (.tuple #[.bool true, .int .i64 0]) ∧ SW b w0 (coOb (c.put f { c.ss f with H := setL (c.ss f).H i () }) :: l) w') := by
 have H := Lib.hid (h.newCell 31 #[.int .u64 i.1, .int .i64 i.2])
 have HF := Lib.hid (find_any (H.out.get 1 (o := coOb c) rfl) N)
 have hv : fiV (pNum N) c.se = (f : Int) := by unfold fiV; rw [ho]
 have hf : f < 16 := by rw [← h.coLen]; exact (fiO_lt ho).1
 rw [hv] at HF
 have HH := Lib.hid HH
 have HM := Lib.hid hm
 have HI := Lib.hid hi
 clear h ho hv hm hi
 go_enter Tryz.func73, Tryz.ntmps73
 go_wp2_with (go_at_call 119; (with_reducible refine HF.out.mono ?_); rintro e w1 ⟨rfl, hb1⟩; have S1 := Lib.hid (H.out.on hb1); clear hb1)
 have k0 := CR.cell0 (S1.out.get 1 (o := coOb c) rfl)
 have d0 := (S1.out.cell 0 rfl).cell 0
 have d1 := (S1.out.cell 0 rfl).cell 1
 go_region_with (go_at_call 46; (with_reducible refine (HH.out _ S1.out.drew.tail).mono ?_); rintro e w2 ⟨rfl, hb2⟩; have S2 := Lib.hid (S1.out.drew.on hb2); clear hb2)
 all_goals
  have S3 := Lib.hid S2.out.drew
  have hh := S3.out.get 1 (o := coOb c) rfl
  obtain ⟨a0, a1, a2⟩ := CR.ses hh hf
  rw [HM.out] at a2
  have c0 := (S3.out.cell 0 rfl).cell 0
  have c1 := (S3.out.cell 0 rfl).cell 1
  obtain ⟨w4, hu, hm4, hg4, hz4⟩ := MapIs.update mkI Tryz.underlying178 (hh.2.2.map _ (ses_at (se := c.se) (f := f) (by rw [hh.2.2.len]; exact hf)) m HM.out) HI.out ()
  have hu' : (Instr.mapUpdate 178 (.map (some m)) (.agg #[.int .u64 i.1, .int .i64 i.2]) (.agg #[])).run Tryz.prog w2.drew = .ok () w4 := hu
  have S4 := Lib.hid (S3.out.tail.coUpd hf HM.out hm4 hg4)
  clear hu hm4 hg4 hh
  have hfi : ((f : Nat) : Int) < 16 := by omega
  go_upto_region 6 with fail
  go_region
 all_goals (go_wp2_with fail; go_ret2; exact ⟨rfl, S4.out⟩)
end
end Go.Proofs.YteabgcollokgjaaGreatDoor
namespace Go.Proofs.YteabgcollokgjaaGreatDoor
open Go.RowKit Go.MapKept Go.ChangeMaps Go.Shelf Go.Sort

section
variable {b : Nat} {w0 w : World} {l l' : List Ob} {c : CR}
end
end Go.Proofs.YteabgcollokgjaaGreatDoor
namespace Go.Proofs.YteabgcollokgjaaGreatDoor
open Go.RowKit Go.MapKept Go.ChangeMaps Go.Shelf Go.Sort

section
variable {b : Nat} {w0 w : World} {l : List Ob} {Φ : List Ob → Prop} {c : CR}
end
end Go.Proofs.YteabgcollokgjaaGreatDoor
namespace Go.Proofs.YteabgcollokgjaaGreatDoor
open Go.RowKit Go.MapKept Go.ChangeMaps Go.Shelf Go.Sort

section
variable {b : Nat} {w0 w : World} {l : List Ob} {Φ : List Ob → Prop} {c : CR}
end
end Go.Proofs.YteabgcollokgjaaGreatDoor
namespace Go.Proofs.YteabgcollokgjaaGreatDoor
open Go.RowKit Go.MapKept Go.ChangeMaps Go.Shelf Go.Sort

section
variable {b : Nat} {w0 w : World} {l l' : List Ob} {c : CR}
theorem run_load181 (h : (coOb c).holds w) : (Instr.loadAt 181 (.pointer (some ⟨c.cp, 2, none⟩))).run Tryz.prog w = .ok (.agg (c.se.flatMap Ses.cs).toArray) w := by
 have hl : (c.se.flatMap Ses.cs).length = 48 := by rw [ses_len, h.2.2.len]
 have hc := run_loadCells_list (P := Tryz.prog) w ⟨c.cp, 2, none⟩ (c.se.flatMap Ses.cs) (fun j v hj => by
  have := h.1.cell (2 + j)
  rw [Addr.add_lit]
  rw [this]
  show (Value.pointer (some ⟨c.ps, 0, none⟩) :: Value.slice c.A c.cand.length c.cap :: c.se.flatMap Ses.cs).toArray[2 + j]? = some v
  rw [List.getElem?_toArray, show 2 + j = j + 1 + 1 by omega, List.getElem?_cons_succ, List.getElem?_cons_succ]
  exact hj)
 rw [hl] at hc
 simp [Instr.loadAt, Instr.sureAddr, loadVar, isAgg, run_underlying Tryz.underlying181, Tryz.sizeOf181, hc]
theorem ses_extract (se : List Ses) (k : Nat) (hk : k < se.length) : (se.flatMap Ses.cs).toArray.extract (k * 3) (k * 3 + 3) = #[.int .i64 (se.getD k ses0).num, .bool (se.getD k ses0).beg, .map (se.getD k ses0).hm] := by
 have hl := ses_len se
 apply Array.ext_getElem?
 intro j
 by_cases hj : j < 3
 · rw [Array.getElem?_extract, if_pos (by simp only [List.size_toArray]; omega), List.getElem?_toArray, ses_get se k j hk hj]
   match j, hj with
   | 0, _ => rfl
   | 1, _ => rfl
   | 2, _ => rfl
 · rw [Array.getElem?_eq_none (by simp only [Array.size_extract, List.size_toArray]; omega), Array.getElem?_eq_none (by simp; omega)]
theorem run_index181 (se : List Ses) (hl : se.length = 16) (k : Nat) (hk : k < 16) (w : World) : (Instr.index 181 (.agg (se.flatMap Ses.cs).toArray) (.int .i64 (k : Int))).run Tryz.prog w = .ok (.agg #[.int .i64 (se.getD k ses0).num, .bool (se.getD k ses0).beg, .map (se.getD k ses0).hm]) w := by
 have h1 : (0 : Int) ≤ (k : Int) ∧ (k : Int) < 16 := ⟨by omega, by omega⟩
 have e := ses_extract se k (by omega)
 generalize (se.flatMap Ses.cs).toArray = cs at e ⊢
 rw [← e]
 simp [Instr.index, asIntOf, part, isAgg, run_underlying Tryz.underlying181, run_underlying Tryz.underlying180, Tryz.sizeOf180, h1, hk]
theorem wpList_load181 {w : World} {ops : Array Oper} {rest : List Oper} {o : Oper} {a : Act} {Q : Exit → Act → World → Prop} (hg : o.guard = none) (x : Operand) (hop : o.op = Op.load 181 x) (hx : a.eval x = .pointer (some ⟨c.cp, 2, none⟩)) (hh : (coOb c).holds w)
 (h : wpList Tryz.prog ops Q rest (a.put o.dst (.agg (c.se.flatMap Ses.cs).toArray)) w) : wpList Tryz.prog ops Q (o :: rest) a w := by
 refine wpList_plain hg fun K hK' => ?_
 have hrun := run_load181 hh
 unfold Oper.wp
 simp [execOp, hop, hx, hrun, Result.andThen]
 exact hK' _ _ h
end
end Go.Proofs.YteabgcollokgjaaGreatDoor
namespace Go.Proofs.YteabgcollokgjaaGreatDoor
open Go.RowKit Go.MapKept Go.ChangeMaps Go.Shelf Go.Sort

section
variable {b : Nat} {w0 w : World} {l l' : List Ob} {c : CR}
theorem look_hm {s : Ses} (hs : s ∈ c.se) (h : (coOb c).holds w) {i : ID} (hi : okID i) : (Instr.lookup 178 (.map s.hm) (.agg #[.int .u64 i.1, .int .i64 i.2]) true).run Tryz.prog w = .ok (.tuple #[.agg #[], .bool (asc s.H i).isSome]) w := by
 cases e : s.hm with
 | none =>
  have : s.H = [] := h.2.2.nomap s hs e
  rw [this]
  have z : (zeroValue 170).run Tryz.prog w = .ok (.agg #[]) w := by kernel_rfl
  have hf : (Instr.findKey 31 (.agg #[.int .u64 i.1, .int .i64 i.2]) []).run Tryz.prog w = .ok none w := run_findKey Tryz.underlying31 rfl
  have hck : (Instr.checkKey true 10000 31 (.agg #[.int .u64 i.1, .int .i64 i.2])).run Tryz.prog w = .ok () w := mkI.K.check w _ (keyOf31 i hi)
  simp [Instr.lookup, run_underlying Tryz.underlying178, hf, hck, z, asc, Result.andThen]
 | some m => exact look_u (h.2.2.map s hs m e) hi
/-- Some session holds it. -/
abbrev heldC (c : CR) (i : ID) : Bool := c.se.any fun s => (asc s.H i).isSome
set_option maxRecDepth 100000 in
set_option maxHeartbeats 4000000 in
theorem held_any (h : SW b w0 (coOb c :: l) w) (i : ID) (hi : okID i) :
 Calls Tryz.prog 111 #[vPtr c.cp, .agg #[.int .u64 i.1, .int .i64 i.2]] w (fun e w' => e = .returned (.bool (heldC c i)) ∧ SW b w0 (coOb c :: l) w') := by
 have H := Lib.hid (h.newCell 31 #[.int .u64 i.1, .int .i64 i.2])
 have HI := Lib.hid hi
 have hlen := h.coLen
 have HH := Lib.hid (H.out.get 1 (o := coOb c) rfl)
 clear h hi
 go_enter Tryz.func111, Tryz.ntmps111
 go_wp2_with (refine wpList_load181 rfl (.tmp 11) rfl rfl HH.out ?_)
 clear HH
 generalize w.alloc (.cells #[.int .u64 i.1, .int .i64 i.2] 31) = wa at H ⊢
 go_loopw [13] (fun s13 wr => ∃ k : Nat, k ≤ 16 ∧ s13 = .int .i64 (k : Int) ∧ (∀ j, j < k → (asc (c.se.getD j ses0).H i).isSome = false) ∧ SW b w0 (cellOb w.heap.size 31 #[.int .u64 i.1, .int .i64 i.2] :: coOb c :: l) wr) (fun s13 _ => 16 - (intOf s13).toNat)
 case atStart => exact ⟨0, by omega, rfl, fun j hj => by omega, H.out⟩
 case round =>
  obtain ⟨k, hk, rfl, hb, hs⟩ := hrel
  have HB := Lib.hid hb
  have S1 := Lib.hid hs
  clear hb hs H
  by_cases hlt : k < 16
  · have hix := run_index181 c.se hlen k hlt wr
    have hmem := ses_at (se := c.se) (f := k) (by omega)
    obtain ⟨s, hsk⟩ : ∃ s, c.se.getD k ses0 = s := ⟨_, rfl⟩
    rw [hsk] at hix hmem
    have HSK := Lib.hid hsk
    have S2 := Lib.hid (S1.out.newCell 180 #[.int .i64 s.num, .bool s.beg, .map s.hm])
    have hlk := look_hm hmem (S2.out.get 2 (o := coOb c) rfl) HI.out
    have a2 := (S2.out.cell 0 rfl).cell 2
    have d0 := (S2.out.cell 1 rfl).cell 0
    have d1 := (S2.out.cell 1 rfl).cell 1
    have HMEM := Lib.hid hmem
    clear hsk hmem
    obtain ⟨v, hv⟩ : ∃ v, (asc s.H i).isSome = v := ⟨_, rfl⟩
    rw [hv] at hlk
    have HV := Lib.hid hv
    clear hv
    cases v with
    | true =>
     go_wp2_with fail
     go_ret
     refine ⟨?_, ?_⟩
     · have e : heldC c i = true := List.any_eq_true.2 ⟨s, HMEM.out, HV.out⟩
       rw [e]
       rfl
     · exact (S2.out.alloc _).tail.tail
    | false =>
     go_wp2_with fail
     go_roundw
     case rel =>
      refine ⟨k + 1, by omega, by go_num, fun j hj => ?_, (S2.out.alloc _).tail⟩
      by_cases e : j = k
      · subst e
        rw [HSK.out]
        exact HV.out
      · exact HB.out j (by omega)
     case measure => simp [intOf]; omega
  · obtain rfl : k = 16 := by omega
    go_wp2_with fail
    go_ret
    refine ⟨?_, S1.out.tail⟩
    have e : heldC c i = false := by
     rw [Bool.eq_false_iff]
     intro h
     obtain ⟨s, hs, hp⟩ := List.any_eq_true.1 h
     obtain ⟨j, hj, rfl⟩ := List.getElem_of_mem hs
     have := HB.out j (by omega)
     rw [List.getD_eq_getElem?_getD, List.getElem?_eq_getElem hj] at this
     have hp : (asc c.se[j].H i).isSome = true := hp
     have this : (asc c.se[j].H i).isSome = false := this
     rw [hp] at this
     cases this
    rw [e]
    rfl
end
end Go.Proofs.YteabgcollokgjaaGreatDoor
