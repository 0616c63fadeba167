/- Proves Rows.CollectorSafeCardSaid: for every input CollectorSafe returns true, and each argument reads afterwards as before. The card's five laid variables are not read. -/
import Derived.Test.YteabgcollokgjaaGreatDoorQ32
import Derived.Test.YteabgcollokgjaaGreatDoorQ33
import Derived.Test.YteabgcollokgjaaGreatDoorQ26
import Derived.Test.YteabgcollokgjaaGreatDoorQKE
import Derived.Deep.CutRange
import Derived.Deep.CutBlock
import Derived.Test.YteabgcollokgjaaGreatDoorCards
import Derived.Test.YteabgcollokgjaaGreatDoorTie
import Derived.WalkKit
import Derived.ProofKit
import Derived.OpenShut
import Derived.ChangeOld
import Derived.Below
import Derived.Handy
import Derived.Lay
import Derived.SevenTiedAt
import Derived.Test.YteabgcollokgjaaGreatDoorQ34
import Derived.Test.YteabgcollokgjaaGreatDoorQKCollectorSafe
import Derived.Test.YteabgcollokgjaaGreatDoorQJCollectorSafe
namespace Go.Proofs.YteabgcollokgjaaGreatDoor
open Go.RowKit Go.MapKept Go.ChangeMaps Go.Shelf Go.Sort

section
variable {b : Nat} {w0 w w' : World} {l : List Ob}
theorem wpList_rowM {ops : Array Oper} {o : Oper} {rest : List Oper} {a : Act} {Q : Exit → Act → World → Prop} {t e : TypeId} {i : TypeInfo} {z : Value} {size bytes : Nat} (hS : SW b w0 l w) (k : Nat) {v : Value} {n : Nat} {xs : List Value} (hk : l[k]? = some (rowOb e size v n xs))
 (hgd : o.guard = none) (s x : Operand) (ho : o.op = .call { callee := .builtin .append, args := #[s, x], argTypes := #[t, t] })
 (ht : Tryz.prog.underlying t = some (.slice e)) (hi : Tryz.prog.info? e = some i) (hz : i.zero = some z) (hsize : i.size = size) (hby : i.bytes = bytes) (hzs : z.cells.size = size) (hsz : 0 < size)
 (hs : a.eval s = v) (A : Option Addr) (m c : Nat) (news : List Value) (hx : a.eval x = .slice A m c) (hl : news.length = m * size) (hA : 0 < m → ∃ ad, A = some ad ∧ ∀ j u, news[j]? = some u → w.cell? (ad.add j) = some u) (h1 : ∀ u ∈ news, u.oneCell' = true)
 (h63 : n + m ≤ maxLen) (hbytes : (n + m) * bytes ≤ 140737488355328)
 (h : ∀ v' w', SW b w0 (l.set k (rowOb e size v' (n + m) (xs ++ news))) w' → wpList Tryz.prog ops Q rest (a.put o.dst v') w') :
 wpList Tryz.prog ops Q (o :: rest) a w := by
 have := step_rowM (ops := ops) (Q := Q) (E := False) (K := wpList Tryz.prog ops Q rest) hS k hk hgd s x ho ht hi hz hsize hby hzs hsz hs A m c news hx hl hA h1 h63 hbytes h
 have hw : Region.wanted o (yielded ops a.tmps) = true := by simp [Region.wanted, hgd]
 rw [if_pos hw] at this
 unfold wpList
 first
  | (rw [if_pos hw]; exact .inl this)
  | (simp only [hw, if_true]; exact .inl this)
  | (simp only [hw, if_true]; exact this)
/-- The source of IDs that are appended. -/
theorem ri_src {A : Option Addr} {ids : List ID} (h : (riOb A ids).holds w) : 0 < ids.length → ∃ ad, A = some ad ∧ ∀ j u, (ids.flatMap encID)[j]? = some u → w.cell? (ad.add j) = some u := fun hp => by
 cases A with
 | none =>
  rw [h.1 rfl] at hp
  simp at hp
 | some ad =>
  obtain ⟨g, rfl, hr, hlt⟩ := h.2 ad rfl
  refine ⟨_, rfl, fun j u hu => ?_⟩
  have hj := (List.getElem?_eq_some_iff.1 hu).1
  rw [flat_len encID_len] at hj
  have hj2 : j = j / 2 * 2 + j % 2 := by omega
  have hq : j / 2 < ids.length := by omega
  obtain ⟨c0, c1, _, _⟩ := hr.cells hq rfl
  rw [hj2, flat_at encID_len id0 ids (j / 2) (j % 2) hq (by omega)] at hu
  rw [lit_add, Nat.zero_add, hj2]
  have : j % 2 = 0 ∨ j % 2 = 1 := by omega
  rcases this with e | e
  · rw [e] at hu ⊢
    rw [Nat.add_zero, c0]
    simpa [encID] using hu
  · rw [e] at hu ⊢
    rw [c1]
    simpa [encID] using hu
theorem encID_all (ids : List ID) : ∀ u ∈ ids.flatMap encID, u.oneCell' = true := fun u hu => by
 obtain ⟨i, _, hi⟩ := List.mem_flatMap.1 hu
 exact encID_one i u hi
end
section
variable {L : List Int} {p q : PR}
theorem bg_cand (h1 : BgOk L p) (h2 : BgOk L q) : p.co.cand = q.co.cand := by
 obtain ⟨ys1, e1, p1, s1⟩ := h1.cand
 obtain ⟨ys2, e2, p2, s2⟩ := h2.cand
 rw [e1, e2, ids_uniq p1 p2 s1 s2 h1.cl.keys h2.cl.keys (fun i => by rw [← asc_key, ← asc_key, h1.tx.has, h2.tx.has])]
theorem bg_nodup (h : BgOk L p) : p.co.cand.Nodup := by
 obtain ⟨ys, e, hp, _⟩ := h.cand
 rw [e]
 exact lessL_nodup (hp.nodup_iff.2 h.cl.keys)
theorem bg_key (h : BgOk L p) {i : ID} (hi : i ∈ p.co.cand) : i ∈ p.x.C.map (·.1) ∧ i ∉ (bgE L).live := by
 obtain ⟨ys, e, hp, _⟩ := h.cand
 rw [e, lessL_mem] at hi
 exact ⟨hp.mem_iff.1 hi.1, hi.2⟩
theorem bg_ids (h : BgOk L p) : ∀ i ∈ p.co.cand, okID i := fun i hi => by
 obtain ⟨t, _, e, ht⟩ := h.tx.key (bg_key h hi).1
 rw [← e]
 exact ht.ok
theorem bg_clen (h : BgOk L p) : p.co.cand.length ≤ 11 := by
 obtain ⟨ys, e, hp, _⟩ := h.cand
 have h1 := hp.length_eq
 rw [List.length_map] at h1
 have h2 := lessL_le (setI (bgE L).live) ys
 have h3 := h.few
 rw [e]
 omega
theorem bg_ok (h : BgOk L p) : p.co.ok := ok_start h.se
theorem take_more {C : List ID} {m t : Nat} (hm : m ≤ C.length) {R : List ID} (hR : (C.drop m).take t = R) : C.take (m + R.length) = C.take m ++ R ∧ C.drop (m + R.length) = (C.drop m).drop t ∧ m + R.length ≤ C.length ∧ (1 ≤ t → m < C.length → 1 ≤ R.length) := by
 subst hR
 have hl : ((C.drop m).take t).length = min t (C.length - m) := by rw [List.length_take, List.length_drop]
 have h1 : m + ((C.drop m).take t).length ≤ C.length := by omega
 have e1 : C.take (m + t) = C.take m ++ (C.drop m).take t := List.take_add
 refine ⟨?_, ?_, h1, fun h2 h3 => by omega⟩
 · rw [← e1]
   by_cases hle : m + t ≤ C.length
   · rw [hl, Nat.min_eq_left (by omega)]
   · rw [List.take_of_length_le (l := C) (i := m + t) (by omega), List.take_of_length_le (by omega)]
 · rw [List.drop_drop]
   by_cases hle : m + t ≤ C.length
   · rw [hl, Nat.min_eq_left (by omega)]
   · rw [List.drop_eq_nil_of_le (show C.length ≤ m + t by omega), List.drop_eq_nil_of_le (by omega)]
end
end Go.Proofs.YteabgcollokgjaaGreatDoor
namespace Go.Proofs.YteabgcollokgjaaGreatDoor
open Go.RowKit Go.MapKept Go.ChangeMaps Go.Shelf Go.Sort

/-- What is sure is there, and no step takes it. -/
structure SafeI (live S : List ID) (kp sp : Nat) (c : CR) (x : SR) : Prop where
 cp : c.cp = kp
 ps : c.ps = x.ps
 xp : x.ps = sp
 ok : c.ok
 ids : ∀ i ∈ c.cand, okID i
 len : c.cand.length ≤ 11
 cl : Cl [fileN nmS] x
 tx : ∃ P, TX x P
 alive : ∀ i ∈ live, i ∉ c.cand
 sure : ∀ i ∈ S, (asc x.C i).isSome = true ∧ (i ∉ c.cand ∨ heldC c i = true)
section
variable {live S : List ID} {kp sp : Nat} {c c' : CR} {x x' : SR}
theorem SafeI.start {L : List Int} {p : PR} (h : BgOk L p) : SafeI (bgE L).live (bgE L).live p.co.cp p.x.ps p.co p.x := by
 refine ⟨rfl, h.ps, rfl, bg_ok h, bg_ids h, bg_clen h, h.cl, ⟨_, h.tx⟩, fun i hi hm => (bg_key h hm).2 hi, fun i hi => ⟨?_, .inl (fun hm => (bg_key h hm).2 hi)⟩⟩
 rw [h.tx.has, decide_eq_true_eq]
 exact (bgS_live L (bgK L)).2 i hi
/-- Another session, what is held is held. -/
theorem SafeI.same (h : SafeI live S kp sp c x) (hs : Same c c') (hh : ∀ i, heldC c i = true → heldC c' i = true) : SafeI live S kp sp c' x := by
 refine ⟨hs.cp.trans h.cp, hs.ps.trans h.ps, h.xp, hs.ok, by rw [hs.cand]; exact h.ids, by rw [hs.cand]; exact h.len, h.cl, h.tx, by rw [hs.cand]; exact h.alive, fun i hi => ?_⟩
 obtain ⟨h1, h2⟩ := h.sure i hi
 refine ⟨h1, ?_⟩
 rw [hs.cand]
 exact h2.imp id (hh i)
/-- A session ends: what is live remains. -/
theorem SafeI.ends (h : SafeI live S kp sp c x) (hs : Same c c') : SafeI live (keptR S live) kp sp c' x := by
 refine ⟨hs.cp.trans h.cp, hs.ps.trans h.ps, h.xp, hs.ok, by rw [hs.cand]; exact h.ids, by rw [hs.cand]; exact h.len, h.cl, h.tx, by rw [hs.cand]; exact h.alive, fun i hi => ?_⟩
 obtain ⟨h0, h1⟩ := List.mem_filter.1 hi
 refine ⟨(h.sure i h0).1, .inl ?_⟩
 rw [hs.cand]
 exact h.alive i (of_decide_eq_true h1)
/-- One more is sure. -/
theorem SafeI.more (h : SafeI live S kp sp c x) {i : ID} (h1 : (asc x.C i).isSome = true) (h2 : i ∉ c.cand ∨ heldC c i = true) : SafeI live (S ++ [i]) kp sp c x :=
 ⟨h.cp, h.ps, h.xp, h.ok, h.ids, h.len, h.cl, h.tx, h.alive, fun j hj => by
  rcases List.mem_append.1 hj with hj | hj
  · exact h.sure j hj
  · rw [List.mem_singleton.1 hj]
    exact ⟨h1, h2⟩⟩
/-- A chunk is put in a session. -/
theorem SafeI.put (h : SafeI live S kp sp c x) {P : List (List UInt8)} (hT : TX x P) {bs : List UInt8} (hs : Same c c') (hh : ∀ j, heldC c' j = (decide (fpOf bs = j) || heldC c j)) (hc : Cl [fileN nmS] x') (hT' : TX x' (P ++ [bs])) (hps : x'.ps = x.ps) : SafeI live (S ++ [fpOf bs]) kp sp c' x' := by
 refine SafeI.more ⟨hs.cp.trans h.cp, hs.ps.trans (h.ps.trans hps.symm), hps.trans h.xp, hs.ok, by rw [hs.cand]; exact h.ids, by rw [hs.cand]; exact h.len, hc, ⟨_, hT'⟩, by rw [hs.cand]; exact h.alive, fun i hi => ?_⟩ ?_ (.inr ?_)
 · obtain ⟨h1, h2⟩ := h.sure i hi
   rw [hT.has, decide_eq_true_eq] at h1
   refine ⟨?_, ?_⟩
   · rw [hT'.has, decide_eq_true_eq, List.map_append]
     exact List.mem_append_left _ h1
   · rw [hs.cand]
     refine h2.imp id (fun h3 => ?_)
     rw [hh, h3]
     simp
 · rw [hT'.has, decide_eq_true_eq]
   simp
 · rw [hh]
   simp
/-- Candidates are struck. -/
theorem SafeI.keep (h : SafeI live S kp sp c x) (ids : List ID) : SafeI live S kp sp { c with cand := lessL (setI ids) c.cand } x := by
 have hsub : ∀ i, i ∈ lessL (setI ids) c.cand → i ∈ c.cand := fun i hi => ((lessL_mem ids c.cand i).1 hi).1
 refine ⟨h.cp, h.ps, h.xp, h.ok, fun i hi => h.ids i (hsub i hi), Nat.le_trans (lessL_le _ _) h.len, h.cl, h.tx, fun i hi hm => h.alive i hi (hsub i hm), fun i hi => ?_⟩
 obtain ⟨h1, h2⟩ := h.sure i hi
 exact ⟨h1, h2.imp (fun h3 h4 => h3 (hsub i h4)) id⟩
/-- A step. -/
theorem SafeI.step (h : SafeI live S kp sp c x) {n : Int} (hg : Gone x (stepL c n) x') (hc : Cl [fileN nmS] x') {P : List (List UInt8)} (hT' : TX x' P) : SafeI live S kp sp { c with cand := lessL (setI (stepL c n)) c.cand } x' := by
 have h0 := h.keep (stepL c n)
 refine ⟨h0.cp, h.ps.trans hg.ps.symm, hg.ps.trans h.xp, h0.ok, h0.ids, h0.len, hc, ⟨_, hT'⟩, h0.alive, fun i hi => ?_⟩
 obtain ⟨h1, h2⟩ := h0.sure i hi
 obtain ⟨g1, g2⟩ := h.sure i hi
 refine ⟨?_, h2⟩
 have hn : i ∉ stepL c n := fun hm => by
  have hm : i ∈ (c.cand.filter fun i => !heldC c i).take n.toNat := hm
  have h3 := List.mem_filter.1 (List.take_subset _ _ hm)
  rcases g2 with g2 | g2
  · exact g2 h3.1
  · rw [g2] at h3
    simp at h3
 rw [hg.has, g1]
 simp [hn]
/-- What is sure can be read. -/
theorem SafeI.val (h : SafeI live S kp sp c x) {i : ID} (hi : i ∈ S) : ∃ bs, valC x i = some bs ∧ fpOf bs = i ∧ IsText bs := by
 obtain ⟨P, hT⟩ := h.tx
 have h1 := (h.sure i hi).1
 rw [hT.has, decide_eq_true_eq] at h1
 obtain ⟨bs, hb, rfl⟩ := List.mem_map.1 h1
 exact ⟨bs, hT.val bs hb, rfl, hT.text bs hb⟩
end
section
variable {live S : List ID} {kp sp : Nat} {c : CR} {x : SR} {b : Nat} {w0 w : World} {l : List Ob}
theorem Begin_U (h : SW b w0 (coOb c :: x.obs l) w) (hs : SafeI live S kp sp c x) (N : Int) : Calls Tryz.prog 71 #[vPtr kp, .int .i64 N] w (fun e w' => ∃ v c', e = .returned (.int .i64 v) ∧ SW b w0 (coOb c' :: x.obs l) w' ∧ SafeI live S kp sp c' x) := by
 rw [← hs.cp]
 refine (Begin_W h hs.ok N).mono ?_
 rintro e w' ⟨v, c', rfl, s, hm, hh⟩
 rw [hs.cp]
 exact ⟨v, c', rfl, s, hs.same hm (fun i hi => by rw [hh]; exact hi)⟩
theorem End_U (h : SW b w0 (coOb c :: x.obs l) w) (hs : SafeI live S kp sp c x) (N : Int) : Calls Tryz.prog 67 #[vPtr kp, .int .i64 N] w (fun e w' => ∃ v c', e = .returned (.int .i64 v) ∧ SW b w0 (coOb c' :: x.obs l) w' ∧ SafeI live (keptR S live) kp sp c' x) := by
 rw [← hs.cp]
 refine (End_W h hs.ok N).mono ?_
 rintro e w' ⟨v, c', rfl, s, hm, hh⟩
 rw [hs.cp]
 exact ⟨v, c', rfl, s, hs.ends hm⟩
abbrev PutU (live S : List ID) (kp sp : Nat) (b : Nat) (w0 : World) (l : List Ob) (e : Ending) (w' : World) : Prop :=
 ∃ (i : ID) (code : Int) (c' : CR) (x' : SR), e = .returned (.tuple #[.agg #[.int .u64 i.1, .int .i64 i.2], .int .i64 code]) ∧ SW b w0 (coOb c' :: x'.obs l) w' ∧ ((code ≠ 0 ∧ SafeI live S kp sp c' x') ∨ (code = 0 ∧ SafeI live (S ++ [i]) kp sp c' x'))
theorem CPut_U (h : SW b w0 (coOb c :: x.obs l) w) (hs : SafeI live S kp sp c x) (N : Int) (A : Option Addr) (cap : Nat) (bs : List UInt8) (o : Ob) (ho : o ∈ l) (hr : ∀ w', o.holds w' → RS w' A bs) (ht : IsText bs) : Calls Tryz.prog 72 #[vPtr kp, .int .i64 N, .slice A bs.length cap] w (PutU live S kp sp b w0 l) := by
 obtain ⟨P, hT⟩ := hs.tx
 have := CPut_W h hs.ok hs.ps hs.cl hT N A cap bs o ho hr ht
 rw [hs.cp] at this
 refine this.mono ?_
 rintro e w' (⟨rfl, s⟩ | ⟨rfl, c', x', s, hm, hh, hc, hT', hps, _⟩)
 · exact ⟨(0, 0), 401, c, x, rfl, s, .inl ⟨by decide, hs⟩⟩
 · exact ⟨fpOf bs, 0, c', x', rfl, s, .inr ⟨rfl, hs.put hT hm hh hc hT' hps⟩⟩
theorem Touch_U (h : SW b w0 (coOb c :: x.obs l) w) (hs : SafeI live S kp sp c x) (N : Int) (i : ID) (hi : okID i) : Calls Tryz.prog 73 #[vPtr kp, .int .i64 N, .agg #[.int .u64 i.1, .int .i64 i.2]] w (fun e w' => ∃ (v : Bool) (code : Int) (c' : CR), e = .returned (.tuple #[.bool v, .int .i64 code]) ∧ SW b w0 (coOb c' :: x.obs l) w' ∧ SafeI live S kp sp c' x ∧ (v = true → SafeI live (S ++ [i]) kp sp c' x)) := by
 have := Touch_W h hs.ok hs.ps N i hi
 rw [hs.cp] at this
 refine this.mono ?_
 rintro e w' ⟨v, code, c', rfl, s, hm, hh, _, hv⟩
 have h1 := hs.same hm hh
 exact ⟨v, code, c', rfl, s, h1, fun e => h1.more (hv e).2 (.inr (hv e).1)⟩
theorem Keep_U (h : SW b w0 (coOb c :: x.obs l) w) (hs : SafeI live S kp sp c x) (A : Option Addr) (cap : Nat) (ids : List ID) (hA : riOb A ids ∈ l) (hi : ∀ i ∈ ids, okID i) (hl : ids.length ≤ 100000) : Calls Tryz.prog 75 #[vPtr kp, .slice A ids.length cap] w (fun e w' => ∃ c', e = .returned (.tuple #[]) ∧ SW b w0 (coOb c' :: x.obs l) w' ∧ SafeI live S kp sp c' x) := by
 obtain rfl := hs.cp
 have := Keep_any h A cap ids (List.mem_cons_of_mem _ (List.mem_cons_of_mem _ (List.mem_cons_of_mem _ (List.mem_cons_of_mem _ hA)))) hi hs.ids hl (by have := hs.len; omega)
 refine this.mono ?_
 rintro e w' ⟨rfl, s⟩
 exact ⟨_, rfl, s, hs.keep ids⟩
theorem Step_U (h : SW b w0 (coOb c :: x.obs l) w) (hs : SafeI live S kp sp c x) (n : Int) : Calls Tryz.prog 62 #[vPtr kp, .int .i64 n] w (fun e w' => ∃ A cap r c' x', e = .returned (.tuple #[.slice A r cap, .int .i64 0]) ∧ SW b w0 (coOb c' :: x'.obs l) w' ∧ SafeI live S kp sp c' x') := by
 obtain rfl := hs.cp
 obtain ⟨P, hT⟩ := hs.tx
 have := Step_any h hs.ps hs.cl n hs.ids (by have := hs.len; omega)
 refine this.mono ?_
 rintro e w' ⟨A, cap, x', rfl, s, hc, hg⟩
 exact ⟨A, cap, _, _, x', rfl, s.tail, hs.step hg hc (hT.gone hg)⟩
end
end Go.Proofs.YteabgcollokgjaaGreatDoor
namespace Go.Proofs.YteabgcollokgjaaGreatDoor
open Go.RowKit Go.MapKept Go.ChangeMaps Go.Shelf Go.Sort

section
variable {b : Nat} {w0 w w' : World} {l : List Ob}
theorem own_sl {e : TypeId} {size n : Nat} {v : Value} {xs : List Value} (h : w.ownsRow 0 e size v n xs) : ∃ A c, v = .slice A n c := by
 rcases h.2 with ⟨hv, h2⟩ | ⟨g, cap, cur, hv, _⟩
 · exact ⟨none, 0, by rw [hv, h2]⟩
 · exact ⟨some ⟨g, 0, none⟩, cap, hv⟩
/-- What the walk of the law holds. -/
abbrev sfL (S : List ID) (SA : Option Addr) (sc : Nat) (tg : Nat) (A : Option Addr) (cap : Nat) (L : List Int) (n : Nat) (LA : Option Addr) (live : List ID) (g3 : Nat) (cs : Array Value) (c : CR) (x : SR) (R : List Ob) : List Ob :=
 coOb c :: x.obs (rowOb 31 2 (.slice SA S.length sc) S.length (S.flatMap encID) :: tpOb tg A cap L n :: riOb LA live :: cellOb g3 102 cs :: R)
set_option maxRecDepth 100000 in
set_option maxHeartbeats 16000000 in
theorem law16_any (h : SW w.heap.size w l w) {A : Option Addr} {L : List Int} (hin : inOb A L ∈ l) (cap : Nat) : Calls Tryz.prog 16 #[.slice A L.length cap] w (fun e w' => e = .returned (.bool true) ∧ Below w.heap.size w w') := by
 have S0 := Lib.hid h
 have HSH := Lib.hid (Short_any w)
 have HIN := Lib.hid hin
 clear h hin
 go_enter Tryz.func16, Tryz.ntmps16
 go_wp2_with (go_at_call 32; (with_reducible refine HSH.out.mono ?_); refine halt_ ?_)
 rintro e w1 ⟨v, rfl, hb1⟩
 have S1 := Lib.hid (S0.out.on hb1)
 clear hb1 HSH S0
 cases v with
 | false =>
  go_wp2_with fail
  go_ret
  exact ⟨rfl, S1.out.2⟩
 | true =>
  have HBG := Lib.hid (begin_any S1.out HIN.out cap)
  go_wp2_with (go_at_call 60; (with_reducible refine HBG.out.mono ?_); refine halt_ ?_)
  rintro e w2 ⟨⟨tg1, x1, c1, r1, CA1, cc1, cd1⟩, LA1, lc1, rfl, s2, ok1⟩
  have OK1 := Lib.hid ok1
  obtain ⟨cs1, HCS1⟩ : ∃ cs : Array Value, Hid (#[vPtr tg1, vPtr x1.p, vPtr x1.ps, vPtr c1.cp, .slice r1.A r1.E.length r1.c, .slice r1.B r1.E.length r1.k, .slice CA1 cd1.length cc1, .slice none 0 0] = cs) := ⟨_, rfl⟩
  have HT1 : Hid (cs1[0]? = some (vPtr tg1)) := by rw [Hid, ← HCS1.out]; rfl
  have HD1 : Hid (cs1[2]? = some (vPtr x1.ps)) := by rw [Hid, ← HCS1.out]; rfl
  have HC1 : Hid (cs1[3]? = some (vPtr c1.cp)) := by rw [Hid, ← HCS1.out]; rfl
  have S2 : Hid (SW w.heap.size w (cellOb w2.heap.size 102 cs1 :: coOb c1 :: x1.obs (tpOb tg1 A cap L (bgE L).n :: riOb LA1 (bgE L).live :: r3Ob r1 :: riOb CA1 cd1 :: l)) (w2.alloc (.cells cs1 102))) := s2.newCell 102 cs1
  obtain ⟨g3, HG3⟩ : ∃ g3, Hid (w2.heap.size = g3) := ⟨_, rfl⟩
  obtain ⟨W2, HW2⟩ : ∃ W2, Hid (w2.alloc (.cells cs1 102) = W2) := ⟨_, rfl⟩
  rw [HG3.out, HW2.out] at S2
  obtain ⟨R, HR1⟩ : ∃ R, Hid ((r3Ob r1 :: riOb CA1 cd1 :: l) = R) := ⟨_, rfl⟩
  rw [HR1.out] at S2
  have S3 : Hid (SW w.heap.size w (coOb c1 :: x1.obs (tpOb tg1 A cap L (bgE L).n :: riOb LA1 (bgE L).live :: cellOb g3 102 cs1 :: R)) W2) := SW.front (pre := [_, _, _, _, _, _, _, _]) (t := R) S2.out [1, 2, 3, 4, 5, 6, 7, 0] (n := 8) rfl (by decide)
  have HKN := Lib.hid (known61_any W2)
  clear ok1 s2 HBG S1 S2 HR1
  go_upto_region 4 with fail
  rw [HCS1.out, HW2.out, HG3.out]
  clear HW2 HG3 HCS1
  go_wp2_with (go_at_call 61; (with_reducible refine HKN.out.mono ?_); refine halt_ ?_)
  rintro e w3 ⟨rfl, hb3⟩
  obtain ⟨live, HLV⟩ : ∃ live, Hid ((bgE L).live = live) := ⟨_, rfl⟩
  obtain ⟨N0, HN0⟩ : ∃ N0, Hid ((bgE L).n = N0) := ⟨_, rfl⟩
  have hN0 : N0 ≤ 67 := by
   have h1 := bgS_n L (bgK L)
   have h2 := (bgK_le L).2
   have e : (bgE L).n = (bgS L (bgK L)).n := rfl
   rw [← HN0.out, e]
   omega
  have hll : live.length ≤ 11 := by
   have h1 := (bgS_live L (bgK L)).1
   have h2 := (bgK_le L).2
   have e : (bgE L).live = (bgS L (bgK L)).live := rfl
   rw [← HLV.out, e]
   omega
  have SI1 := SafeI.start OK1.out
  rw [HLV.out] at SI1
  have SI1 : SafeI live live c1.cp x1.ps c1 x1 := SI1
  have S4 : Hid (SW w.heap.size w (coOb c1 :: x1.obs (rowOb 31 2 (.slice none 0 0) 0 [] :: tpOb tg1 A cap L N0 :: riOb LA1 live :: cellOb g3 102 cs1 :: R)) w3) := by
   have := S3.out.on hb3
   rw [HLV.out, HN0.out] at this
   exact SW.front (pre := [_, _, _, _, _, _]) (this.newRow 31 2) [1, 2, 3, 4, 5, 0] (n := 6) rfl (by decide)
  rw [HLV.out]
  obtain ⟨cp, HCP⟩ : ∃ cp, Hid (c1.cp = cp) := ⟨_, rfl⟩
  obtain ⟨ps, HQS⟩ : ∃ ps, Hid (x1.ps = ps) := ⟨_, rfl⟩
  rw [HCP.out, HQS.out] at SI1
  rw [HCP.out] at HC1
  rw [HQS.out] at HD1
  have SI1 := Lib.hid SI1
  clear hb3 HKN S3 OK1 HIN
  obtain ⟨i1, gi, gz0, gz1, gz2⟩ := info_parts info31
  go_wp2_with (at_builtin; (refine wpList_rowM (t := 38) (e := 31) (size := 2) (bytes := 16) (i := i1) S4.out 5 rfl (by rfl) (.const (.slice none 0 0)) (.tmp 34) (by rfl) Tryz.underlying38 gi gz0 gz1 gz2 rfl (by omega) (by rfl) LA1 live.length lc1 (live.flatMap encID) (by rfl) (flat_len encID_len live) (ri_src (S4.out.get 7 (o := riOb LA1 live) rfl)) (encID_all live) (by unfold maxLen; omega) (by omega) ?_); refine halt_ ?_)
  intro v4 w4 s4
  obtain ⟨SA, sc, rfl⟩ := own_sl (s4.get 5 rfl)
  have S5 : Hid (SW w.heap.size w (sfL live SA sc tg1 A cap L N0 LA1 live g3 cs1 c1 x1 R) w4) := s4
  clear s4 S4
  have k0 : w4.cell? ⟨g3, 0, none⟩ = some (vPtr tg1) := ((S5.out.cell 8 rfl).cell 0).trans HT1.out
  have HNX : Hid (Calls Tryz.prog 33 #[vPtr tg1, .int .i64 30] w4 (fun e w' => e = .returned (.int .i64 (tnext L N0 30)) ∧ SW w.heap.size w (sfL live SA sc tg1 A cap L (N0 + 1) LA1 live g3 cs1 c1 x1 R) w')) := Next_x S5.out 6 rfl 30 (by omega) (by omega)
  go_wp2_with (go_at_call 33; (with_reducible refine HNX.out.mono ?_); refine halt_ ?_)
  rintro e w5 ⟨rfl, s5⟩
  have S6 := Lib.hid s5
  obtain ⟨hk0, hk1⟩ := tnext_in L N0 30
  have hk1 := hk1 (by omega)
  obtain ⟨K, HK⟩ : ∃ K : Nat, Hid (tnext L N0 30 = (K : Int)) := ⟨(tnext L N0 30).toNat, by rw [Hid]; omega⟩
  rw [HK.out] at hk0 hk1 ⊢
  clear s5 HNX S5 k0
  go_wp2_with fail
  go_loopw [6, 7] (fun s6 s7 wr => ∃ (m n : Nat) (S : List ID) (SA : Option Addr) (sc : Nat) (c : CR) (x : SR), s7 = .int .i64 (m : Int) ∧ s6 = .slice SA S.length sc ∧ m ≤ K ∧ n + 12 * m ≤ N0 + 1 + 12 * K ∧ S.length + m ≤ 11 + K ∧ SafeI live S cp ps c x ∧ SW w.heap.size w (sfL S SA sc tg1 A cap L n LA1 live g3 cs1 c x R) wr) (fun _ s7 _ => (intOf s7).toNat)
  case atStart => exact ⟨K, N0 + 1, live, SA, sc, c1, x1, rfl, rfl, Nat.le_refl _, by omega, by omega, SI1.out, S6.out⟩
  case round =>
   obtain ⟨m, n, S, SB, sd, c, x, rfl, rfl, hmK, hn, hSl, hsi, hs⟩ := hrel
   have SI := Lib.hid hsi
   have S7 := Lib.hid hs
   clear hsi hs S6 SI1
   cases m with
   | zero =>
    go_wp2_with fail
    go_ret
    exact ⟨rfl, S7.out.2⟩
   | succ m =>
    have k0 : wr.cell? ⟨g3, 0, none⟩ = some (vPtr tg1) := ((S7.out.cell 8 rfl).cell 0).trans HT1.out
    have HN1 : Hid (Calls Tryz.prog 33 #[vPtr tg1, .int .i64 3] wr (fun e w' => e = .returned (.int .i64 (tnext L n 3)) ∧ SW w.heap.size w (sfL S SB sd tg1 A cap L (n + 1) LA1 live g3 cs1 c x R) w')) := Next_x S7.out 6 rfl 3 (by omega) (by omega)
    go_wp2_with (go_at_call 33; (with_reducible refine HN1.out.mono ?_); refine halt_ ?_)
    rintro e w6 ⟨rfl, s6⟩
    have HN2 : Hid (Calls Tryz.prog 33 #[vPtr tg1, .int .i64 6] w6 (fun e w' => e = .returned (.int .i64 (tnext L (n + 1) 6)) ∧ SW w.heap.size w (sfL S SB sd tg1 A cap L (n + 2) LA1 live g3 cs1 c x R) w')) := Next_x s6 6 rfl 6 (by omega) (by omega)
    obtain ⟨hs0, hs1⟩ := tnext_in L n 3
    have hs1 := hs1 (by omega)
    generalize tnext L n 3 = s at hs0 hs1 ⊢
    clear s6 HN1 S7 k0
    go_wp2_with (go_at_call 33; (with_reducible refine HN2.out.mono ?_); refine halt_ ?_)
    rintro e w7 ⟨rfl, s7⟩
    have S8 := Lib.hid s7
    obtain ⟨hv0, hv1⟩ := tnext_in L (n + 1) 6
    have hv1 := hv1 (by omega)
    generalize tnext L (n + 1) 6 = v at hv0 hv1 ⊢
    clear s7 HN2
    go_upto_block 2 with fail
    go_cut [6, 10, 11, 12, 13, 14, 15, 16] from 39 to 147 (fun s6 s10 s11 s12 s13 s14 s15 s16 wx => ∃ (n' : Nat) (S' : List ID) (SA' : Option Addr) (sc' : Nat) (c' : CR) (x' : SR), s6 = .slice SA' S'.length sc' ∧ n' ≤ n + 12 ∧ S'.length ≤ S.length + 1 ∧ SafeI live S' cp ps c' x' ∧ SW w.heap.size w (sfL S' SA' sc' tg1 A cap L n' LA1 live g3 cs1 c' x' R) wx)
    case first =>
     have k3 : w7.cell? ⟨g3, 3, none⟩ = some (vPtr cp) := ((S8.out.cell 8 rfl).cell 3).trans HC1.out
     by_cases v0 : v = 0
     · subst v0
       have HB := Lib.hid (Begin_U S8.out SI.out s)
       go_wp2_with (go_at_call 71; (with_reducible refine HB.out.mono ?_); refine halt_ ?_)
       rintro e w8 ⟨u, c2, rfl, s8, hi2⟩
       have S9 := Lib.hid s8
       have SI9 := Lib.hid hi2
       clear s8 hi2 HB S8 k3
       go_wp2_with fail
       go_meet
       exact ⟨n + 2, S, SB, sd, c2, x, rfl, by omega, by omega, SI9.out, S9.out⟩
     · by_cases v1 : v = 1
       · subst v1
         have HX := Lib.hid (textB_is L (n + 2))
         have htn := (textN_in L (n + 2)).2
         obtain ⟨bs, HBS⟩ : ∃ bs, Hid (textB L (n + 2) = bs) := ⟨_, rfl⟩
         rw [HBS.out] at HX
         go_upto_region 19 with fail
         go_cut [10, 11] from 39 to 147 (fun s10 s11 wx => ∃ (g : Nat) (i : ID) (code : Int) (c2 : CR) (x2 : SR), s10 = .pointer (some ⟨g, 0, none⟩) ∧ s11 = .int .i64 code ∧ SW w.heap.size w (cellOb g 31 #[.int .u64 i.1, .int .i64 i.2] :: sfL S SB sd tg1 A cap L (n + 2 + 1 + textN L (n + 2)) LA1 live g3 cs1 c2 x2 R) wx ∧ ((code ≠ 0 ∧ SafeI live S cp ps c2 x2) ∨ (code = 0 ∧ SafeI live (S ++ [i]) cp ps c2 x2)))
         case first =>
          refine wp_region_tree 11 (.take 0 (.take 1 (.take 2 (.take 3 (.two 4 (.two 5 (.take 6 (.take 7 (.take 8 (.one 9 (.one 10 .nil))))) 9 (.one 5 (.take 6 (.take 7 (.take 8 (.one 10 .nil)))))) 9 (.one 4 (.one 5 (.take 6 (.take 7 (.take 8 (.one 10 .nil))))))))))) (fun w' => w'.cell? ⟨g3, 3, none⟩ = some (vPtr cp)) (by kernel_rfl) (fun _ _ d _ _ h => by cases d <;> exact h) (by kernel_rfl) (((S8.out.drew.cell 8 rfl).cell 3).trans HC1.out) ?_
          have S8d : SW w.heap.size w (sfL S SB sd tg1 A cap L (n + 2) LA1 live g3 cs1 c x R) w7.drew := S8.out.drew
          clear S8 k3
          generalize w7.drew = wd at S8d ⊢
          iterate 4
           refine wpTr_take (by simp only [List.getElem?_toArray, Array.getD_eq_getD_getElem?, List.getElem?_cons_zero, List.getElem?_cons_succ, Option.getD_some]; exact rfl) ?_ (Or.inl ⟨by rfl, ?_⟩) ?_
           rotate_left
           · (intro w' hSw; have h1 := hSw; go_simp; try with_reducible rfl)
           try simp only [Act.put, List.setIfInBounds_toArray, List.set_cons_zero, List.set_cons_succ]
          refine wpTr_two ?_ ?_
          · refine wpTr_run (by simp only [List.getElem?_toArray, Array.getD_eq_getD_getElem?, List.getElem?_cons_zero, List.getElem?_cons_succ, Option.getD_some]; exact rfl) (fun K' hK' => ?_)
            go_simp
            go_at_call 74
            refine (text74_x S8d 6 rfl (by omega)).mono ?_
            rintro e w8 ⟨d, rfl, sT⟩
            rw [HBS.out] at sT
            have ST : SW w.heap.size w (coOb c :: x.obs (bufOb d bs :: rowOb 31 2 (.slice SB S.length sd) S.length (S.flatMap encID) :: tpOb tg1 A cap L (n + 2 + 1 + textN L (n + 2)) :: riOb LA1 live :: cellOb g3 102 cs1 :: R)) w8 := SW.front (pre := [_, _, _, _, _, _]) sT [1, 2, 3, 4, 5, 0] (n := 6) rfl (by decide)
            have hrb : RB w8 d bs := sT.get 0 (o := bufOb d bs) rfl
            have hdl : d.len = bs.length := hrb.1.symm
            rw [hdl]
            clear sT hrb hdl
            go_wp2_with fail
            refine hK'.out _ _ (((ST.cell 9 rfl).cell 3).trans HC1.out) ?_
            clear hK' K'
            try simp only [Act.put, List.setIfInBounds_toArray, List.set_cons_zero, List.set_cons_succ]
            refine wpTr_two ?_ ?_
            · refine wpTr_run (by simp only [List.getElem?_toArray, Array.getD_eq_getD_getElem?, List.getElem?_cons_zero, List.getElem?_cons_succ, Option.getD_some]; exact rfl) (fun K' hK' => ?_)
              go_simp
              go_at_call 72
              refine (CPut_U ST SI.out s d.A d.cap bs (bufOb d bs) (by simp) (fun _ h => RB.rs h) HX.out).mono ?_
              rintro e w9 ⟨i, code, c2, x2, rfl, sU, hi2⟩
              have SU : SW w.heap.size w (coOb c2 :: x2.obs (bufOb d bs :: rowOb 31 2 (.slice SB S.length sd) S.length (S.flatMap encID) :: tpOb tg1 A cap L (n + 2 + 1 + textN L (n + 2)) :: riOb LA1 live :: cellOb g3 102 cs1 :: R)) w9 := sU
              have SI9 := Lib.hid hi2
              clear sU hi2
              go_wp2_with fail
              refine hK'.out _ _ (((SU.cell 9 rfl).cell 3).trans HC1.out) ?_
              clear hK' K'
              try simp only [Act.put, List.setIfInBounds_toArray, List.set_cons_zero, List.set_cons_succ]
              iterate 3
               refine wpTr_take (by simp only [List.getElem?_toArray, Array.getD_eq_getD_getElem?, List.getElem?_cons_zero, List.getElem?_cons_succ, Option.getD_some]; exact rfl) ?_ (Or.inl ⟨by rfl, ?_⟩) ?_
               rotate_left
               · (intro w' hSw; have h1 := hSw; go_simp; try with_reducible rfl)
               try simp only [Act.put, List.setIfInBounds_toArray, List.set_cons_zero, List.set_cons_succ]
              refine wpTr_one ?_
              refine wpTr_run (by simp only [List.getElem?_toArray, Array.getD_eq_getD_getElem?, List.getElem?_cons_zero, List.getElem?_cons_succ, Option.getD_some]; exact rfl) (fun K' hK' => ?_)
              have SV : SW w.heap.size w (cellOb _ 31 #[.int .u64 0, .int .i64 0] :: coOb c2 :: x2.obs (bufOb d bs :: rowOb 31 2 (.slice SB S.length sd) S.length (S.flatMap encID) :: tpOb tg1 A cap L (n + 2 + 1 + textN L (n + 2)) :: riOb LA1 live :: cellOb g3 102 cs1 :: R)) _ := SW.newCell SU 31 #[.int .u64 0, .int .i64 0]
              go_simp
              refine hK'.out _ _ (((SV.cell 10 rfl).cell 3).trans HC1.out) ?_
              clear hK' K'
              obtain ⟨gC, W9, eC, eW, SV⟩ : ∃ gC W9, Hid (_ = gC) ∧ Hid (_ = W9) ∧ SW w.heap.size w (cellOb gC 31 #[.int .u64 0, .int .i64 0] :: coOb c2 :: x2.obs (bufOb d bs :: rowOb 31 2 (.slice SB S.length sd) S.length (S.flatMap encID) :: tpOb tg1 A cap L (n + 2 + 1 + textN L (n + 2)) :: riOb LA1 live :: cellOb g3 102 cs1 :: R)) W9 := ⟨_, _, rfl, rfl, SV⟩
              rw [eC.out, eW.out]
              clear eC eW
              try simp only [Act.put, List.setIfInBounds_toArray, List.set_cons_zero, List.set_cons_succ]
              have SW0 := SV
              refine wpTr_one ?_
              refine wpTr_run (by simp only [List.getElem?_toArray, Array.getD_eq_getD_getElem?, List.getElem?_cons_zero, List.getElem?_cons_succ, Option.getD_some]; exact rfl) (fun K' hK' => ?_)
              have z0 := (SW0.cell 0 rfl).cell 0
              have z1 := (SW0.cell 0 rfl).cell 1
              have f0 := (SW0.cell 0 rfl).frozen 0
              have f1 := (SW0.cell 0 rfl).frozen 1
              have SZ : SW w.heap.size w (cellOb gC 31 #[.int .u64 i.1, .int .i64 i.2] :: coOb c2 :: x2.obs (bufOb d bs :: rowOb 31 2 (.slice SB S.length sd) S.length (S.flatMap encID) :: tpOb tg1 A cap L (n + 2 + 1 + textN L (n + 2)) :: riOb LA1 live :: cellOb g3 102 cs1 :: R)) _ := (SW0.setAt 0 rfl 0 (.int .u64 i.1)).setAt 0 rfl 1 (.int .i64 i.2)
              go_simp
              refine hK'.out _ _ (((SZ.cell 10 rfl).cell 3).trans HC1.out) ?_
              clear hK' K' z0 z1 f0 f1
              try simp only [Act.put, List.setIfInBounds_toArray, List.set_cons_zero, List.set_cons_succ]
              refine wpTr_nil ?_
              simp only [List.drop_succ_cons, List.drop_zero]
              go_wp2_with fail
              go_meet
              exact ⟨gC, i, code, c2, x2, rfl, rfl, SW.few (pre := [_, _, _, _, _, _, _]) SZ [0, 1, 2, 3, 4, 5] (n := 7) rfl (by decide) (by decide), SI9.out⟩
            · refine wpTr_run (by simp only [List.getElem?_toArray, Array.getD_eq_getD_getElem?, List.getElem?_cons_zero, List.getElem?_cons_succ, Option.getD_some]; exact rfl) (fun K' hK' => ?_)
              have SV : SW w.heap.size w (cellOb _ 31 #[.int .u64 0, .int .i64 0] :: coOb c :: x.obs (bufOb d bs :: rowOb 31 2 (.slice SB S.length sd) S.length (S.flatMap encID) :: tpOb tg1 A cap L (n + 2 + 1 + textN L (n + 2)) :: riOb LA1 live :: cellOb g3 102 cs1 :: R)) _ := SW.newCell ST 31 #[.int .u64 0, .int .i64 0]
              go_simp
              refine hK'.out _ _ (((SV.cell 10 rfl).cell 3).trans HC1.out) ?_
              clear hK' K'
              obtain ⟨gC, W9, eC, eW, SV⟩ : ∃ gC W9, Hid (_ = gC) ∧ Hid (_ = W9) ∧ SW w.heap.size w (cellOb gC 31 #[.int .u64 0, .int .i64 0] :: coOb c :: x.obs (bufOb d bs :: rowOb 31 2 (.slice SB S.length sd) S.length (S.flatMap encID) :: tpOb tg1 A cap L (n + 2 + 1 + textN L (n + 2)) :: riOb LA1 live :: cellOb g3 102 cs1 :: R)) W9 := ⟨_, _, rfl, rfl, SV⟩
              rw [eC.out, eW.out]
              clear eC eW
              try simp only [Act.put, List.setIfInBounds_toArray, List.set_cons_zero, List.set_cons_succ]
              refine wpTr_one ?_
              refine wpTr_run (by simp only [List.getElem?_toArray, Array.getD_eq_getD_getElem?, List.getElem?_cons_zero, List.getElem?_cons_succ, Option.getD_some]; exact rfl) (fun K' hK' => ?_)
              go_simp
              go_at_call 72
              refine (CPut_U (SW.front (pre := [_, _, _, _, _, _]) SV [1, 2, 3, 4, 5, 0] (n := 6) rfl (by decide) : SW w.heap.size w (coOb c :: x.obs (cellOb gC 31 #[.int .u64 0, .int .i64 0] :: bufOb d bs :: rowOb 31 2 (.slice SB S.length sd) S.length (S.flatMap encID) :: tpOb tg1 A cap L (n + 2 + 1 + textN L (n + 2)) :: riOb LA1 live :: cellOb g3 102 cs1 :: R)) _) SI.out s d.A d.cap bs (bufOb d bs) (by simp) (fun _ h => RB.rs h) HX.out).mono ?_
              rintro e w9 ⟨i, code, c2, x2, rfl, sU, hi2⟩
              have SU : SW w.heap.size w (cellOb gC 31 #[.int .u64 0, .int .i64 0] :: coOb c2 :: x2.obs (bufOb d bs :: rowOb 31 2 (.slice SB S.length sd) S.length (S.flatMap encID) :: tpOb tg1 A cap L (n + 2 + 1 + textN L (n + 2)) :: riOb LA1 live :: cellOb g3 102 cs1 :: R)) w9 := SW.front (pre := [_, _, _, _, _, _]) sU [5, 0, 1, 2, 3, 4] (n := 6) rfl (by decide)
              have SI9 := Lib.hid hi2
              clear sU hi2
              go_wp2_with fail
              refine hK'.out _ _ (((SU.cell 10 rfl).cell 3).trans HC1.out) ?_
              clear hK' K'
              try simp only [Act.put, List.setIfInBounds_toArray, List.set_cons_zero, List.set_cons_succ]
              iterate 3
               refine wpTr_take (by simp only [List.getElem?_toArray, Array.getD_eq_getD_getElem?, List.getElem?_cons_zero, List.getElem?_cons_succ, Option.getD_some]; exact rfl) ?_ (Or.inl ⟨by rfl, ?_⟩) ?_
               rotate_left
               · (intro w' hSw; have h1 := hSw; go_simp; try with_reducible rfl)
               try simp only [Act.put, List.setIfInBounds_toArray, List.set_cons_zero, List.set_cons_succ]
              have SW0 := SU
              refine wpTr_one ?_
              refine wpTr_run (by simp only [List.getElem?_toArray, Array.getD_eq_getD_getElem?, List.getElem?_cons_zero, List.getElem?_cons_succ, Option.getD_some]; exact rfl) (fun K' hK' => ?_)
              have z0 := (SW0.cell 0 rfl).cell 0
              have z1 := (SW0.cell 0 rfl).cell 1
              have f0 := (SW0.cell 0 rfl).frozen 0
              have f1 := (SW0.cell 0 rfl).frozen 1
              have SZ : SW w.heap.size w (cellOb gC 31 #[.int .u64 i.1, .int .i64 i.2] :: coOb c2 :: x2.obs (bufOb d bs :: rowOb 31 2 (.slice SB S.length sd) S.length (S.flatMap encID) :: tpOb tg1 A cap L (n + 2 + 1 + textN L (n + 2)) :: riOb LA1 live :: cellOb g3 102 cs1 :: R)) _ := (SW0.setAt 0 rfl 0 (.int .u64 i.1)).setAt 0 rfl 1 (.int .i64 i.2)
              go_simp
              refine hK'.out _ _ (((SZ.cell 10 rfl).cell 3).trans HC1.out) ?_
              clear hK' K' z0 z1 f0 f1
              try simp only [Act.put, List.setIfInBounds_toArray, List.set_cons_zero, List.set_cons_succ]
              refine wpTr_nil ?_
              simp only [List.drop_succ_cons, List.drop_zero]
              go_wp2_with fail
              go_meet
              exact ⟨gC, i, code, c2, x2, rfl, rfl, SW.few (pre := [_, _, _, _, _, _, _]) SZ [0, 1, 2, 3, 4, 5] (n := 7) rfl (by decide) (by decide), SI9.out⟩
          · refine wpTr_run (by simp only [List.getElem?_toArray, Array.getD_eq_getD_getElem?, List.getElem?_cons_zero, List.getElem?_cons_succ, Option.getD_some]; exact rfl) (fun K' hK' => ?_)
            have SV : SW w.heap.size w (cellOb _ 31 #[.int .u64 0, .int .i64 0] :: sfL S SB sd tg1 A cap L (n + 2) LA1 live g3 cs1 c x R) _ := SW.newCell S8d 31 #[.int .u64 0, .int .i64 0]
            go_simp
            refine hK'.out _ _ (((SV.cell 9 rfl).cell 3).trans HC1.out) ?_
            clear hK' K'
            obtain ⟨gC, W9, eC, eW, SV⟩ : ∃ gC W9, Hid (_ = gC) ∧ Hid (_ = W9) ∧ SW w.heap.size w (cellOb gC 31 #[.int .u64 0, .int .i64 0] :: sfL S SB sd tg1 A cap L (n + 2) LA1 live g3 cs1 c x R) W9 := ⟨_, _, rfl, rfl, SV⟩
            rw [eC.out, eW.out]
            clear eC eW
            try simp only [Act.put, List.setIfInBounds_toArray, List.set_cons_zero, List.set_cons_succ]
            refine wpTr_one ?_
            refine wpTr_run (by simp only [List.getElem?_toArray, Array.getD_eq_getD_getElem?, List.getElem?_cons_zero, List.getElem?_cons_succ, Option.getD_some]; exact rfl) (fun K' hK' => ?_)
            go_simp
            go_at_call 74
            refine (text74_x SV 7 rfl (by omega)).mono ?_
            rintro e w8 ⟨d, rfl, sT⟩
            rw [HBS.out] at sT
            have ST : SW w.heap.size w (cellOb gC 31 #[.int .u64 0, .int .i64 0] :: coOb c :: x.obs (bufOb d bs :: rowOb 31 2 (.slice SB S.length sd) S.length (S.flatMap encID) :: tpOb tg1 A cap L (n + 2 + 1 + textN L (n + 2)) :: riOb LA1 live :: cellOb g3 102 cs1 :: R)) w8 := SW.front (pre := [_, _, _, _, _, _, _]) sT [1, 2, 3, 4, 5, 6, 0] (n := 7) rfl (by decide)
            have hrb : RB w8 d bs := sT.get 0 (o := bufOb d bs) rfl
            have hdl : d.len = bs.length := hrb.1.symm
            rw [hdl]
            clear sT hrb hdl
            go_wp2_with fail
            refine hK'.out _ _ (((ST.cell 10 rfl).cell 3).trans HC1.out) ?_
            clear hK' K'
            try simp only [Act.put, List.setIfInBounds_toArray, List.set_cons_zero, List.set_cons_succ]
            refine wpTr_one ?_
            refine wpTr_run (by simp only [List.getElem?_toArray, Array.getD_eq_getD_getElem?, List.getElem?_cons_zero, List.getElem?_cons_succ, Option.getD_some]; exact rfl) (fun K' hK' => ?_)
            go_simp
            go_at_call 72
            refine (CPut_U (SW.front (pre := [_, _, _, _, _, _]) ST [1, 2, 3, 4, 5, 0] (n := 6) rfl (by decide) : SW w.heap.size w (coOb c :: x.obs (cellOb gC 31 #[.int .u64 0, .int .i64 0] :: bufOb d bs :: rowOb 31 2 (.slice SB S.length sd) S.length (S.flatMap encID) :: tpOb tg1 A cap L (n + 2 + 1 + textN L (n + 2)) :: riOb LA1 live :: cellOb g3 102 cs1 :: R)) _) SI.out s d.A d.cap bs (bufOb d bs) (by simp) (fun _ h => RB.rs h) HX.out).mono ?_
            rintro e w9 ⟨i, code, c2, x2, rfl, sU, hi2⟩
            have SU : SW w.heap.size w (cellOb gC 31 #[.int .u64 0, .int .i64 0] :: coOb c2 :: x2.obs (bufOb d bs :: rowOb 31 2 (.slice SB S.length sd) S.length (S.flatMap encID) :: tpOb tg1 A cap L (n + 2 + 1 + textN L (n + 2)) :: riOb LA1 live :: cellOb g3 102 cs1 :: R)) w9 := SW.front (pre := [_, _, _, _, _, _]) sU [5, 0, 1, 2, 3, 4] (n := 6) rfl (by decide)
            have SI9 := Lib.hid hi2
            clear sU hi2
            go_wp2_with fail
            refine hK'.out _ _ (((SU.cell 10 rfl).cell 3).trans HC1.out) ?_
            clear hK' K'
            try simp only [Act.put, List.setIfInBounds_toArray, List.set_cons_zero, List.set_cons_succ]
            iterate 3
             refine wpTr_take (by simp only [List.getElem?_toArray, Array.getD_eq_getD_getElem?, List.getElem?_cons_zero, List.getElem?_cons_succ, Option.getD_some]; exact rfl) ?_ (Or.inl ⟨by rfl, ?_⟩) ?_
             rotate_left
             · (intro w' hSw; have h1 := hSw; go_simp; try with_reducible rfl)
             try simp only [Act.put, List.setIfInBounds_toArray, List.set_cons_zero, List.set_cons_succ]
            have SW0 := SU
            refine wpTr_one ?_
            refine wpTr_run (by simp only [List.getElem?_toArray, Array.getD_eq_getD_getElem?, List.getElem?_cons_zero, List.getElem?_cons_succ, Option.getD_some]; exact rfl) (fun K' hK' => ?_)
            have z0 := (SW0.cell 0 rfl).cell 0
            have z1 := (SW0.cell 0 rfl).cell 1
            have f0 := (SW0.cell 0 rfl).frozen 0
            have f1 := (SW0.cell 0 rfl).frozen 1
            have SZ : SW w.heap.size w (cellOb gC 31 #[.int .u64 i.1, .int .i64 i.2] :: coOb c2 :: x2.obs (bufOb d bs :: rowOb 31 2 (.slice SB S.length sd) S.length (S.flatMap encID) :: tpOb tg1 A cap L (n + 2 + 1 + textN L (n + 2)) :: riOb LA1 live :: cellOb g3 102 cs1 :: R)) _ := (SW0.setAt 0 rfl 0 (.int .u64 i.1)).setAt 0 rfl 1 (.int .i64 i.2)
            go_simp
            refine hK'.out _ _ (((SZ.cell 10 rfl).cell 3).trans HC1.out) ?_
            clear hK' K' z0 z1 f0 f1
            try simp only [Act.put, List.setIfInBounds_toArray, List.set_cons_zero, List.set_cons_succ]
            refine wpTr_nil ?_
            simp only [List.drop_succ_cons, List.drop_zero]
            go_wp2_with fail
            go_meet
            exact ⟨gC, i, code, c2, x2, rfl, rfl, SW.few (pre := [_, _, _, _, _, _, _]) SZ [0, 1, 2, 3, 4, 5] (n := 7) rfl (by decide) (by decide), SI9.out⟩
         case rest =>
          obtain ⟨gC, i, code, c2, x2, rfl, rfl, hs, hcd⟩ := hcut
          have S9 : Hid (SW w.heap.size w (cellOb gC 31 #[.int .u64 i.1, .int .i64 i.2] :: coOb c2 :: x2.obs (rowOb 31 2 (.slice SB S.length sd) S.length (S.flatMap encID) :: tpOb tg1 A cap L (n + 2 + 1 + textN L (n + 2)) :: riOb LA1 live :: cellOb g3 102 cs1 :: R)) wc) := hs
          have HCD := Lib.hid hcd
          clear hs hcd S8 k3
          by_cases hz : code = 0
          · subst hz
            have SI9 : Hid (SafeI live (S ++ [i]) cp ps c2 x2) := by
             rcases HCD.out with ⟨h, _⟩ | ⟨_, h⟩
             · exact absurd rfl h
             · exact h
            have z0 := (S9.out.cell 0 rfl).cell 0
            have z1 := (S9.out.cell 0 rfl).cell 1
            clear HCD
            go_wp2_with (at_builtin; (refine wpList_rowS (t := 38) (e := 31) (size := 2) (bytes := 16) (i := i1) (S9.out.alloc _) 6 rfl (by rfl) (.tmp 78) (.tmp 80) (by rfl) Tryz.underlying38 gi gz0 gz1 gz2 rfl (by omega) (by rfl) ⟨wc.heap.size, 0, none⟩ 1 [.int .u64 i.1, .int .i64 i.2] (by rfl) rfl (two_new wc _ _ 31 _ rfl) (encID_one i) (by unfold maxLen; omega) (by omega) ?_); refine halt_ ?_)
            intro v4 w10 s10
            obtain ⟨g4, c4, rfl⟩ := own_some (s10.get 6 rfl) (by omega)
            have S10 : Hid (SW w.heap.size w (sfL (S ++ [i]) (some ⟨g4, 0, none⟩) c4 tg1 A cap L (n + 2 + 1 + textN L (n + 2)) LA1 live g3 cs1 c2 x2 R) w10) := by
             rw [Hid, sfL, List.flatMap_append, List.length_append]
             exact SW.few (pre := [_, _, _, _, _, _, _]) s10 [1, 2, 3, 4, 5, 6] (n := 7) rfl (by decide) (by decide)
            clear s10 S9 z0 z1
            go_wp2_with fail
            go_meet
            exact ⟨n + 2 + 1 + textN L (n + 2), S ++ [i], some ⟨g4, 0, none⟩, c4, c2, x2, by rw [List.length_append]; rfl, by omega, by rw [List.length_append]; exact Nat.le_refl _, SI9.out, S10.out⟩
          · have SI9 : Hid (SafeI live S cp ps c2 x2) := by
             rcases HCD.out with ⟨_, h⟩ | ⟨h, _⟩
             · exact h
             · exact absurd h hz
            have hz1 : (code == 0) = false := beq_eq_false_iff_ne.2 hz
            clear HCD
            go_wp2_with fail
            go_meet
            exact ⟨n + 2 + 1 + textN L (n + 2), S, SB, sd, c2, x2, rfl, by omega, by omega, SI9.out, SW.few (pre := [_, _, _, _, _, _, _]) S9.out [1, 2, 3, 4, 5, 6] (n := 7) rfl (by decide) (by decide)⟩
       · by_cases v2 : v = 2
         · subst v2
           have HT := Lib.hid (text74_x S8.out 6 rfl (by omega))
           go_wp2_with (go_at_call 74; (with_reducible refine HT.out.mono ?_); refine halt_ ?_)
           rintro e w8 ⟨d, rfl, s8⟩
           have HX := Lib.hid (textB_is L (n + 2))
           have htn := (textN_in L (n + 2)).2
           obtain ⟨bs, HBS⟩ : ∃ bs, Hid (textB L (n + 2) = bs) := ⟨_, rfl⟩
           rw [HBS.out] at s8 HX
           have S9 : Hid (SW w.heap.size w (coOb c :: x.obs (bufOb d bs :: rowOb 31 2 (.slice SB S.length sd) S.length (S.flatMap encID) :: tpOb tg1 A cap L (n + 2 + 1 + textN L (n + 2)) :: riOb LA1 live :: cellOb g3 102 cs1 :: R)) w8) := SW.front (pre := [_, _, _, _, _, _]) s8 [1, 2, 3, 4, 5, 0] (n := 6) rfl (by decide)
           have hrb : RB w8 d bs := S9.out.get 5 (o := bufOb d bs) rfl
           have hdl : d.len = bs.length := hrb.1.symm
           have hbl := HX.out.hi
           obtain ⟨i, HI⟩ : ∃ i, Hid (fpOf bs = i) := ⟨_, rfl⟩
           have HIO : Hid (okID i) := by rw [← HI.out]; exact HX.out.ok
           rw [hdl]
           have S10 := Lib.hid S9.out.drew
           clear s8 hrb hdl HT S8 k3 S9
           go_upto_region 24 with fail
           refine wp_region_held_tail [(0, true), (1, true), (2, true), (3, true), (4, false), (5, false), (6, true), (7, true), (8, true), (9, true)] (fun w' => w'.cell? ⟨g3, 3, none⟩ = some (vPtr cp)) (by kernel_rfl) (fun _ _ d _ _ h => by cases d <;> exact h) (by kernel_rfl) (((S10.out.cell 9 rfl).cell 3).trans HC1.out) ?_
           simp only [picked, List.map_cons, List.map_nil, List.getD_cons_succ, List.getD_cons_zero]
           iterate 4
            (refine wpHeld_take (v := ?_) (Or.inl ⟨by rfl, ?_⟩) ?_
             rotate_left
             · (intro w' hSw; have h1 := hSw; go_simp; try with_reducible rfl)
             try simp only [Act.put, List.setIfInBounds_toArray, List.set_cons_zero, List.set_cons_succ])
           refine wpHeld_run (fun K hK => ?_)
           go_simp
           go_at_call 31
           refine (Of_any d.A d.cap bs _ (S10.out.get 5 (o := bufOb d bs) rfl : RB _ d bs).rs (by omega)).mono ?_
           rw [HI.out]
           rintro e w9 ⟨rfl, hb9⟩
           have S11 := Lib.hid (S10.out.on hb9)
           have HTU := Lib.hid (Touch_U S11.out SI.out s i HIO.out)
           clear hb9 S10
           go_wp2_with fail
           refine hK.out _ _ (((S11.out.cell 9 rfl).cell 3).trans HC1.out) ?_
           clear hK K
           try simp only [Act.put, List.setIfInBounds_toArray, List.set_cons_zero, List.set_cons_succ]
           refine wpHeld_run (fun K hK => ?_)
           go_simp
           go_at_call 73
           refine HTU.out.mono ?_
           rintro e w10 ⟨u, code, c2, rfl, s12, hi2, hv2⟩
           have S12 := Lib.hid s12
           have SI12 := Lib.hid hi2
           have SV12 := Lib.hid hv2
           clear s12 hi2 hv2 HTU S11
           go_wp2_with fail
           refine hK.out _ _ (((S12.out.cell 9 rfl).cell 3).trans HC1.out) ?_
           clear hK K
           try simp only [Act.put, List.setIfInBounds_toArray, List.set_cons_zero, List.set_cons_succ]
           iterate 4
            (refine wpHeld_take (v := ?_) (Or.inl ⟨by rfl, ?_⟩) ?_
             rotate_left
             · (intro w' hSw; have h1 := hSw; go_simp; try with_reducible rfl)
             try simp only [Act.put, List.setIfInBounds_toArray, List.set_cons_zero, List.set_cons_succ])
           refine wpHeld_nil ?_
           simp only [List.length_cons, List.length_nil, List.drop_succ_cons, List.drop_zero]
           by_cases hcd : code = 0
           · subst hcd
             cases u with
             | false =>
              go_wp2_with fail
              go_meet
              exact ⟨n + 2 + 1 + textN L (n + 2), S, SB, sd, c2, x, rfl, by omega, by omega, SI12.out, SW.few (pre := [_, _, _, _, _, _]) S12.out [0, 1, 2, 3, 4] (n := 6) rfl (by decide) (by decide)⟩
             | true =>
              go_upto_region 26 with fail
              have S13 := Lib.hid S12.out.drew
              have SV := Lib.hid (SV12.out rfl)
              clear S12
              refine wp_region_held_tail [(0, true), (1, true), (2, true), (3, false), (4, false)] (fun w' => w'.cell? ⟨g3, 3, none⟩ = some (vPtr cp)) (by kernel_rfl) (fun _ _ d _ _ h => by cases d <;> exact h) (by kernel_rfl) (((S13.out.cell 9 rfl).cell 3).trans HC1.out) ?_
              simp only [picked, List.map_cons, List.map_nil, List.getD_cons_succ, List.getD_cons_zero]
              iterate 3
               (refine wpHeld_take (v := ?_) (Or.inl ⟨by rfl, ?_⟩) ?_
                rotate_left
                · (intro w' hSw; have h1 := hSw; go_simp; try with_reducible rfl)
                try simp only [Act.put, List.setIfInBounds_toArray, List.set_cons_zero, List.set_cons_succ])
              refine wpHeld_run (fun K hK => ?_)
              go_simp
              go_at_call 31
              refine (Of_any d.A d.cap bs _ (S13.out.get 5 (o := bufOb d bs) rfl : RB _ d bs).rs (by omega)).mono ?_
              rw [HI.out]
              rintro e w11 ⟨rfl, hb11⟩
              have S14 := Lib.hid (S13.out.on hb11)
              clear hb11 S13
              go_wp2_with fail
              refine hK.out _ _ (((S14.out.cell 9 rfl).cell 3).trans HC1.out) ?_
              clear hK K
              try simp only [Act.put, List.setIfInBounds_toArray, List.set_cons_zero, List.set_cons_succ]
              refine wpHeld_run (fun K hK => ?_)
              have S15 : Hid (SW w.heap.size w (coOb c2 :: x.obs (riOb (some ⟨w11.heap.size, 0, none⟩) [i] :: bufOb d bs :: rowOb 31 2 (.slice SB S.length sd) S.length (S.flatMap encID) :: tpOb tg1 A cap L (n + 2 + 1 + textN L (n + 2)) :: riOb LA1 live :: cellOb g3 102 cs1 :: R)) (w11.alloc (.cells #[.int .u64 i.1, .int .i64 i.2] 31))) := SW.front (pre := [_, _, _, _, _, _]) (S14.out.newIds1 i) [1, 2, 3, 4, 5, 0] (n := 6) rfl (by decide)
              have HKP := Lib.hid (Keep_U S15.out SV.out (some ⟨w11.heap.size, 0, none⟩) 1 [i] (by simp) (fun j hj => by rw [List.mem_singleton.1 hj]; exact HIO.out) (by simp))
              rw [show (([i] : List ID).length) = 1 from rfl] at HKP
              go_simp
              refine hK.out _ _ (((S15.out.cell 10 rfl).cell 3).trans HC1.out) ?_
              clear hK K S14
              try simp only [Act.put, List.setIfInBounds_toArray, List.set_cons_zero, List.set_cons_succ]
              refine wpHeld_nil ?_
              simp only [List.length_cons, List.length_nil, List.drop_succ_cons, List.drop_zero]
              go_wp2_with (go_at_call 75; (with_reducible refine HKP.out.mono ?_); refine halt_ ?_)
              rintro e w12 ⟨c3, rfl, s16, hi3⟩
              have S16 := Lib.hid s16
              have SI16 := Lib.hid hi3
              have HOF := Lib.hid (Of_any d.A d.cap bs w12 (s16.get 6 (o := bufOb d bs) rfl : RB _ d bs).rs (by omega))
              rw [HI.out] at HOF
              clear s16 hi3 HKP S15
              go_wp2_with (first | (go_at_call 31; (with_reducible refine HOF.out.mono ?_); refine halt_ ?_) | (at_builtin; refine halt_ ?_))
              rintro e w13 ⟨rfl, hb13⟩
              have S17 := Lib.hid (S16.out.on hb13)
              clear hb13 HOF S16
              go_wp2_with (at_builtin; (refine wpList_rowS (t := 38) (e := 31) (size := 2) (bytes := 16) (i := i1) (S17.out.alloc _) 7 rfl (by rfl) (.tmp 106) (.tmp 109) (by rfl) Tryz.underlying38 gi gz0 gz1 gz2 rfl (by omega) (by rfl) ⟨w13.heap.size, 0, none⟩ 1 [.int .u64 i.1, .int .i64 i.2] (by rfl) rfl (two_new w13 _ _ 31 _ rfl) (encID_one i) (by unfold maxLen; omega) (by omega) ?_); refine halt_ ?_)
              intro v4 w14 s14
              obtain ⟨g4, c4, rfl⟩ := own_some (s14.get 7 rfl) (by omega)
              have S18 : Hid (SW w.heap.size w (sfL (S ++ [i]) (some ⟨g4, 0, none⟩) c4 tg1 A cap L (n + 2 + 1 + textN L (n + 2)) LA1 live g3 cs1 c3 x R) w14) := by
               rw [Hid, sfL, List.flatMap_append, List.length_append]
               exact SW.few (pre := [_, _, _, _, _, _, _, _]) s14 [0, 1, 2, 3, 4, 7] (n := 8) rfl (by decide) (by decide)
              clear s14 S17
              go_wp2_with fail
              go_meet
              exact ⟨n + 2 + 1 + textN L (n + 2), S ++ [i], some ⟨g4, 0, none⟩, c4, c3, x, by rw [List.length_append]; rfl, by omega, by rw [List.length_append]; exact Nat.le_refl _, SI16.out, S18.out⟩
           · have hcd1 : (code == 0) = false := beq_eq_false_iff_ne.2 hcd
             go_wp2_with fail
             go_meet
             exact ⟨n + 2 + 1 + textN L (n + 2), S, SB, sd, c2, x, rfl, by omega, by omega, SI12.out, SW.few (pre := [_, _, _, _, _, _]) S12.out [0, 1, 2, 3, 4] (n := 6) rfl (by decide) (by decide)⟩
         · by_cases v3 : v = 3
           · subst v3
             have HE := Lib.hid (End_U S8.out SI.out s)
             go_wp2_with (go_at_call 67; (with_reducible refine HE.out.mono ?_); refine halt_ ?_)
             rintro e w8 ⟨u, c2, rfl, s8, hi2⟩
             have SI9 := Lib.hid hi2
             have S9 : Hid (SW w.heap.size w (riOb SB S :: coOb c2 :: x.obs (tpOb tg1 A cap L (n + 2) :: riOb LA1 live :: cellOb g3 102 cs1 :: R)) w8) := (SW.front (pre := [_, _, _, _, _, _]) s8 [5, 0, 1, 2, 3, 4] (n := 6) rfl (by decide)).rowRi
             have HKE := Lib.hid (kept_any S9.out (A1 := SB) (A2 := LA1) (l1 := S) (l2 := live) (by simp) (by simp) (by omega) (by omega) sd lc1)
             clear s8 hi2 HE S8 k3
             go_wp2_with (first | (go_at_call 76; (with_reducible refine HKE.out.mono ?_); refine halt_ ?_) | (at_builtin; refine halt_ ?_))
             rintro e w9 ⟨KA, kc, rfl, s9⟩
             have S10 : Hid (SW w.heap.size w (rowOb 31 2 (.slice none 0 0) 0 [] :: riOb KA (keptR S live) :: riOb SB S :: coOb c2 :: x.obs (tpOb tg1 A cap L (n + 2) :: riOb LA1 live :: cellOb g3 102 cs1 :: R)) w9) := s9.newRow 31 2
             have hkl : (keptR S live).length ≤ S.length := List.length_filter_le _ _
             obtain ⟨S2, HS2⟩ : ∃ S2, Hid (keptR S live = S2) := ⟨_, rfl⟩
             rw [HS2.out] at S10 SI9 hkl ⊢
             clear s9 HKE S9
             go_wp2_with (at_builtin; (refine wpList_rowM (t := 38) (e := 31) (size := 2) (bytes := 16) (i := i1) S10.out 0 rfl (by rfl) (.const (.slice none 0 0)) (.tmp 119) (by rfl) Tryz.underlying38 gi gz0 gz1 gz2 rfl (by omega) (by rfl) KA S2.length kc (S2.flatMap encID) (by rfl) (flat_len encID_len S2) (ri_src (S10.out.get 1 (o := riOb KA S2) rfl)) (encID_all S2) (by unfold maxLen; omega) (by omega) ?_); refine halt_ ?_)
             intro v4 w10 s10
             obtain ⟨SA2, sc2, rfl⟩ := own_sl (s10.get 0 rfl)
             have S11 : Hid (SW w.heap.size w (sfL S2 SA2 sc2 tg1 A cap L (n + 2) LA1 live g3 cs1 c2 x R) w10) := by
              have s10' : SW w.heap.size w (rowOb 31 2 (.slice SA2 S2.length sc2) S2.length (S2.flatMap encID) :: riOb KA S2 :: riOb SB S :: coOb c2 :: x.obs (tpOb tg1 A cap L (n + 2) :: riOb LA1 live :: cellOb g3 102 cs1 :: R)) w10 := by simpa using s10
              exact SW.few (pre := [_, _, _, _, _, _, _, _]) s10' [3, 4, 5, 6, 7, 0] (n := 8) rfl (by decide) (by decide)
             clear s10 S10
             go_wp2_with fail
             go_meet
             exact ⟨n + 2, S2, SA2, sc2, c2, x, by simp, by omega, by omega, SI9.out, S11.out⟩
           · have h0 : (v == 0) = false := beq_eq_false_iff_ne.2 v0
             have h1 : (v == 1) = false := beq_eq_false_iff_ne.2 v1
             have h2 : (v == 2) = false := beq_eq_false_iff_ne.2 v2
             have h3 : (v == 3) = false := beq_eq_false_iff_ne.2 v3
             go_upto_region 13 with fail
             have HN3 : Hid (Calls Tryz.prog 33 #[vPtr tg1, .int .i64 4] w7.drew (fun e w' => e = .returned (.int .i64 (tnext L (n + 2) 4)) ∧ SW w.heap.size w (sfL S SB sd tg1 A cap L (n + 3) LA1 live g3 cs1 c x R) w')) := Next_x S8.out.drew 6 rfl 4 (by omega) (by omega)
             refine wp_region_held_tail [(0, true), (1, true), (2, true), (3, false), (4, false), (5, true), (6, true), (7, true), (8, true)] (fun w' => w'.cell? ⟨g3, 3, none⟩ = some (vPtr cp)) (by kernel_rfl) (fun _ _ d _ _ h => by cases d <;> exact h) (by kernel_rfl) (((S8.out.drew.cell 8 rfl).cell 3).trans HC1.out) ?_
             simp only [picked, List.map_cons, List.map_nil, List.getD_cons_succ, List.getD_cons_zero]
             iterate 3
              (refine wpHeld_take (v := ?_) (Or.inl ⟨by rfl, ?_⟩) ?_
               rotate_left
               · (intro w' hSw; have h1 := hSw; go_simp; try with_reducible rfl)
               try simp only [Act.put, List.setIfInBounds_toArray, List.set_cons_zero, List.set_cons_succ])
             refine wpHeld_run (fun K hK => ?_)
             go_simp
             go_at_call 33
             refine HN3.out.mono ?_
             rintro e w8 ⟨rfl, s8⟩
             have S9 := Lib.hid s8
             generalize tnext L (n + 2) 4 = q
             have HST := Lib.hid (Step_U S9.out SI.out q)
             clear s8 HN3 S8
             go_wp2_with fail
             refine hK.out _ _ (((S9.out.cell 8 rfl).cell 3).trans HC1.out) ?_
             clear hK K
             try simp only [Act.put, List.setIfInBounds_toArray, List.set_cons_zero, List.set_cons_succ]
             refine wpHeld_run (fun K hK => ?_)
             go_simp
             go_at_call 62
             refine HST.out.mono ?_
             rintro e w9 ⟨A2, cap2, q2, c2, x2, rfl, s9, hi2⟩
             have S10 := Lib.hid s9
             have SI10 := Lib.hid hi2
             clear s9 hi2 HST S9
             go_wp2_with fail
             refine hK.out _ _ (((S10.out.cell 8 rfl).cell 3).trans HC1.out) ?_
             clear hK K
             try simp only [Act.put, List.setIfInBounds_toArray, List.set_cons_zero, List.set_cons_succ]
             iterate 4
              (refine wpHeld_take (v := ?_) (Or.inl ⟨by rfl, ?_⟩) ?_
               rotate_left
               · (intro w' hSw; have h1 := hSw; go_simp; try with_reducible rfl)
               try simp only [Act.put, List.setIfInBounds_toArray, List.set_cons_zero, List.set_cons_succ])
             refine wpHeld_nil ?_
             simp only [List.length_cons, List.length_nil, List.drop_succ_cons, List.drop_zero]
             go_wp2_with fail
             go_meet
             exact ⟨n + 3, S, SB, sd, c2, x2, rfl, by omega, by omega, SI10.out, S10.out⟩
    case rest =>
     obtain ⟨n2, T, TA, sc2, c2, x2, rfl, hn2, hTl, hsi2, hs2⟩ := hcut
     have SI9 := Lib.hid hsi2
     have S9 := Lib.hid hs2
     clear hsi2 hs2 S8 SI
     go_wp2_with fail
     rename World => wa
     go_loopw [17] (fun s17 wr => ∃ k : Nat, k ≤ T.length ∧ s17 = .int .i64 (k : Int) ∧ SW w.heap.size w (sfL T TA sc2 tg1 A cap L n2 LA1 live g3 cs1 c2 x2 R) wr) (fun s17 _ => T.length - (intOf s17).toNat)
     case atStart => exact ⟨0, Nat.zero_le _, rfl, S9.out⟩
     case round =>
      rename World => wz
      obtain ⟨k, hk, rfl, hs⟩ := hrel
      have SW9 := Lib.hid hs
      clear hs S9
      by_cases hlt : k < T.length
      · obtain ⟨i, hik⟩ : ∃ i, T.getD k id0 = i := ⟨_, rfl⟩
        have hit : i ∈ T := by
         rw [← hik, List.getD_eq_getElem?_getD, List.getElem?_eq_getElem hlt]
         exact List.getElem_mem hlt
        obtain ⟨bs, hv, hfp, htx⟩ := SI9.out.val hit
        obtain ⟨gR, cR, hvR⟩ := own_some (SW9.out.get 5 (o := rowOb 31 2 (.slice TA T.length sc2) T.length (T.flatMap encID)) rfl) (by omega)
        injection hvR with e1 e2 e3
        subst e1
        clear e2 e3
        have HIK := Lib.hid hik
        have HFP := Lib.hid hfp
        have hbl := htx.hi
        have hio : okID i := by rw [← hfp]; exact htx.ok
        have S10 : Hid (SW w.heap.size w (x2.obs (coOb c2 :: rowOb 31 2 (.slice (some ⟨gR, 0, none⟩) T.length sc2) T.length (T.flatMap encID) :: tpOb tg1 A cap L n2 :: riOb LA1 live :: cellOb g3 102 cs1 :: R)) wz) := SW9.out.behind
        have HG := Lib.hid (Get_L S10.out.drew SI9.out.cl i hio bs hv)
        rw [SI9.out.xp] at HG
        have hki : (k : Int) < (T.length : Int) := by omega
        clear SW9 hik hfp hv hit htx hio
        go_upto_region 34 with fail
        refine wp_region_held_tail [(0, true), (1, true), (2, true), (3, true), (4, true), (5, true), (6, false), (7, true), (8, true), (9, true), (10, true)] (fun w' => w'.cell? ⟨g3, 2, none⟩ = some (vPtr ps) ∧ w'.cell? ⟨gR, k * 2, none⟩ = some (.int .u64 i.1) ∧ w'.cell? ⟨gR, k * 2 + 1, none⟩ = some (.int .i64 i.2)) (by kernel_rfl) (fun _ _ d _ _ h => by cases d <;> exact h) (by kernel_rfl) (⟨((S10.out.drew.cell 8 rfl).cell 2).trans HD1.out, ((own_rowI (S10.out.drew.get 5 (o := rowOb 31 2 (.slice (some ⟨gR, 0, none⟩) T.length sc2) T.length (T.flatMap encID)) rfl)).2.1.cells hlt HIK.out).1, ((own_rowI (S10.out.drew.get 5 (o := rowOb 31 2 (.slice (some ⟨gR, 0, none⟩) T.length sc2) T.length (T.flatMap encID)) rfl)).2.1.cells hlt HIK.out).2.1⟩) ?_
        simp only [picked, List.map_cons, List.map_nil, List.getD_cons_succ, List.getD_cons_zero]
        iterate 6
         (refine wpHeld_take (v := ?_) (Or.inl ⟨by rfl, ?_⟩) ?_
          rotate_left
          · (intro w' hSw; obtain ⟨h1, h2, h3⟩ := hSw; go_simp; try with_reducible rfl)
          try simp only [Act.put, List.setIfInBounds_toArray, List.set_cons_zero, List.set_cons_succ])
        refine wpHeld_run (fun K hK => ?_)
        go_simp
        go_at_call 30
        refine HG.out.mono ?_
        rintro e w9 ⟨d, rfl, s9⟩
        have S11 : Hid (SW w.heap.size w (x2.obs (bufOb d bs :: coOb c2 :: rowOb 31 2 (.slice (some ⟨gR, 0, none⟩) T.length sc2) T.length (T.flatMap encID) :: tpOb tg1 A cap L n2 :: riOb LA1 live :: cellOb g3 102 cs1 :: R)) w9) := s9
        have hrb : RB w9 d bs := s9.get 4 (o := bufOb d bs) rfl
        have hdl : d.len = bs.length := hrb.1.symm
        rw [hdl]
        clear s9 HG S10 hrb hdl
        go_wp2_with fail
        refine hK.out _ _ ⟨((S11.out.cell 9 rfl).cell 2).trans HD1.out, ((own_rowI (S11.out.get 6 (o := rowOb 31 2 (.slice (some ⟨gR, 0, none⟩) T.length sc2) T.length (T.flatMap encID)) rfl)).2.1.cells hlt HIK.out).1, ((own_rowI (S11.out.get 6 (o := rowOb 31 2 (.slice (some ⟨gR, 0, none⟩) T.length sc2) T.length (T.flatMap encID)) rfl)).2.1.cells hlt HIK.out).2.1⟩ ?_
        clear hK K
        try simp only [Act.put, List.setIfInBounds_toArray, List.set_cons_zero, List.set_cons_succ]
        iterate 4
         (refine wpHeld_take (v := ?_) (Or.inl ⟨by rfl, ?_⟩) ?_
          rotate_left
          · (intro w' hSw; obtain ⟨h1, h2, h3⟩ := hSw; go_simp; try with_reducible rfl)
          try simp only [Act.put, List.setIfInBounds_toArray, List.set_cons_zero, List.set_cons_succ])
        refine wpHeld_nil ?_
        simp only [List.length_cons, List.length_nil, List.drop_succ_cons, List.drop_zero]
        have S12 := Lib.hid S11.out.drew
        have HOF := Lib.hid (Of_any d.A d.cap bs w9.drew (S12.out.get 4 (o := bufOb d bs) rfl : RB _ d bs).rs (by omega))
        rw [HFP.out] at HOF
        clear S11
        go_upto_region 35 with fail
        refine wp_region_held_tail [(0, true), (1, true), (2, true), (3, true), (5, true), (6, true), (7, true), (8, true), (4, false), (9, true)] (fun w' => w'.cell? ⟨gR, k * 2, none⟩ = some (.int .u64 i.1) ∧ w'.cell? ⟨gR, k * 2 + 1, none⟩ = some (.int .i64 i.2)) (by kernel_rfl) (fun _ _ d _ _ h => by cases d <;> exact h) (by kernel_rfl) (⟨((own_rowI (S12.out.get 6 (o := rowOb 31 2 (.slice (some ⟨gR, 0, none⟩) T.length sc2) T.length (T.flatMap encID)) rfl)).2.1.cells hlt HIK.out).1, ((own_rowI (S12.out.get 6 (o := rowOb 31 2 (.slice (some ⟨gR, 0, none⟩) T.length sc2) T.length (T.flatMap encID)) rfl)).2.1.cells hlt HIK.out).2.1⟩) ?_
        simp only [picked, List.map_cons, List.map_nil, List.getD_cons_succ, List.getD_cons_zero]
        iterate 8
         (refine wpHeld_take (v := ?_) (Or.inl ⟨by rfl, ?_⟩) ?_
          rotate_left
          · (intro w' hSw; obtain ⟨h1, h2⟩ := hSw; go_simp; try with_reducible rfl)
          try simp only [Act.put, List.setIfInBounds_toArray, List.set_cons_zero, List.set_cons_succ])
        refine wpHeld_run (fun K hK => ?_)
        go_simp
        go_at_call 31
        refine HOF.out.mono ?_
        rintro e w10 ⟨rfl, hb10⟩
        have S13 := Lib.hid (S12.out.on hb10)
        clear hb10 HOF S12
        go_wp2_with fail
        refine hK.out _ _ ⟨((own_rowI (S13.out.get 6 (o := rowOb 31 2 (.slice (some ⟨gR, 0, none⟩) T.length sc2) T.length (T.flatMap encID)) rfl)).2.1.cells hlt HIK.out).1, ((own_rowI (S13.out.get 6 (o := rowOb 31 2 (.slice (some ⟨gR, 0, none⟩) T.length sc2) T.length (T.flatMap encID)) rfl)).2.1.cells hlt HIK.out).2.1⟩ ?_
        clear hK K
        try simp only [Act.put, List.setIfInBounds_toArray, List.set_cons_zero, List.set_cons_succ]
        (refine wpHeld_take (v := ?_) (Or.inl ⟨by rfl, ?_⟩) ?_
         rotate_left
         · (intro w' hSw; obtain ⟨h1, h2⟩ := hSw; go_simp; try with_reducible rfl)
         try simp only [Act.put, List.setIfInBounds_toArray, List.set_cons_zero, List.set_cons_succ])
        refine wpHeld_nil ?_
        simp only [List.length_cons, List.length_nil, List.drop_succ_cons, List.drop_zero]
        go_wp2_with fail
        go_roundw
        case rel => exact ⟨k + 1, by omega, by go_num, SW.infront (SW.few (pre := [_, _, _, _, _]) S13.out [0, 1, 2, 3] (n := 5) rfl (by decide) (by decide))⟩
        case measure => simp [intOf]; omega
      · obtain rfl : k = T.length := by omega
        go_wp2_with fail
        go_roundw
        case rel => exact ⟨m, n2, T, TA, sc2, c2, x2, by go_num, rfl, by omega, by omega, by omega, SI9.out, SW9.out⟩
        case measure => simp [intOf]
theorem law16 {A : Option Addr} {L : List Int} {n : Nat} (e : L.length = n) (cap : Nat) (w : World) (hr : RdT w w.heap.size A L) (hl : n ≤ 9223372036854775807) : Calls Tryz.prog 16 #[.slice A n cap] w (fun e w' => e = .returned (.bool true) ∧ Below w.heap.size w w') := by
 subst e
 exact law16_any (SW.startIn hr hl) (by simp) cap
end
end Go.Proofs.YteabgcollokgjaaGreatDoor
namespace Go.Proofs.YteabgcollokgjaaGreatDoor.lawCollectorSafe
open Go.ChangeShapes Go.WideShapes Go.ChangeAt Go.RowKit

theorem own : ownKnob Tryz.prog.godebug = none := by kernel_rfl
theorem laidOut : laidOutB Tryz.prog = true := by kernel_rfl
set_option maxRecDepth 100000 in
theorem lifted (os : Os) (started : os.Started) (H : Type) (enc : TypeId × Value → H) :
    ReturnsInHanded {} Tryz.checked os 16 .any (fun w args => (Rows.collectorSafeSpec.pre enc Tryz.prog Tryz.f16 [] false w args ∧ laidMetH Tryz.prog Rows.collectorSafeRow.laid w) ∧ sizedMet enc Tryz.prog Tryz.f16 (OpenSpec.ofChange Rows.collectorSafeSpec) false w args)
      (Rows.collectorSafeSpec.post enc Tryz.prog Tryz.f16 false true false false) := by
  refine returnsInHanded_of_change_and (C := Tryz.checked) (X := fun w _ => laidMetH Tryz.prog Rows.collectorSafeRow.laid w) (fun _ _ _ hh h => h.of_heap hh) own started (by kernel_rfl) Tryz.func16
    (ChangeSpec.witness_shaped (enc := enc) (C := Tryz.checked) (os := os) (X := fun w _ => laidMetH Tryz.prog Rows.collectorSafeRow.laid w) false (World.laidAll Tryz.prog os Rows.collectorSafeRow.laid) #[.slice none 0 0] 8 (World.laidAll_os _ _ _)
      (World.shaped_of_ZipB (by kernel_rfl) (by kernel_rfl)) (by kernel_rfl) (by kernel_rfl) (by kernel_rfl)
      (by rw [MakeChecks.laidMetH_plain _ _ _ (by kernel_rfl)]; exact laidMet_laidAll _ (by kernel_rfl) (by kernel_rfl))) ?_
  intro W base args ds gs before hval0 hW _ _ _ _
  have hval : ∀ (j : Nat) t v, Tryz.f16.params[j]? = some t → args[j]? = some v → Value.okWide Tryz.prog W .any base t v := hval0
  have hW' := hW
  obtain ⟨p, q, hA0, hV, rfl, hfz, hnd⟩ := hW
  have hA : DataW.TrodAll enc Tryz.prog W 0 (fun _ => true) true Tryz.f16.params.toList args.toList ds p := hA0
  rw [Tryz.params16] at hA hval
  obtain ⟨v0, vs0, d0, ds0, p0, q0, hargs, rfl, rfl, h0, r0⟩ := trodAll_cons hA
  obtain ⟨rfl, rfl, rfl⟩ := trodAll_nil r0
  obtain rfl : args = #[v0] := by cases args; simp_all
  obtain ⟨rfl, rfl⟩ := trodVars_none hV
  obtain ⟨a0, len0, cap0, rfl⟩ := okWide_slice Tryz.underlying47 (hval 0 47 v0 rfl rfl)
  have k0 := h0
  have lt0 : ∀ x ∈ p0, x.block < W.heap.size := by obtain ⟨m, hm⟩ := k0; exact DataW.trod_lt m _ _ _ hm
  obtain ⟨z0, e0, w0, l0⟩ := open_nums h0
  clear hA0 hval0
  simp only [List.append_nil] at hW'
  refine (law16 e0 cap0 W w0 l0).mono fun e W' ⟨he, bel⟩ => ?_
  subst he
  exact ⟨_, rfl, _, _, _, [], _, [], hW', trodAll_mk1 (shut_bool Tryz.underlying4 _), (trodAll_cons_mk (Below.trod laidOut (by kernel_rfl) (of_decide_eq_true (by kernel_rfl)) k0 bel lt0) trodAll_mk0), rfl, bel.frame _, fun h => by cases h⟩
theorem over : Rows.CollectorSafeSaid :=
  OpenClaim.holds_of_wide 16 Tryz.f16 rfl rfl rfl rfl rfl rfl rfl ⟨rfl, rfl, rfl, rfl, rfl⟩ rfl rfl rfl rfl rfl (by kernel_rfl) Tryz.func16 facts
    inst (by unfold Func.isWrapper; rw [if_neg (by decide +kernel)]; exact ⟨rfl, rfl⟩)
    (fun os started H enc _ => lifted os started H enc)
end Go.Proofs.YteabgcollokgjaaGreatDoor.lawCollectorSafe
namespace Go.Proofs.YteabgcollokgjaaGreatDoor
open Go
theorem collectorSafe_card_holds : Rows.CollectorSafeCardSaid :=
  Claim7.holds_tied_plain_at .later [] [.data, .data, .data, .sentinel, .sentinel] true (true, "4a38bbb49ce63abfc4bef169534f954a347f1319075e6aeec9c8b86bb9d66d28") true lawCollectorSafe.over (fun _ h => by cases h) lawCollectorSafe.cardWf (fun _ h => by cases h) collectorSafe_row_tie rfl ⟨rfl, rfl⟩ mainIs_ok rfl
    (fun f fn hf hfn => by
      obtain rfl : f = 16 := Option.some.inj (lawCollectorSafe.named.symm.trans hf) |>.symm
      obtain rfl : fn = Tryz.f16 := (Option.some.inj (Tryz.func16.symm.trans hfn)).symm
      exact ⟨cardLooks, fun j t ht => by
        rw [Tryz.params16] at ht
        have hm : t ∈ [47] := by simpa using Array.mem_of_getElem? ht
        exact (show Tryz.prog.wantsStandIn t = false by simpa using List.all_eq_true.1 lawCollectorSafe.noStand t hm)⟩)
    lawCollectorSafe.cardGoes
#print axioms collectorSafe_card_holds
end Go.Proofs.YteabgcollokgjaaGreatDoor
