/- Contracts: table. -/
import Derived.Test.YtjglpmcekbjoaaaK
namespace Go.Proofs.Ytjglpmcekbjoaaa
open Go.RowKit Go.Shelf Go.Sort

def limB (L : List CT) : Bool := decide (L.length ≤ 4096) && L.all (fun c => decide (c.2 ≤ 1073741824))
/-- The rows ascend. -/
def Asc (T : List CT) : Prop := T.Pairwise (fun a b => ltID a.1 b.1 = true)
def TablePost (x : Nat) (L : List CT) (w : World) (e : Ending) (w' : World) : Prop :=
  Below w.heap.size w w' ∧ ((limB L = true ∧ ∃ (T : List CT) (A : Option Addr) (c : Nat), T.Perm L ∧ Asc T ∧ e = .returned (.tuple #[.slice A T.length c, .int .i64 0]) ∧ RdC w' x A T ∧ T.length ≤ c ∧ (∀ ad, A = some ad → w.heap.size ≤ ad.block ∧ ad.block < w'.heap.size)) ∨
    (limB L = false ∧ e = .returned (.tuple #[.slice none 0 0, .int .i64 281])))
theorem info66 : (Try.prog.info? 66).map (fun i => (i.zero, i.size, i.bytes)) = some (some (.agg #[.int .u64 0, .int .i64 0, .int .i64 0]), 3, 24) := by kernel_rfl
theorem three_new (W : World) (x y z : Value) (t : TypeId) (H : Nat) (hH : W.heap.size = H) : ∀ j u, [x, y, z][j]? = some u → (W.alloc (.cells #[x, y, z] t)).cell? ((⟨H, 0, none⟩ : Addr).add j) = some u := by
  subst hH
  intro j u hu
  have hc := fun i => (IsB.new W t #[x, y, z]).cell i
  match j, hu with
  | 0, hu => simp at hu; subst hu; simp [Addr.add, hc]
  | 1, hu => simp at hu; subst hu; simp [Addr.add, hc]
  | 2, hu => simp at hu; subst hu; simp [Addr.add, hc]
  | j + 3, hu => simp at hu
theorem asc_of_sorted {T : List CT} (hs : T.Pairwise (fun a b => ltOf cmpCT b a = false)) (hn : (T.map (·.1)).Nodup) : Asc T := by
  have h2 : T.Pairwise (fun a b => a.1 ≠ b.1) := by simpa [List.Nodup, List.pairwise_map] using hn
  refine (hs.and h2).imp ?_
  rintro ⟨⟨a1, a2⟩, a3⟩ ⟨⟨b1, b2⟩, b3⟩ ⟨h, hne⟩
  rw [lt_cmpCT] at h
  simp [ltID] at h hne ⊢
  omega
theorem own_iter {w : World} {base : Nat} {e : TypeId} {size n : Nat} {v : Value} {xs : List Value} (h : w.ownsRow base e size v n xs) {r : Nat} {m : Option Nat} {s : Nat} {seen : Array Nat} {c : Nat} (hr : w.heap[r]? = some (.mapIter m s seen c)) : some r ≠ v.ownBlock := by
  rcases h.2 with ⟨rfl, _⟩ | ⟨g', cap, cur, rfl, _, hh, _⟩
  · simp [Value.ownBlock]
  · intro he
    have : r = g' := by simpa [Value.ownBlock] using he
    subst this
    rw [hr] at hh
    cases hh
theorem RIs.own_ne {α β : Type} {ok : α → Prop} {kv : α → Value} {vv : β → Value} {w : World} {b r : Nat} {L done : List (α × β)} {cnt : Nat} (h : RIs ok kv vv w b r L done cnt) {base : Nat} {e : TypeId} {size n : Nat} {v : Value} {xs : List Value} (ho : w.ownsRow base e size v n xs) : some r ≠ v.ownBlock := by
  obtain ⟨es, clock, since, seen, c0, is, _, _, _, _, h5, _⟩ := h
  exact own_iter ho h5
theorem MapIs.own_ne {α β : Type} {ok : α → Prop} {kv : α → Value} {vv : β → Value} {w : World} {b : Nat} {L : List (α × β)} (h : MapIs ok kv vv w b L) {base : Nat} {e : TypeId} {size n : Nat} {v : Value} {xs : List Value} (ho : w.ownsRow base e size v n xs) : some b ≠ v.ownBlock := by
  obtain ⟨es, clock, h1, _⟩ := h
  rcases ho.2 with ⟨rfl, _⟩ | ⟨g', cap, cur, rfl, _, hh, _⟩
  · simp [Value.ownBlock]
  · intro he
    have : b = g' := by simpa [Value.ownBlock] using he
    subst this
    rw [h1] at hh
    cases hh

theorem wpList_next_ct (w : World) {ops : Array Oper} {rest : List Oper} {o : Oper} {a : Act} {Q : Exit → Act → World → Prop} (hg : o.guard = none) (it : Operand) (hop : o.op = Op.next it false) (b r : Nat) (L done : List CT) (cnt : Nat)
    (hit : a.eval it = .pointer (some ⟨r, 0, none⟩)) (h : RIs okID vID vN w b r L done cnt)
    (hDone : done.Perm L → wpList Try.prog ops Q rest (a.put o.dst (.tuple #[.bool false])) w)
    (hMore : ∀ (s z n : Int) (w' : World) (cnt' : Nat), ((s, z), n) ∈ L → RIs okID vID vN w' b r L (done ++ [((s, z), n)]) cnt' → cnt' < cnt → w.grownBy w' (some r) → Hid (w'.heap.size = w.heap.size) →
      (Instr.entry (.pointer (some ⟨r, 0, none⟩))).run Try.prog w' = .ok (.tuple #[.agg #[.int .u64 s, .int .i64 z], .int .i64 n]) w' → wpList Try.prog ops Q rest (a.put o.dst (.tuple #[.bool true, .agg #[.int .u64 s, .int .i64 z], .int .i64 n])) w') :
    wpList Try.prog ops Q (o :: rest) a w :=
  wpList_next_is w hg it hop b r L done cnt hit h hDone (fun c w' cnt' h1 h2 h3 h4 h5 h6 => hMore c.1.1 c.1.2 c.2 w' cnt' h1 h2 h3 h4 h5 h6)
/-- Stops the walk. -/
theorem halt_ {p : Prop} (h : Hid p) : p := h
theorem nodup_le {l : List Nat} {n : Nat} (hn : l.Nodup) (h : ∀ i ∈ l, i < n) : l.length ≤ n := by
  have h2 : (l ++ (List.range n).filter (fun i => decide (i ∉ l))).Nodup := by
    refine List.nodup_append.2 ⟨hn, List.nodup_range.filter _, fun a ha b hb e => ?_⟩
    subst e
    simp at hb
    exact hb.2 ha
  have hp := (List.perm_ext_iff_of_nodup h2 (List.nodup_range (n := n))).2 (fun a => by
    simp only [List.mem_append, List.mem_filter, List.mem_range, decide_eq_true_eq]
    constructor
    · rintro (h1 | h1)
      · exact h a h1
      · exact h1.1
    · intro h1
      by_cases ha : a ∈ l
      · exact .inl ha
      · exact .inr ⟨h1, ha⟩)
  have := hp.length_eq
  rw [List.length_append, List.length_range] at this
  omega
theorem RIs.len {α β : Type} {ok : α → Prop} {kv : α → Value} {vv : β → Value} {w : World} {b r : Nat} {L done : List (α × β)} {cnt : Nat} (h : RIs ok kv vv w b r L done cnt) : done.length ≤ L.length := by
  obtain ⟨es, clock, since, seen, c0, is, _, _, _, _, _, _, _, _, _, hnd, _, hd⟩ := h
  have h1 : is.length = done.length := by
    have := congrArg List.length hd
    simpa using this
  have h2 : ∀ i ∈ is, i ∈ List.range L.length := by
    intro i hi
    have : L[i]? ∈ is.map (fun i => L[i]?) := List.mem_map.2 ⟨i, hi, rfl⟩
    rw [hd] at this
    obtain ⟨c, _, hc⟩ := List.mem_map.1 this
    exact List.mem_range.2 (List.getElem?_eq_some_iff.1 hc.symm).1
  have := nodup_le hnd (fun i hi => List.mem_range.1 (h2 i hi))
  omega

set_option maxRecDepth 100000 in
set_option maxHeartbeats 4000000 in
theorem table_any (x b : Nat) (L : List CT) (w : World) (hm : Mp w b L) (hx : x < w.heap.size) (hn : L.length ≤ 1000000000000) :
    Calls Try.prog 40 #[.map (some b)] w (TablePost x L w) := by
  obtain ⟨i0, hi, hz0, hz1, hz2⟩ := info_parts info66
  have hlen : (Builtin.len_ #[58] 3 #[.map (some b)]).run Try.prog w = .ok (.int .i64 L.length) w := hm.len Try.underlying58 3
  have Hm := Lib.hid hm
  have hbw := hm.lt
  clear hm
  by_cases hl : L.length ≤ 4096
  · go_enter Try.func40, Try.ntmps40
    go_wp2_with (first | (at_make; refine wpList_make_own _ rfl _ _ _ rfl w.heap.size 66 i0 _ 3 Try.underlying28 hi hz0 hz1 _ _ _ L.length rfl rfl rfl (by rw [hz2]; omega) (by unfold maxLen; omega) (Nat.le_refl _) ?_; intro wm hown hgm; have Hmm := Lib.hid (Hm.out.kept hgm (by simp)); have Hown := Lib.hid hown; have Hgm := Lib.hid hgm; have hsm := hgm.size; clear hown hgm hlen) | (at_range; refine wpList_range_is _ rfl _ 58 rfl 43 3 Try.underlying58 b L rfl Hmm.out ?_; intro w0 hrg0 hg0 hs0))
    have Hrg0 := Lib.hid hrg0
    have Hown0 := Lib.hid (Hown.out.kept hg0 (.inr (by simp [Value.ownBlock])))
    have Hb0 : Hid (Below w.heap.size w w0) := ((Below.refl w.heap.size w).grown Hgm.out (Nat.le_refl _) (by simp)).grown hg0 (by omega) (by simp)
    clear hrg0 hg0
    go_frame
    go_loopw [4] (fun v4 wr => ∃ (done : List CT) (g cap cnt : Nat), v4 = .slice (some ⟨g, 0, none⟩) done.length cap ∧ RIs okID vID vN wr b wm.heap.size L done cnt ∧ wr.ownsRow w.heap.size 66 3 (.slice (some ⟨g, 0, none⟩) done.length cap) done.length (done.flatMap encC) ∧ (∀ c ∈ done, c.2 ≤ 1073741824) ∧ Below w.heap.size w wr) (fun _ wr => wr.rangeLeft b wm.heap.size)
    case atStart => exact ⟨[], w.heap.size, _, _, rfl, Hrg0.out, Hown0.out, by simp, Hb0.out⟩
    case round =>
      obtain ⟨done, g, cap, cnt, rfl, hrg, hown, hall, hb⟩ := hrel
      have hsz := hb.size
      have hleft := hrg.left_eq
      have Hleft := Lib.hid hleft
      have Hrg := Lib.hid hrg
      have Hown := Lib.hid hown
      have Hall := Lib.hid hall
      have Hb := Lib.hid hb
      clear hrg hown hall hb hleft
      go_wp2_with (first
        | (at_next; refine wpList_next_ct _ rfl _ rfl b wm.heap.size L done cnt rfl Hrg.out (fun hp => ?_) (fun s z n w1 cnt1 hc hrg1 hlt1 hg1 hs1 hen => ?_))
        | (at_builtin; refine halt_ ?_))
      · have hdl : done.length ≤ 4096 := by rw [hp.length_eq]; exact hl
        have HE : Hid (limB L = true) := by
          simp only [Hid, limB, Bool.and_eq_true, decide_eq_true_eq, List.all_eq_true]
          exact ⟨hl, fun c hc => Hall.out c (hp.mem_iff.2 hc)⟩
        have HN : Hid ((done.map (·.1)).Nodup) := (List.Perm.nodup_iff (hp.map (fun c : CT => c.1))).2 Hrg.out.map.nodup
        have Hp := Lib.hid hp
        clear hp
        refine (sortC_any w.heap.size g done.length cap x done _ Hown.out hx (by omega)).mono ?_
        rintro e w2 ⟨rfl, ⟨T, hT, hTs, hTr⟩, hb2⟩
        have HT := Lib.hid hT
        have HTs := Lib.hid hTs
        have HTr := Lib.hid hTr
        have hlT : done.length = T.length := hT.length_eq.symm
        have Hcap := Lib.hid (own_cap Hown.out)
        clear hT hTs hTr
        go_wp2_with fail
        go_ret2
        refine ⟨Hb.out.trans hb2, .inl ⟨HE.out, T, some ⟨g, 0, none⟩, cap, HT.out.trans Hp.out, asc_of_sorted HTs.out ((List.Perm.nodup_iff (HT.out.map (fun c : CT => c.1))).2 HN.out), by rw [← hlT]; rfl, HTr.out, by rw [← hlT]; exact Hcap.out, ?_⟩⟩
        intro ad had
        injection had with had
        subst had
        have := Hown.out.lt g rfl
        exact ⟨this.1, Nat.lt_of_lt_of_le this.2 hb2.size⟩
      · rename_i hbig
        have HE : Hid (limB L = false) := by
          simp only [Hid, limB, Bool.and_eq_false_iff]
          refine .inr ?_
          rw [List.all_eq_false]
          exact ⟨_, hc, by simp; omega⟩
        have Hb1 : Below w.heap.size w w1 := Hb.out.grown hg1 hsz (fun k hk => by injection hk with hk; omega)
        go_ret2
        exact ⟨Hb1.alloc Hb1.size _, .inr ⟨HE.out, rfl⟩⟩
      · rename_i hbig
        unfold Hid
        have K1 : Hid (w1.ownsRow w.heap.size 66 3 (.slice (some ⟨g, 0, none⟩) done.length cap) done.length (done.flatMap encC)) := Hown.out.kept hg1 (.inr (fun e => Hrg.out.own_ne Hown.out e.symm))
        have Hb1 : Hid (Below w.heap.size w w1) := Hb.out.grown hg1 hsz (fun k hk => by injection hk with hk; omega)
        have hsz1 := Hb1.out.size
        have hdl : done.length < 4096 := by
          have := hrg1.len
          simp at this
          omega
        refine wpList_append_lies _ rfl _ _ _ rfl w.heap.size 66 i0 _ 3 24 Try.underlying28 hi hz0 hz1 hz2 rfl (by decide) _ done.length _ rfl ((K1.out.alloc _).alloc _) ⟨w1.heap.size + 1, 0, none⟩ 1 1 [.int .u64 s, .int .i64 z, .int .i64 n] rfl rfl (three_new _ _ _ _ _ _ (by simp)) (encC_one ((s, z), n)) (by omega) (by unfold maxLen; omega) (by omega) (by simp; omega) (w1.heap.size + 2) (by simp) ?_
        intro g2 cap2 w4 hown4 hgrow hat hltg
        have Hown4 := Lib.hid hown4
        have Hrg4 : Hid (RIs okID vID vN w4 b wm.heap.size L (done ++ [((s, z), n)]) cnt1) := ((hrg1.alloc _).alloc _).kept hgrow (hrg1.map.own_ne K1.out) (hrg1.own_ne K1.out)
        have Hb4 : Hid (Below w.heap.size w w4) := ((Hb1.out.alloc Hb1.out.size _).alloc (by simp; omega) _).grown hgrow (by simp; omega) (fun k hk => (K1.out.lt k hk).1)
        clear hown4 hgrow hat
        go_wp2_with fail
        go_roundw
        case rel =>
          refine ⟨done ++ [((s, z), n)], g2, cap2, cnt1, by simp, Hrg4.out, ?_, ?_, Hb4.out⟩
          · rw [List.length_append, List.flatMap_append]
            exact Hown4.out
          · intro c hc
            rcases List.mem_append.1 hc with hc | hc
            · exact Hall.out c hc
            · simp at hc; subst hc; simp only; omega
        case measure =>
          rw [Hrg4.out.left_eq, Hleft.out]
          exact hlt1
  · have HE : Hid (limB L = false) := by simp [Hid, limB]; omega
    go_enter Try.func40, Try.ntmps40
    go_wp2_with fail
    go_ret2
    exact ⟨Below.refl _ _, .inr ⟨HE.out, rfl⟩⟩
end Go.Proofs.Ytjglpmcekbjoaaa
