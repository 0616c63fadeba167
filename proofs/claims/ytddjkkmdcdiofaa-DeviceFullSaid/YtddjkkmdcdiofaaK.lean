/- Contracts: copied. -/
import Derived.Test.YtddjkkmdcdiofaaJ
namespace Go.Proofs.Ytddjkkmdcdiofaa
open Go.RowKit Go.MapKept Go.ChangeMaps

theorem RIs.done_nodup {α β : Type} {ok : α → Prop} {kv : α → Value} {vv : β → Value} {w : World} {b r : Nat} {L done : List (α × β)} {cnt : Nat} (h : RIs ok kv vv w b r L done cnt) : (done.map (·.1)).Nodup := by
  have hL := h.map.nodup
  obtain ⟨es, clock, since, seen, c0, is, _, _, _, _, _, _, _, _, _, hnd, _, hd⟩ := h
  have h1 : (is.map (fun i => L[i]?)).Pairwise (fun x y => x.map (·.1) ≠ y.map (·.1)) := by
    rw [List.pairwise_map]
    refine List.Pairwise.imp_of_mem ?_ hnd
    intro i j hi hj hne e
    have m : ∀ k ∈ is, k < L.length := fun k hk => by
      have : L[k]? ∈ is.map (fun i => L[i]?) := List.mem_map.2 ⟨k, hk, rfl⟩
      rw [hd] at this
      obtain ⟨c, _, hc⟩ := List.mem_map.1 this
      exact (List.getElem?_eq_some_iff.1 hc.symm).1
    exact hne (nodup_idx hL (by simpa using m i hi) (by simpa using m j hj) (by simpa using e))
  rw [hd, List.pairwise_map] at h1
  simpa [List.Nodup, List.pairwise_map] using h1
def clipE (e : ByteArray × En) : ByteArray × En := (e.1, clip e.2.1, e.2.2)
theorem clip_plain (D : Files) : plain (D.map clipE) = plain D := by simp [plain, clipE, Function.comp_def]
theorem clip_set {D : Files} {c : ByteArray × En} (h : ((D ++ [c]).map (·.1)).Nodup) : setL (D.map clipE) c.1 (clip c.2.1, c.2.2) = (D ++ [c]).map clipE := by
  rw [setL_none]
  · simp [clipE]
  · intro d hd e
    obtain ⟨x, hx, rfl⟩ := List.mem_map.1 hd
    rw [List.map_append, List.nodup_append] at h
    exact h.2.2 x.1 (List.mem_map.2 ⟨x, hx, rfl⟩) c.1 (by simp) e
theorem run_makeMap_hint (w : World) (n : Nat) : (Instr.makeMap 78 (some (.int .i64 n))).run Try.prog w = .ok (.map (some w.heap.size)) (w.alloc (.map #[] 0)) := by
  simp [Instr.makeMap, run_underlying Try.underlying78, asInt, asIntOf, Result.andThen]
/-- A copy of a map of files, each clipped. -/
def CopiedPost (E : Files) (w : World) (e : Ending) (w' : World) : Prop :=
  ∃ (b' : Nat) (D : Files), e = .returned (.map (some b')) ∧ w.heap.size ≤ b' ∧ FM w' b' (D.map clipE) ∧ D.Perm E ∧ Below w.heap.size w w'
theorem copied_post {b : Nat} {E D : Files} {w w' : World} {H : Nat} (h : FM w b E) (hp : D.Perm E) (hm : MapIs okS kS vE w' H (D.map clipE)) (hb : Below w.heap.size w w') (hH : w.heap.size ≤ H := by exact Nat.le_refl _) : CopiedPost E w (.returned (.map (some H))) w' := by
  refine ⟨H, D, rfl, hH, ⟨hm, fun e he => ?_, ?_⟩, hp, hb⟩
  · obtain ⟨x, hx, rfl⟩ := List.mem_map.1 he
    exact ((h.2.1 x (hp.mem_iff.1 hx)).on hb).clip
  · rw [List.pairwise_map]
    exact (hp.pairwise_iff (R := fun x y : ByteArray × En => ∀ g, blk x.2.1 = some g → blk y.2.1 ≠ some g) (fun hxy g hy hx => hxy g hx hy)).2 h.2.2
theorem wpList_next_fs (w : World) {ops : Array Oper} {rest : List Oper} {o : Oper} {a : Act} {Q : Exit → Act → World → Prop} (hg : o.guard = none) (it : Operand) (hop : o.op = Op.next it false) (b r : Nat) (L done : Files) (cnt : Nat)
    (hit : a.eval it = .pointer (some ⟨r, 0, none⟩)) (h : RIs okS kS vE w b r L done cnt)
    (hDone : done.Perm L → wpList Try.prog ops Q rest (a.put o.dst (.tuple #[.bool false])) w)
    (hMore : ∀ (s : ByteArray) (d : BD) (bs : List UInt8) (w' : World) (cnt' : Nat), (s, d, bs) ∈ L → RIs okS kS vE w' b r L (done ++ [(s, d, bs)]) cnt' → cnt' < cnt → w.grownBy w' (some r) → Hid (w'.heap.size = w.heap.size) →
      (Instr.entry (.pointer (some ⟨r, 0, none⟩))).run Try.prog w' = .ok (.tuple #[.string s, vB d]) w' → wpList Try.prog ops Q rest (a.put o.dst (.tuple #[.bool true, .string s, vB d])) w') :
    wpList Try.prog ops Q (o :: rest) a w :=
  wpList_next_is w hg it hop b r L done cnt hit h hDone (fun c w' cnt' h1 h2 h3 h4 h5 h6 => hMore c.1 c.2.1 c.2.2 w' cnt' h1 h2 h3 h4 h5 h6)
/-- Stops the walk. -/
theorem halt_ {p : Prop} (h : Hid p) : p := h

set_option maxRecDepth 100000 in
set_option maxHeartbeats 2000000 in
theorem copied_any (b : Nat) (E : Files) (w : World) (h : FM w b E) (_hn : E.length ≤ 1000000000) (hl : ∀ e ∈ E, e.2.2.length ≤ 1099511627776) :
    Calls Try.prog 59 #[.map (some b)] w (CopiedPost E w) := by
  have hlen : (Builtin.len_ #[78] 3 #[.map (some b)]).run Try.prog w = .ok (.int .i64 E.length) w := h.1.len Try.underlying78 3
  have hmk : (Instr.makeMap 78 (some (.int .i64 E.length))).run Try.prog w = .ok (.map (some w.heap.size)) (w.alloc (.map #[] 0)) := run_makeMap_hint w E.length
  have H := Lib.hid h
  have Hl := Lib.hid hl
  have hbw := h.1.lt
  have Hm : Hid (MapIs okS kS vE (w.alloc (.map #[] 0)) b E) := h.1.alloc _
  clear h hl
  go_enter Try.func59, Try.ntmps59
  go_wp2_with (at_range; refine wpList_range_is _ rfl _ 78 rfl 9 22 Try.underlying78 b E rfl Hm.out ?_; intro w0 hrg0 hg0 hs0)
  have Hrg0 := Lib.hid hrg0
  have Hn0 : Hid (MapIs okS kS vE w0 w.heap.size ([] : Files)) := (MapIs.made w).kept hg0 (by simp)
  have Hb0 : Hid (Below w.heap.size w w0) := (bel1 w (.map #[] 0)).grown hg0 (by simp) (by simp)
  clear hrg0 hg0 hlen
  simp only [World.size_alloc] at Hrg0 ⊢
  go_frame
  go_loopw [4] (fun _v4 wr => ∃ (done : Files) (cnt : Nat), RIs okS kS vE wr b (w.heap.size + 1) E done cnt ∧ MapIs okS kS vE wr w.heap.size (done.map clipE) ∧ Below w.heap.size w wr) (fun _ wr => wr.rangeLeft b (w.heap.size + 1))
  case atStart => exact ⟨[], _, Hrg0.out, Hn0.out, Hb0.out⟩
  case round =>
    obtain ⟨done, cnt, hrg, hmp, hb⟩ := hrel
    have hsz := hb.size
    have Hleft := Lib.hid hrg.left_eq
    have Hrg := Lib.hid hrg
    have Hmp := Lib.hid hmp
    have Hb := Lib.hid hb
    clear hrg hmp hb
    go_wp2_with (first
      | (at_next; refine wpList_next_fs _ rfl _ rfl b (w.heap.size + 1) E done cnt rfl Hrg.out (fun hp => ?_) (fun s d bs w1 cnt1 hc hrg1 hlt1 hg1 hs1 hen => ?_))
      | (at_builtin; refine halt_ ?_))
    · have Hp := Lib.hid hp
      clear hp
      go_wp2_with fail
      go_ret
      exact copied_post H.out Hp.out Hmp.out Hb.out
    · have Hc := Lib.hid hc
      have Hrg1 := Lib.hid hrg1
      have Hlt1 := Lib.hid hlt1
      have Hb1 : Hid (Below w.heap.size w w1) := Hb.out.grown hg1 hsz (by simp)
      have Hm1 : Hid (MapIs okS kS vE w1 w.heap.size (done.map clipE)) := Hmp.out.kept hg1 (by simp)
      have Hr1 : Hid (RB w1 d bs) := ((H.out.2.1 _ hc).on Hb1.out)
      obtain ⟨w2, hu, hm2, hg2, hz2⟩ := MapIs.update mkS Try.underlying78 Hm1.out (H.out.1.oks _ hc) (clip d, bs)
      have hu' : (Instr.mapUpdate 78 (.map (some w.heap.size)) (.string s) (vB (clip d))).run Try.prog w1 = .ok () w2 := hu
      have HM2 : Hid (MapIs okS kS vE w2 w.heap.size ((done ++ [(s, d, bs)]).map clipE)) := by rw [Hid, ← clip_set hrg1.done_nodup]; exact hm2
      have Hb2 : Hid (Below w.heap.size w w2) := Hb1.out.grown hg2 Hb1.out.size (by simp)
      have Hrg2 : Hid (RIs okS kS vE w2 b (w.heap.size + 1) E (done ++ [(s, d, bs)]) cnt1) := hrg1.kept hg2 (by simp; omega) (by simp)
      clear hu hm2 hg2 hz2 hc hrg1 hlt1 hg1
      go_wp2_with (go_at_call 70; refine (Clip_any d bs _ Hr1.out (Hl.out _ Hc.out)).mono ?_; rintro e w3 ⟨rfl, rfl⟩)
      go_roundw
      case rel => exact ⟨_, _, Hrg2.out, HM2.out, Hb2.out⟩
      case measure => rw [Hrg2.out.left_eq, Hleft.out]; exact Hlt1.out
end Go.Proofs.Ytddjkkmdcdiofaa
