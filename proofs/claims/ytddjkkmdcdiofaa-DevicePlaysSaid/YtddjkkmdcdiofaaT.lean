/- Plain theory of a device: how many files there are, how long they are; the requests. -/
import Derived.Test.YtddjkkmdcdiofaaS
namespace Go.Proofs.Ytddjkkmdcdiofaa
open Go.RowKit Go.MapKept Go.ChangeMaps

/-- f has n names. -/
def Cnt (f : FF) (n : Nat) : Prop := ∃ L : List ByteArray, L.Nodup ∧ (∀ m, m ∈ L ↔ (f m).isSome = true) ∧ L.length = n
theorem Cnt.uniq {f : FF} {n m : Nat} (h : Cnt f n) (k : Cnt f m) : n = m := by
  obtain ⟨L, h1, h2, rfl⟩ := h
  obtain ⟨M, k1, k2, rfl⟩ := k
  exact ((List.perm_ext_iff_of_nodup h1 k1).2 (fun a => (h2 a).trans (k2 a).symm)).length_eq
theorem Cnt.files {w : World} {b : Nat} {E : Files} {f : FF} (h : FM w b E) (hf : ∀ n, asc (plain E) n = f n) : Cnt f E.length := by
  refine ⟨(plain E).map (·.1), plain_nodup h, fun m => ?_, by simp [plain]⟩
  rw [← hf m]
  constructor
  · intro hm
    obtain ⟨c, hc, rfl⟩ := List.mem_map.1 hm
    obtain ⟨j, hj⟩ := List.mem_iff_getElem?.1 hc
    rw [asc_at (plain_nodup h) hj]
    rfl
  · intro hm
    cases ha : asc (plain E) m with
    | none => rw [ha] at hm; cases hm
    | some v => exact List.mem_map.2 ⟨_, mem_of_asc ha, rfl⟩
theorem Cnt.put {f : FF} {n : Nat} (h : Cnt f n) (nm : ByteArray) (v : List UInt8) : Cnt (f.set nm (some v)) (if (f nm).isSome then n else n + 1) := by
  obtain ⟨L, h1, h2, rfl⟩ := h
  by_cases hs : (f nm).isSome = true
  · rw [if_pos hs]
    refine ⟨L, h1, fun m => ?_, rfl⟩
    unfold FF.set
    by_cases e : nm = m
    · subst e; simp [h2, hs]
    · simp [e, h2]
  · rw [if_neg hs]
    refine ⟨nm :: L, List.nodup_cons.2 ⟨fun hm => hs ((h2 nm).1 hm), h1⟩, fun m => ?_, rfl⟩
    unfold FF.set
    by_cases e : nm = m
    · subst e; simp
    · simp only [List.mem_cons, if_neg e, h2]
      constructor
      · rintro (rfl | h)
        · exact absurd rfl e
        · exact h
      · exact .inr
theorem Cnt.drop {f : FF} {n : Nat} (h : Cnt f n) (nm : ByteArray) : Cnt (f.set nm none) (if (f nm).isSome then n - 1 else n) := by
  obtain ⟨L, h1, h2, rfl⟩ := h
  have key : ∀ m, m ∈ L.filter (fun x => decide (x ≠ nm)) ↔ ((f.set nm none) m).isSome = true := fun m => by
    unfold FF.set
    rw [List.mem_filter]
    by_cases e : nm = m
    · subst e; simp
    · simp only [if_neg e, h2]
      constructor
      · exact fun h => h.1
      · exact fun h => ⟨h, by simpa using fun e2 => e e2.symm⟩
  refine ⟨L.filter (fun x => decide (x ≠ nm)), h1.filter _, key, ?_⟩
  by_cases hs : (f nm).isSome = true
  · rw [if_pos hs]
    have hm := (h2 nm).2 hs
    have hp : L.Perm (nm :: L.filter (fun x => decide (x ≠ nm))) := by
      refine (List.perm_ext_iff_of_nodup h1 (List.nodup_cons.2 ⟨by simp, h1.filter _⟩)).2 (fun a => ?_)
      rw [List.mem_cons, List.mem_filter]
      by_cases e : a = nm
      · subst e; simp [hm]
      · simp [e]
    have := hp.length_eq
    simp only [List.length_cons] at this
    omega
  · rw [if_neg hs]
    have : L.filter (fun x => decide (x ≠ nm)) = L := by
      rw [List.filter_eq_self]
      intro a ha
      simp only [decide_eq_true_eq]
      rintro rfl
      exact hs ((h2 a).1 ha)
    rw [this]
/-- All files fit. -/
def Small (f : FF) : Prop := (∀ n bs, f n = some bs → bs.length ≤ 4194304) ∧ ∃ c, c ≤ 256 ∧ Cnt f c
structure Ok (s : St) : Prop where
  f0 : 0 ≤ s.f
  f1 : s.f ≤ 9223372036854775807
  pre : ∀ k, Small ((s.ops.take k).foldl applyF s.K)
  ops : ∀ o ∈ s.ops, okS o.nm ∧ okS o.to ∧ o.bs.length ≤ 4194304
theorem Ok.now {s : St} (h : Ok s) : Small s.now := by
  have := h.pre s.ops.length
  rwa [List.take_length] at this
theorem Ok.kept {s : St} (h : Ok s) : Small s.K := by
  have := h.pre 0
  simpa using this
theorem Small.len {f : FF} (h : Small f) (n : ByteArray) : ((f n).getD []).length ≤ 4194304 := by
  cases hf : f n with
  | none => simp
  | some bs => exact h.1 n bs hf
theorem Small.set {f : FF} (h : Small f) (nm : ByteArray) (v : List UInt8) (hv : v.length ≤ 4194304) (hc : (f nm).isSome = true ∨ ∀ c, Cnt f c → c < 256) : Small (f.set nm (some v)) := by
  obtain ⟨h1, c, hc1, hc2⟩ := h
  refine ⟨fun n bs hn => ?_, _, ?_, hc2.put nm v⟩
  · unfold FF.set at hn
    split at hn
    · injection hn with hn; subst hn; exact hv
    · exact h1 n bs hn
  · split
    · exact hc1
    · rename_i hs
      rcases hc with hc | hc
      · exact absurd hc hs
      · have := hc c hc2; omega
theorem Small.del {f : FF} (h : Small f) (nm : ByteArray) : Small (f.set nm none) := by
  obtain ⟨h1, c, hc1, hc2⟩ := h
  refine ⟨fun n bs hn => ?_, _, ?_, hc2.drop nm⟩
  · unfold FF.set at hn
    split at hn
    · cases hn
    · exact h1 n bs hn
  · split <;> omega
theorem Small.move {f : FF} (h : Small f) (nm to : ByteArray) (hne : nm ≠ to) (hs : (f nm).isSome = true) : Small ((f.set to (some ((f nm).getD []))).set nm none) := by
  have hl := h.len nm
  obtain ⟨h1, c, hc1, hc2⟩ := h
  refine ⟨fun n bs hn => ?_, _, ?_, (hc2.put to _).drop nm⟩
  · unfold FF.set at hn
    split at hn
    · cases hn
    · split at hn
      · injection hn with hn; subst hn; exact hl
      · exact h1 n bs hn
  · have : ((f.set to (some ((f nm).getD []))) nm).isSome = true := by
      unfold FF.set
      rw [if_neg (fun e => hne e.symm)]
      exact hs
    rw [if_pos this]
    split <;> omega
/-- The error with which a request is refused ahead of the fuse; 0: none. -/
def gate (s : St) (n : Nat) (o : POp) : Int := match o.k with
  | .create => if s.dn then 303 else if nameB o.nm then (if 4194304 < o.bs.length ∨ ((s.now o.nm).isSome = false ∧ 256 ≤ n) then 302 else 0) else 300
  | .add => if s.dn then 303 else if nameB o.nm then (if (s.now o.nm).isSome then (if 4194304 < ((s.now o.nm).getD []).length + o.bs.length then 302 else 0) else 301) else 300
  | .remove => if s.dn then 303 else if nameB o.nm then (if (s.now o.nm).isSome then 0 else 301) else 300
  | .rename => if s.dn then 303 else if nameB o.nm && nameB o.to then (if (s.now o.nm).isSome then 0 else 301) else 300
def reqE (s : St) (n : Nat) (o : POp) : Int := if gate s n o = 0 then (if s.f = 1 then 303 else 0) else gate s n o
def reqS (s : St) (n : Nat) (o : POp) : St := if gate s n o = 0 then (if s.f = 1 then s.cut else s.did o) else s
theorem St.now_did (s : St) (o : POp) : (s.did o).now = applyF s.now o := by simp [St.now, St.did]
theorem Ok.did {s : St} (h : Ok s) {n : Nat} {o : POp} (hn : Cnt s.now n) (hg : gate s n o = 0) (h1 : okS o.nm) (h2 : okS o.to) (h3 : o.bs.length ≤ 4194304) : Ok (s.did o) where
  f0 := by
    have := h.f0
    simp only [St.did, burnF]
    split <;> omega
  f1 := by
    have := h.f1
    simp only [St.did, burnF]
    split <;> omega
  pre := fun k => by
    simp only [St.did]
    by_cases hk : k ≤ s.ops.length
    · rw [List.take_append_of_le_length hk]
      exact h.pre k
    · rw [List.take_of_length_le (by simp; omega), List.foldl_append]
      have hs : Small s.now := h.now
      show Small (applyF s.now o)
      obtain ⟨k, nm, to, bs, tears⟩ := o
      cases k with
      | create =>
        simp only [gate] at hg
        split at hg
        · omega
        · split at hg
          · split at hg
            · omega
            · rename_i hx
              refine hs.set nm bs h3 ?_
              by_cases hsm : (s.now nm).isSome = true
              · exact .inl hsm
              · refine .inr (fun c hc => ?_)
                have := hc.uniq hn
                subst this
                have : ¬ (256 ≤ c) := fun hh => hx (.inr ⟨by simpa using hsm, hh⟩)
                omega
          · omega
      | add =>
        simp only [gate] at hg
        split at hg
        · omega
        · split at hg
          · split at hg
            · split at hg
              · omega
              · rename_i hsm hx
                exact hs.set nm _ (by rw [List.length_append]; simp only at hx ⊢; omega) (.inl hsm)
            · omega
          · omega
      | remove => exact hs.del nm
      | rename =>
        simp only [gate] at hg
        split at hg
        · omega
        · split at hg
          · split at hg
            · rename_i hsm
              simp only [applyF]
              split
              · exact hs
              · rename_i hne
                exact hs.move nm to hne hsm
            · omega
          · omega
  ops := fun x hx => by
    rcases List.mem_append.1 hx with hx | hx
    · exact h.ops x hx
    · simp at hx
      subst hx
      exact ⟨h1, h2, h3⟩
theorem Ok.cut {s : St} (h : Ok s) : Ok s.cut := ⟨by simp [St.cut], by simp [St.cut], h.pre, h.ops⟩
theorem Ok.req {s : St} (h : Ok s) {n : Nat} {o : POp} (hn : Cnt s.now n) (h1 : okS o.nm) (h2 : okS o.to) (h3 : gate s n o = 0 → o.bs.length ≤ 4194304) : Ok (reqS s n o) := by
  unfold reqS
  split
  · rename_i hg
    split
    · exact h.cut
    · exact h.did hn hg h1 h2 (h3 hg)
  · exact h
/-- A device in an orderly state. -/
structure DV (w : World) (p : Nat) (r : Rp) (s : St) : Prop where
  dev : Dev w p r s
  ok : Ok s
theorem DV.on {w w' : World} {p : Nat} {r : Rp} {s : St} (h : DV w p r s) (hb : Below w.heap.size w w') : DV w' p r s := ⟨h.dev.on hb, h.ok⟩
theorem Step.same {w w' : World} {p : Nat} {r : Rp} (hb : Below w.heap.size w w') : Step w w' p r r := ⟨Ch.below hb _ _, fun _ hi => .inl hi, Roomy.refl _ _, fun _ hd => .inr (From.old hd)⟩
theorem StepX.after {X : BD → Prop} {w w1 w' : World} {p : Nat} {r r' : Rp} (hb : Below w.heap.size w w1) (h : StepX X w1 w' p r r') (hX : ∀ d, X d → ∀ g, blk d = some g → w.heap.size ≤ g) : Step w w' p r r' :=
  ⟨Ch.after hb h.ch, fun i hi => (h.own i hi).imp id (fun hh => Nat.le_trans hb.size hh), h.rooms.low hb.size, fun d hd => .inr ((h.reads d hd).elim (fun hx => .inl (hX d hx)) (fun hf => hf.low hb.size))⟩
theorem Step.after {w w1 w' : World} {p : Nat} {r r' : Rp} (hb : Below w.heap.size w w1) (h : Step w1 w' p r r') : Step w w' p r r' := StepX.after hb h (fun _ h => h.elim)
/-- What a request leaves. -/
def ReqPost (p : Nat) (r : Rp) (s : St) (o : POp) (w : World) (e : Ending) (w' : World) : Prop :=
  ∃ n, Cnt s.now n ∧ e = .returned (.int .i64 (reqE s n o)) ∧ ∃ r', DV w' p r' (reqS s n o) ∧ Step w w' p r r'
theorem req_of_do {p : Nat} {r : Rp} {s : St} {o : POp} {d : BD} {w w1 : World} {n : Nat} (hb : Below w.heap.size w w1) (h : Ok s) (hn : Cnt s.now n) (hg : gate s n o = 0) (h1 : okS o.nm) (h2 : okS o.to) (h3 : o.bs.length ≤ 4194304) {e : Ending} {w' : World} (hX : ∀ g, blk d = some g → w.heap.size ≤ g) (hd : DoPost p r s o d w1 e w') :
    ∃ v, e = .returned (.int .i64 v) ∧ ReqPost p r s o w (.returned (.int .i64 v)) w' := by
  rcases hd with ⟨hf, rfl, hd, hs⟩ | ⟨hf, rfl, r', hd, hs⟩
  · exact ⟨_, rfl, n, hn, by simp [reqE, hg, hf], r, ⟨by simpa [reqS, hg, hf] using hd, by simpa [reqS, hg, hf] using h.cut⟩, Step.after hb hs⟩
  · exact ⟨_, rfl, n, hn, by simp [reqE, hg, hf], r', ⟨by simpa [reqS, hg, hf] using hd, by simpa [reqS, hg, hf] using h.did hn hg h1 h2 h3⟩, StepX.after hb hs (fun d' e => by subst e; exact hX)⟩
theorem req_refused {p : Nat} {r : Rp} {s : St} {o : POp} {w w' : World} {n : Nat} {v : Int} (hb : Below w.heap.size w w') (h : DV w p r s) (hn : Cnt s.now n) (hg : gate s n o = v) (hv : v ≠ 0) : ReqPost p r s o w (.returned (.int .i64 v)) w' := by
  subst hg
  exact ⟨n, hn, by simp [reqE, hv], r, by simpa [reqS, hv] using h.on hb, Step.same hb⟩
end Go.Proofs.Ytddjkkmdcdiofaa
