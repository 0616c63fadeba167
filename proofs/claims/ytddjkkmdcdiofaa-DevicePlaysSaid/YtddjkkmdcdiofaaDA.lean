/- Contracts: decide. -/
import Derived.Test.YtddjkkmdcdiofaaY
namespace Go.Proofs.Ytddjkkmdcdiofaa
open Go.RowKit Go.MapKept Go.ChangeMaps

def POp.cutTo (o : POp) (t : Int) : POp := { o with bs := o.bs.take t.toNat }
def foldK (s : St) (k : Nat) : FF := (s.ops.take k).foldl applyF s.K
/-- The files that a power failure leaves. -/
def lossF (s : St) (keep torn : Int) : FF := if keep < 0 then s.K else match s.ops[keep.toNat]? with
  | some o => if o.tears = true ∧ 0 ≤ torn then applyF (foldK s keep.toNat) (o.cutTo torn) else foldK s keep.toNat
  | none => s.now
def decideS (s : St) (keep torn : Int) : St := ⟨lossF s keep torn, [], s.dn, s.f⟩
theorem foldK_succ (s : St) {k : Nat} {o : POp} (h : s.ops[k]? = some o) : foldK s (k + 1) = applyF (foldK s k) o := by
  have hk := (List.getElem?_eq_some_iff.1 h)
  unfold foldK
  rw [List.take_succ_eq_append_getElem hk.1, List.foldl_append, hk.2]
  rfl
theorem foldK_all (s : St) : foldK s s.ops.length = s.now := by rw [foldK, List.take_length]; rfl
theorem loss_none (s : St) (keep torn : Int) (h : s.ops = []) : lossF s keep torn = s.K := by
  unfold lossF St.now
  rw [h]
  split <;> rfl
theorem loss_stop (s : St) (keep torn : Int) (k : Nat) {o : POp} (ho : s.ops[k]? = some o) (h1 : keep ≤ k) (h2 : k = 0 ∨ (k : Int) ≤ keep) (h3 : ¬ ((k : Int) = keep ∧ o.tears = true ∧ 0 ≤ torn)) : lossF s keep torn = foldK s k := by
  unfold lossF
  by_cases hn : keep < 0
  · rw [if_pos hn]
    rcases h2 with rfl | h2
    · rfl
    · omega
  · rw [if_neg hn]
    obtain rfl : keep.toNat = k := by omega
    rw [ho]
    simp only
    rw [if_neg (fun hh => h3 ⟨by omega, hh⟩)]
theorem loss_torn (s : St) (keep torn : Int) (k : Nat) {o : POp} (ho : s.ops[k]? = some o) (h1 : (k : Int) = keep) (h2 : o.tears = true) (h3 : 0 ≤ torn) : lossF s keep torn = applyF (foldK s k) (o.cutTo torn) := by
  unfold lossF
  obtain rfl : keep.toNat = k := by omega
  rw [if_neg (by omega), ho]
  simp only
  rw [if_pos ⟨h2, h3⟩]
theorem loss_all (s : St) (keep torn : Int) (h : (s.ops.length : Int) ≤ keep) : lossF s keep torn = s.now := by
  unfold lossF
  rw [if_neg (by omega), List.getElem?_eq_none (by omega)]
theorem cnt_torn {f : FF} (o : POp) (t : Int) {c : Nat} (h : Cnt (applyF f o) c) : Cnt (applyF f (o.cutTo t)) c := by
  obtain ⟨L, h1, h2, h3⟩ := h
  refine ⟨L, h1, fun m => (h2 m).trans ?_, h3⟩
  obtain ⟨k, nm, to, bs, tears⟩ := o
  cases k
  · simp only [applyF, POp.cutTo, FF.set]; by_cases e : nm = m <;> simp [e]
  · simp only [applyF, POp.cutTo, FF.set]; by_cases e : nm = m <;> simp [e]
  · rfl
  · rfl
theorem small_torn {f : FF} (o : POp) (t : Int) (h : Small (applyF f o)) : Small (applyF f (o.cutTo t)) := by
  obtain ⟨h1, c, hc, hc2⟩ := h
  refine ⟨fun n bs hn => ?_, c, hc, cnt_torn o t hc2⟩
  have key : ∀ bs', applyF f o n = some bs' → bs'.length ≤ 4194304 := fun bs' hh => h1 n bs' hh
  obtain ⟨k, nm, to, bs0, tears⟩ := o
  cases k
  · have hn : (if nm = n then some (bs0.take t.toNat) else f n) = some bs := hn
    have key : ∀ bs', (if nm = n then some bs0 else f n) = some bs' → bs'.length ≤ 4194304 := key
    by_cases e : nm = n
    · rw [if_pos e] at hn
      injection hn with hn
      subst hn
      rw [if_pos e] at key
      have := key _ rfl
      rw [List.length_take]
      omega
    · rw [if_neg e] at key hn
      exact key _ hn
  · have hn : (if nm = n then some ((f nm).getD [] ++ bs0.take t.toNat) else f n) = some bs := hn
    have key : ∀ bs', (if nm = n then some ((f nm).getD [] ++ bs0) else f n) = some bs' → bs'.length ≤ 4194304 := key
    by_cases e : nm = n
    · rw [if_pos e] at hn
      injection hn with hn
      subst hn
      rw [if_pos e] at key
      have := key _ rfl
      rw [List.length_append, List.length_take] at *
      omega
    · rw [if_neg e] at key hn
      exact key _ hn
  · exact key _ hn
  · exact key _ hn
theorem Ok.loss {s : St} (h : Ok s) (keep torn : Int) : Small (lossF s keep torn) := by
  unfold lossF
  split
  · exact h.kept
  · split
    · rename_i o ho
      split
      · refine small_torn o torn ?_
        rw [← foldK_succ s ho]
        exact h.pre _
      · exact h.pre _
    · exact h.now
theorem Ok.decide {s : St} (h : Ok s) (keep torn : Int) : Ok (decideS s keep torn) := Ok.none (h.loss keep torn) h.f0 h.f1
/-- A map of files that a function has made, above B. -/
def Left (B : Nat) (EK : Files) (wr : World) (lb : Nat) (f : FF) : Prop := ∃ E, FM wr lb E ∧ B ≤ lb ∧ (∀ q ∈ rooms E, B ≤ q.1) ∧ (∀ n, asc (plain E) n = f n) ∧ ∀ e ∈ E, ∀ g, blk e.2.1 = some g → B ≤ g ∨ ∃ c ∈ EK, blk c.2.1 = some g ∧ e.2.1.len ≤ c.2.1.len
theorem Left.on {B lb : Nat} {EK : Files} {w w' : World} {f : FF} (h : Left B EK w lb f) (hb : Below w.heap.size w w') : Left B EK w' lb f := by
  obtain ⟨E, h1, h2⟩ := h
  exact ⟨E, h1.on hb, h2⟩
theorem Left.op {B lb : Nat} {EK : Files} {wr : World} {f : FF} (h : Left B EK wr lb f) (hB : B ≤ wr.heap.size) (run : Value) (o : POp) (d : BD) (hn : okS o.nm) (ht : okS o.to) (hd : RB wr d o.bs) (hl : ((f o.nm).getD []).length + o.bs.length ≤ 1099511627776) :
    Calls Try.prog o.k.fn #[.map (some lb), vOp run o.nm o.to d o.tears] wr (fun e w' => e = .returned (.tuple #[]) ∧ Left B EK w' lb (applyF f o) ∧ Below B wr w') := by
  obtain ⟨E, h1, h2, h3, h4, h5⟩ := h
  refine (op_any lb E run o d wr h1 hn ht hd (by rw [h4]; exact hl)).mono ?_
  rintro e w' ⟨rfl, E', a1, a2, a3, a4⟩
  refine ⟨rfl, ⟨E', a1, h2, fun q hq => ?_, fun n => ?_, fun e he g hg => ?_⟩, ?_⟩
  · rcases a3.roomy q hq with k1 | ⟨q0, k1, k2, _⟩
    · omega
    · rw [← k2]; exact h3 q0 k1
  · rw [a2 n]
    congr 1
    funext m
    exact h4 m
  · rcases a3 e he g hg with k1 | ⟨c, hc, c1, c2, c3⟩
    · exact .inl (by omega)
    · rcases h5 c hc g c1 with k2 | ⟨c', hc', k3, k4⟩
      · exact .inl k2
      · by_cases hl : e.2.1.len ≤ c.2.1.len
        · exact .inr ⟨c', hc', k3, by omega⟩
        · have := (a1.2.1 e he).2.1
          exact .inl (h3 (g, c.2.1.len) (mem_rooms.2 ⟨c, hc, c1, rfl, by omega⟩))
  · exact ⟨a4.os, a4.tape, a4.output, a4.size, fun i hi => a4.block i (by omega) (fun e => by omega) (fun q hq e => by have := h3 q hq; omega)⟩
theorem asc_perm {L L' : List (ByteArray × List UInt8)} (h : L.Perm L') (hn : (L.map (·.1)).Nodup) (n : ByteArray) : asc L n = asc L' n := by
  have hn' : (L'.map (·.1)).Nodup := (h.map _).nodup_iff.1 hn
  cases ha : asc L' n with
  | some v => exact asc_mem hn (h.mem_iff.2 (mem_of_asc ha))
  | none =>
    cases hb : asc L n with
    | none => rfl
    | some v =>
      have := asc_mem hn' (h.mem_iff.1 (mem_of_asc hb))
      rw [ha] at this
      cases this
theorem Left.copied {w w' : World} {E : Files} {f : FF} {e : Ending} {b : Nat} (hE : FM w b E) (hf : ∀ n, asc (plain E) n = f n) (h : CopiedPost E w e w') : ∃ lb, e = .returned (.map (some lb)) ∧ Left w.heap.size E w' lb f ∧ Below w.heap.size w w' := by
  obtain ⟨b', D, rfl, h2, h3, h4, h5⟩ := h
  refine ⟨b', rfl, ⟨D.map clipE, h3, h2, fun q hq => ?_, fun n => ?_, fun e he g hg => ?_⟩, h5⟩
  · obtain ⟨e, he, h1⟩ := mem_rooms.1 hq
    obtain ⟨x, hx, rfl⟩ := List.mem_map.1 he
    simp [clipE, clip] at h1
  · rw [clip_plain, ← hf n]
    have hp : (plain D).Perm (plain E) := h4.map _
    exact asc_perm hp ((hp.map _).nodup_iff.2 (plain_nodup hE)) n
  · obtain ⟨x, hx, rfl⟩ := List.mem_map.1 he
    exact .inr ⟨x, h4.mem_iff.1 hx, hg, Nat.le_refl _⟩
theorem row_cell {w : World} {A : Option Addr} {c : Nat} {L : List (POp × BD)} (h : w.ownsRow 0 88 5 (.slice A L.length c) L.length (L.flatMap encO)) {k : Nat} {x : POp × BD} (hk : L[k]? = some x) :
    ∃ g, A = some ⟨g, 0, none⟩ ∧ g < w.heap.size ∧ ∀ j, j < 5 → w.cell? ⟨g, k * 5 + j, none⟩ = (encO x)[j]? := by
  have hlt := (List.getElem?_eq_some_iff.1 hk).1
  obtain ⟨g, cap, hv, _, hg⟩ := h.form (by omega)
  injection hv with h1 h2 h3
  subst h1
  refine ⟨g, rfl, hg, fun j hj => ?_⟩
  subst h3
  have hkj : k * 5 + j < L.length * 5 := by omega
  rw [h.cellAt _ hkj, flat_at encO_len x L k j hlt hj, List.getD_eq_getElem?_getD, hk]
  rfl
end Go.Proofs.Ytddjkkmdcdiofaa
