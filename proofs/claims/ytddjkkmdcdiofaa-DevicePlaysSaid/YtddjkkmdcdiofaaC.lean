/- Contracts: append of bytes in the walk, Clone of bytes, names. -/
import Derived.Test.YtddjkkmdcdiofaaB
import Derived.Lib.SliceRun
namespace Go.Proofs.Ytddjkkmdcdiofaa
open Go.RowKit

section
variable {w : World} {ops : Array Oper} {rest : List Oper} {o : Oper} {a : Act} {Q : Exit → Act → World → Prop}
theorem wp_append_bytes {K : Act → World → Prop} (s x : Operand) (ho : o.op = .call { callee := .builtin .append, args := #[s, x], argTypes := #[22, 22] }) (d : BD) (bs : List UInt8) (hs : a.eval s = vB d) (h : RB w d bs)
    (A : Option Addr) (c : Nat) (ns : List UInt8) (hx : a.eval x = .slice A ns.length c) (hsrc : SB w A ns) (hb : bs.length + ns.length ≤ 1099511627776)
    (hK : ∀ d' w', d'.len = d.len + ns.length → AppB w d (bs ++ ns) d' w' → K (a.put o.dst (vB d')) w') : o.wp Try.prog a w K Q := by
  obtain ⟨d', w', hr, h2, h3⟩ := run_append_bytes w o.type d bs h A c ns hsrc hb
  unfold Oper.wp execOp
  simp only [ho, resolve, invoke, builtin, Sem.run_bind, Sem.run_pure, Result.andThen_ok, List.map_toArray, List.map_cons, List.map_nil, hs, hx, hr]
  exact hK d' w' h2 h3
theorem wpList_append_bytes (hgd : o.guard = none) (s x : Operand) (ho : o.op = .call { callee := .builtin .append, args := #[s, x], argTypes := #[22, 22] }) (d : BD) (bs : List UInt8) (hs : a.eval s = vB d) (h : RB w d bs)
    (A : Option Addr) (c : Nat) (ns : List UInt8) (hx : a.eval x = .slice A ns.length c) (hsrc : SB w A ns) (hb : bs.length + ns.length ≤ 1099511627776)
    (hK : ∀ d' w', d'.len = d.len + ns.length → AppB w d (bs ++ ns) d' w' → wpList Try.prog ops Q rest (a.put o.dst (vB d')) w') : wpList Try.prog ops Q (o :: rest) a w :=
  wpList_plain hgd fun _ hK' => wp_append_bytes s x ho d bs hs h A c ns hx hsrc hb fun d' w' h2 h3 => hK' _ _ (hK d' w' h2 h3)
theorem step_append_bytes {K : Act → World → Prop} {E : Prop} (hgd : o.guard = none) (s x : Operand) (ho : o.op = .call { callee := .builtin .append, args := #[s, x], argTypes := #[22, 22] }) (d : BD) (bs : List UInt8) (hs : a.eval s = vB d) (h : RB w d bs)
    (A : Option Addr) (c : Nat) (ns : List UInt8) (hx : a.eval x = .slice A ns.length c) (hsrc : SB w A ns) (hb : bs.length + ns.length ≤ 1099511627776)
    (hK : ∀ d' w', d'.len = d.len + ns.length → AppB w d (bs ++ ns) d' w' → K (a.put o.dst (vB d')) w') : if Region.wanted o (yielded ops a.tmps) = true then Oper.wp Try.prog o a w K Q else E := by
  have hw : Region.wanted o (yielded ops a.tmps) = true := by simp [Region.wanted, hgd]
  rw [if_pos hw]
  exact wp_append_bytes s x ho d bs hs h A c ns hx hsrc hb hK
end
theorem SB.on {w w' : World} {A : Option Addr} {bs : List UInt8} (h : SB w A bs) (hb : Below w.heap.size w w') (hlt : ∀ ad, A = some ad → 0 < bs.length → ad.block < w.heap.size) : SB w' A bs := by
  refine ⟨h.1, fun ad e j u hu => ?_⟩
  have hp : 0 < bs.length := by
    have := (List.getElem?_eq_some_iff.1 hu).1
    simp at this
    omega
  have h1 := h.2 ad e j u hu
  have h2 := hlt ad e hp
  rw [hb.cell (p := ad.add j) (by rw [show (ad.add j).block = ad.block from by unfold Addr.add; split <;> rfl]; exact h2)]
  exact h1
theorem SB.lt {w : World} {A : Option Addr} {bs : List UInt8} (h : SB w A bs) : ∀ ad, A = some ad → 0 < bs.length → ad.block < w.heap.size := by
  intro ad e hp
  have h1 := h.2 ad e 0 _ (List.getElem?_eq_getElem (by simpa using hp))
  have := World.block_lt_of_cell? w _ h1
  rwa [show (ad.add 0).block = ad.block from by unfold Addr.add; split <;> rfl] at this

/-- New bytes. -/
def NewB (bs : List UInt8) (w : World) (e : Ending) (w' : World) : Prop :=
  ∃ d, e = .returned (vB d) ∧ RB w' d bs ∧ (∀ g, blk d = some g → w.heap.size ≤ g) ∧ Below w.heap.size w w'
theorem AppB.new {w w0 w' : World} {d d' : BD} {bs : List UInt8} (h : AppB w d bs d' w') (hd : ∀ g, blk d = some g → w0.heap.size ≤ g) (h0 : Below w0.heap.size w0 w) : RB w' d' bs ∧ (∀ g, blk d' = some g → w0.heap.size ≤ g) ∧ Below w0.heap.size w0 w' := by
  obtain ⟨h1, ⟨e, _, _, hc⟩ | ⟨H, e, hH, hb⟩⟩ := h
  · refine ⟨h1, fun g hg => hd g (by rw [← e]; exact hg), ⟨hc.os.trans h0.os, hc.tape.trans h0.tape, hc.output.trans h0.output, Nat.le_trans h0.size hc.size, fun i hi => (hc.block i (Nat.lt_of_lt_of_le hi h0.size) (fun h => h) (fun p hp e' => ?_)).trans (h0.block i hi)⟩⟩
    unfold room at hp
    cases hA : d.A with
    | none => rw [hA] at hp; cases hp
    | some ad =>
      rw [hA] at hp
      simp only at hp
      split at hp
      · rw [List.mem_singleton] at hp
        subst hp
        have := hd ad.block (by simp [blk, hA])
        simp only at e'
        omega
      · cases hp
  · refine ⟨h1, fun g hg => ?_, h0.trans (hb.mono h0.size)⟩
    rw [e] at hg
    injection hg with hg
    have := h0.size
    omega

set_option maxRecDepth 100000 in
set_option maxHeartbeats 1000000 in
theorem CloneB_any (A : Option Addr) (c : Nat) (bs : List UInt8) (w : World) (hs : SB w A bs) (hb : bs.length ≤ 1099511627776) : Calls Try.prog 50 #[.slice A bs.length c] w (NewB bs w) := by
  have q22 : ∀ (w : World) (a : Option Addr) (n c n' c' : Nat), (binOp .eql 22 (.slice a n c) (.slice none n' c')).run Try.prog w = .ok (.bool a.isNone) w := fun w a n c n' c' => Lib.run_eql_slice_nil w _ _ a n c n' c' Try.underlying22
  have Hs := Lib.hid hs
  clear hs
  cases A with
  | none =>
    have h0 := Hs.out.1 rfl
    obtain rfl : bs = [] := List.eq_nil_of_length_eq_zero h0
    clear h0
    go_enter Try.func50, Try.ntmps50
    go_wp2_with fail
    go_ret
    exact ⟨⟨none, 0, 0⟩, rfl, ⟨rfl, Nat.le_refl _, fun _ => rfl, (fun ad e => by cases e)⟩, (fun g hg => by cases hg), Below.refl _ _⟩
  | some ad =>
    go_enter Try.func50, Try.ntmps50
    go_wp2_with (at_builtin; refine wpList_append_bytes rfl _ _ rfl ⟨some ⟨w.heap.size, 0, none⟩, 0, 0⟩ [] rfl (new_bytes w #[] _ _ _ _ rfl rfl (Nat.le_refl _) (Nat.zero_le _) (by simp)) (some ad) c bs rfl (Hs.out.on ((Below.refl _ _).alloc (Nat.le_refl _) _) Hs.out.lt) (by simpa using hb) ?_)
    intro d1 w1 hl1 happ
    obtain ⟨r1, r2, r3⟩ := happ.new (w0 := w) (fun g hg => by simp [blk] at hg; omega) ((Below.refl _ _).alloc (Nat.le_refl _) _)
    have R1 := Lib.hid r1
    have R2 := Lib.hid r2
    have R3 := Lib.hid r3
    clear r1 r2 r3 happ hl1
    go_wp2_with fail
    go_ret
    exact ⟨d1, rfl, R1.out, R2.out, R3.out⟩
end Go.Proofs.Ytddjkkmdcdiofaa
