/- Contracts: Members. -/
import Derived.Test.YtahlccihjjhgfaaC
import Derived.Test.YtahlccihjjhgfaaP
import Derived.Deep.AppendLies
import Derived.Laws.OwnMore
namespace Go.Proofs.Ytahlccihjjhgfaa
open Go.RowKit

/-- Block g is just these cells. -/
def IsB (w : World) (g : Nat) (t : TypeId) (cs : Array Value) : Prop := w.heap[g]? = some (.cells cs t (0, 0))
theorem IsB.lt {w : World} {g : Nat} {t : TypeId} {cs : Array Value} (h : IsB w g t cs) : g < w.heap.size := by
  unfold IsB at h
  exact (Array.getElem?_eq_some_iff.1 h).1
theorem IsB.cell {w : World} {g : Nat} {t : TypeId} {cs : Array Value} (h : IsB w g t cs) (i : Nat) : w.cell? ⟨g, i, none⟩ = cs[i]? := cell_of_row w g i cs t (0, 0) h
theorem IsB.new (w : World) (t : TypeId) (cs : Array Value) : IsB (w.alloc (.cells cs t)) w.heap.size t cs := heap_alloc_new w _
theorem IsB.alloc {w : World} {g : Nat} {t : TypeId} {cs : Array Value} (h : IsB w g t cs) (o : Obj) : IsB (w.alloc o) g t cs := (Below.heap_alloc w o g h.lt).trans h
theorem IsB.grown {w w' : World} {g : Nat} {t : TypeId} {cs : Array Value} {row : Option Nat} (h : IsB w g t cs) (hb : w.grownBy w' row) (hg : some g ≠ row) : IsB w' g t cs := (hb.block g h.lt hg).trans h
theorem IsB.own_ne {w : World} {g : Nat} {t : TypeId} {cs : Array Value} {base : Nat} {e : TypeId} {size n : Nat} {v : Value} {xs : List Value} (hg : IsB w g t cs) (h : w.ownsRow base e size v n xs) (hne : e ≠ t) : some g ≠ v.ownBlock := by
  rcases h.2 with ⟨rfl, _⟩ | ⟨g', cap, cur, rfl, _, hh, _⟩
  · simp [Value.ownBlock]
  · intro he
    have : g = g' := by simpa [Value.ownBlock] using he
    subst this
    unfold IsB at hg
    rw [hg] at hh
    injection hh with hh
    injection hh with _ ht
    exact hne ht.symm

/-- The slice value '.slice A zs.length c' holds the numbers zs, below block B. -/
def RdI (w : World) (B : Nat) (A : Option Addr) (zs : List Int) : Prop :=
  0 < zs.length → ∃ b o, A = some ⟨b, o, none⟩ ∧ b < B ∧ ∀ j, j < zs.length → w.cell? ⟨b, o + j, none⟩ = some (.int .i64 (zs.getD j 0))
theorem RdI.below {w w' : World} {B : Nat} {A : Option Addr} {xs : List Int} (h : RdI w B A xs) (hb : Below B w w') : RdI w' B A xs := by
  intro hp
  obtain ⟨b, o, e, hbB, hc⟩ := h hp
  exact ⟨b, o, e, hbB, fun j hj => by rw [hb.cell (p := ⟨b, o + j, none⟩) hbB]; exact hc j hj⟩
theorem RdI.more {w : World} {B B' : Nat} {A : Option Addr} {xs : List Int} (h : RdI w B A xs) (hB : B ≤ B') : RdI w B' A xs := by
  intro hp
  obtain ⟨b, o, e, hb, hc⟩ := h hp
  exact ⟨b, o, e, by omega, hc⟩
theorem RdI.of_own {w : World} {base : Nat} {e : TypeId} {A : Option Addr} {n c : Nat} {zs : List Int} (h : w.ownsRow base e 1 (.slice A n c) n (zs.map (Value.int .i64))) : n = zs.length ∧ RdI w w.heap.size A zs := by
  have hl := h.1
  rw [List.length_map, Nat.mul_one] at hl
  refine ⟨hl.symm, fun hp => ?_⟩
  obtain ⟨g, cap, hv, hb, hlt⟩ := h.form (by omega)
  injection hv with h1 h2 h3
  subst h1
  refine ⟨g, 0, rfl, hlt, fun j hj => ?_⟩
  have := h.cells (g := g) rfl j (.int .i64 (zs.getD j 0)) (by rw [List.getElem?_map, List.getD_eq_getElem?_getD, List.getElem?_eq_getElem hj]; rfl)
  rw [Nat.zero_add]
  unfold Addr.add at this
  split at this
  · rename_i h0; subst h0; exact this
  · simpa using this

theorem info3 : (Try.prog.info? 3).map (fun i => (i.zero, i.size, i.bytes)) = some (some (.int .i64 0), 1, 8) := by kernel_rfl

def MembPost (zs : List Int) (w : World) (e : Ending) (w' : World) : Prop :=
  ∃ A c, e = .returned (.tuple #[.slice A zs.length c, .int .i64 0]) ∧ RdI w' w'.heap.size A zs ∧ Below w.heap.size w w'

set_option maxHeartbeats 1000000 in
theorem Members_no (A : Option Addr) (c : Nat) (xs : RL) (most : Int) (w : World) (hr : RdR w w.heap.size A xs) (hn : xs.length ≤ 4294967296) (h : checkB xs = false) :
    Calls Try.prog 17 #[.slice A xs.length c, .int .i64 most] w fun e w' => e = .returned (.tuple #[.slice none 0 0, .int .i64 120]) ∧ Below w.heap.size w w' := by
  have Hr := Lib.hid hr
  have H := Lib.hid h
  clear hr h
  go_enter Try.func17, Try.ntmps17
  go_wp2_with (go_at_call 15; refine (Check_no _ _ xs _ Hr.out hn H.out).mono ?_; rintro e w1 ⟨rfl, hb1⟩)
  go_ret2
  exact ⟨rfl, hb1⟩

set_option maxHeartbeats 2000000 in
theorem Members_ok (A : Option Addr) (c : Nat) (xs : RL) (most : Int) (w : World) (hr : RdR w w.heap.size A xs) (hn : xs.length ≤ 4294967296) (hmost : most ≤ 2000) (h : checkB xs = true) :
    Calls Try.prog 17 #[.slice A xs.length c, .int .i64 most] w (MembPost (memb xs most) w) := by
  have Hr := Lib.hid hr
  have H := Lib.hid h
  clear hr h
  obtain ⟨i0, hi, hz0, hz1, hz2⟩ := info_parts info3
  go_enter Try.func17, Try.ntmps17
  go_wp2_with (go_at_call 15; refine (Check_ok _ _ xs _ Hr.out hn H.out).mono ?_; rintro e w1 ⟨rfl, hb1⟩)
  go_loopw [7, 18] (fun v i wr => ∃ (k : Nat) (A' : Option Addr) (n c' : Nat), k ≤ xs.length ∧ i = .int .i64 k ∧ v = .slice A' n c' ∧ wr.ownsRow w.heap.size 3 1 (.slice A' n c') n (((allM xs k).take most.toNat).map (Value.int .i64)) ∧ Below w.heap.size w wr) (fun _ i _ => xs.length - (intOf i).toNat)
  case atStart => exact ⟨0, none, 0, 0, Nat.zero_le _, rfl, rfl, by simpa [allM] using World.ownsRow_nil _ _ _ _, hb1⟩
  case round =>
    obtain ⟨wo, rfl⟩ : ∃ wo : World, wo = wr := ⟨_, rfl⟩
    obtain ⟨k, A', n, c', hk, rfl, rfl, hown, hb⟩ := hrel
    by_cases hlt : k < xs.length
    · obtain ⟨b, o, rfl, hbB, hc⟩ := Hr.out (by omega)
      have hsz := hb.size
      have hs := okAt_sound (checkB_at H.out hlt)
      have HN : Hid (allM xs (k + 1) = allM xs k ++ ints (xs.getD k (0, 0)).1 ((xs.getD k (0, 0)).2 + 1 - (xs.getD k (0, 0)).1).toNat) := rfl
      obtain ⟨a1, a2, HA⟩ : ∃ a1 a2, Hid (xs.getD k (0, 0) = (a1, a2)) := ⟨_, _, rfl⟩
      rw [HA.out] at hs HN
      obtain ⟨h1, h2, h3⟩ := hs
      have hc0 : wo.cell? ⟨b, o + k * 2, none⟩ = some (.int .i64 a1) := by rw [hb.cell (p := ⟨b, o + k * 2, none⟩) hbB, (hc k hlt).1, HA.out]
      have hc1 : wo.cell? ⟨b, o + k * 2 + 1, none⟩ = some (.int .i64 a2) := by rw [hb.cell (p := ⟨b, o + k * 2 + 1, none⟩) hbB, (hc k hlt).2, HA.out]
      clear hc
      have Hown := Lib.hid hown
      clear hown
      go_wp2_with fail
      go_loopw [7, 10] (fun v x wr => ∃ (j : Nat) (A' : Option Addr) (n c' : Nat), a1 + j ≤ a2 + 1 ∧ x = .int .i64 (a1 + j) ∧ v = .slice A' n c' ∧ wr.ownsRow w.heap.size 3 1 (.slice A' n c') n (((allM xs k ++ ints a1 j).take most.toNat).map (Value.int .i64)) ∧ IsB wr wo.heap.size 29 #[.int .i64 a1, .int .i64 a2] ∧ Below w.heap.size w wr) (fun _ x _ => (a2 + 1 - intOf x).toNat)
      case atStart => exact ⟨0, A', n, c', by omega, by simp, rfl, by simpa [ints] using Hown.out.alloc _, IsB.new _ _ _, hb.alloc hb.size _⟩
      case round =>
        obtain ⟨j, B', m, d', hj, rfl, rfl, hown, hbox, hb2⟩ := hrel
        have hsz2 := hb2.size
        have hcb1 : wr.cell? ⟨wo.heap.size, 1, none⟩ = some (.int .i64 a2) := by simpa using hbox.cell 1
        obtain ⟨L, HL⟩ : ∃ L, Hid ((allM xs k ++ ints a1 j).take most.toNat = L) := ⟨_, rfl⟩
        rw [HL.out] at hown
        have hml : L.length = m := by have := hown.1; simpa using this
        have hm2 : m ≤ most.toNat := by rw [← hml, ← HL.out, List.length_take]; omega
        have Hml := Lib.hid hml
        have Hown2 := Lib.hid hown
        have Hbox := Lib.hid hbox
        clear hml hown hbox
        by_cases hle : a1 + j ≤ a2
        · by_cases hlen : (m : Int) < most
          · go_wp2_with (at_builtin; refine wpList_append_lies _ rfl _ _ _ rfl w.heap.size 3 i0 _ 1 8 Try.underlying35 hi hz0 hz1 hz2 rfl (by decide) _ m _ rfl (Hown2.out.alloc _) ⟨wr.heap.size, 0, none⟩ 1 1 [.int .i64 (a1 + j)] rfl rfl ?c1 ?c2 ?c3 ?c4 ?c5 ?c6 _ rfl ?_)
            case c1 => exact cell_one_new _ _ _
            case c2 => simp [Value.oneCell']
            case c3 => omega
            case c4 => unfold maxLen; omega
            case c5 => omega
            case c6 => simp; omega
            intro g cap w3 hown3 hgrow hat hlt3
            have Hown3 := Lib.hid hown3
            have Hgrow := Lib.hid hgrow
            have Hat := Lib.hid hat
            clear hown3 hgrow hat
            go_wp2
            go_roundw
            case rel =>
              refine ⟨j + 1, some ⟨g, 0, none⟩, m + 1, cap, by omega, by rw [show (a1 + ((j + 1 : Nat) : Int)) = a1 + (j : Int) + 1 by omega], rfl, ?_, ?_, ?_⟩
              · have e : (allM xs k ++ ints a1 (j + 1)).take most.toNat = L ++ [a1 + (j : Int)] := by
                  rw [ints_succ, ← List.append_assoc, take_push (by rw [HL.out, Hml.out]; omega), HL.out]
                rw [e, List.map_append]
                exact Hown3.out
              · exact (Hbox.out.alloc _).grown Hgrow.out (IsB.own_ne Hbox.out Hown2.out (by decide))
              · exact (hb2.alloc hb2.size _).grown Hgrow.out (by simp; omega) (fun q hq => (Hown2.out.lt q hq).1)
            case measure => simp [intOf]; omega
          · go_wp2
            go_roundw
            case rel =>
              refine ⟨k + 1, B', m, d', by omega, by go_num, rfl, ?_, hb2⟩
              rw [HN.out]
              obtain ⟨R, hR⟩ := ints_split a1 j (a2 + 1 - a1).toNat (by omega)
              rw [hR, ← List.append_assoc, take_full (by rw [HL.out, Hml.out]; omega), HL.out]
              exact Hown2.out
            case measure => simp [intOf]; omega
        · go_wp2
          go_roundw
          case rel =>
            refine ⟨k + 1, B', m, d', by omega, by go_num, rfl, ?_, hb2⟩
            obtain rfl : j = (a2 + 1 - a1).toNat := by omega
            rw [HN.out, HL.out]
            exact Hown2.out
          case measure => simp [intOf]; omega
    · obtain rfl : k = xs.length := by omega
      have Hown := Lib.hid hown
      clear hown
      go_wp2
      go_ret2
      obtain ⟨hl, hrd⟩ := RdI.of_own Hown.out
      subst hl
      exact ⟨A', c', rfl, hrd, hb⟩
end Go.Proofs.Ytahlccihjjhgfaa
