/- Contracts: lists. -/
import Derived.Test.YtjglpmcekbjoaaaB
namespace Go.Proofs.Ytjglpmcekbjoaaa
open Go.RowKit

/-- A manifest as it lies in memory: its size; the slice of its chunks. -/
structure MR where
  size : Int
  A : Option Addr
  len : Nat
  cap : Nat
def encMR (r : MR) : List Value := [.int .i64 r.size, .slice r.A r.len r.cap]
def mr0 : MR := ⟨0, none, 0, 0⟩
def man0 : Man := ⟨0, []⟩
theorem encMR_len (r : MR) : (encMR r).length = 2 := rfl
theorem encMR_one (r : MR) : ∀ u ∈ encMR r, u.oneCell' = true := by
  intro u hu
  simp [encMR] at hu
  rcases hu with rfl | rfl <;> rfl
/-- r is m. -/
def Link (w : World) (x : Nat) (r : MR) (m : Man) : Prop := r.size = m.size ∧ r.len = m.ids.length ∧ r.len ≤ r.cap ∧ RdID w x r.A m.ids
/-- The slice value '.slice A ms.length c' holds the manifests ms. -/
def RdM (w : World) (x : Nat) (A : Option Addr) (ms : List Man) : Prop :=
  ∃ rs : List MR, Rd encMR 2 mr0 w x A rs ∧ rs.length = ms.length ∧ ∀ j, j < ms.length → Link w x (rs.getD j mr0) (ms.getD j man0)
theorem RdM.on {w w' : World} {x : Nat} {A : Option Addr} {ms : List Man} (h : RdM w x A ms) (hb : Below w.heap.size w w') : RdM w' x A ms := by
  obtain ⟨rs, h1, h2, h3⟩ := h
  exact ⟨rs, h1.on hb, h2, fun j hj => let ⟨a, b, c, d⟩ := h3 j hj; ⟨a, b, c, d.on hb⟩⟩
theorem RdM.gr {w w' : World} {x : Nat} {A : Option Addr} {ms : List Man} (h : RdM w x A ms) (hb : w.grownBy w' (some x)) : RdM w' x A ms := by
  obtain ⟨rs, h1, h2, h3⟩ := h
  exact ⟨rs, h1.gr hb, h2, fun j hj => let ⟨a, b, c, d⟩ := h3 j hj; ⟨a, b, c, d.gr hb⟩⟩
theorem info38 : (Try.prog.info? 38).map (fun i => (i.zero, i.size, i.bytes)) = some (some (.agg #[.int .i64 0, .slice none 0 0]), 2, 32) := by kernel_rfl

def ListsPost (wrong : Bool) (x N : Nat) (w : World) (e : Ending) (w' : World) : Prop :=
  ∃ (ms : List Man) (A : Option Addr) (c : Nat), (∀ m ∈ ms, FewM wrong m) ∧ ms.length ≤ 4 ∧ e = .returned (.slice A ms.length c) ∧ RdM w' x A ms ∧ ms.length ≤ c ∧ (∀ ad, A = some ad → w.heap.size ≤ ad.block ∧ ad.block < w'.heap.size) ∧ Tp w' x (N + 49) ∧ w.grownBy w' (some x)

def ListsRel (wrong : Bool) (x N : Nat) (w : World) (v5 v6 : Value) (wr : World) : Prop :=
  ∃ (r : Int) (ms : List Man) (rs : List MR) (A : Option Addr) (c : Nat), v6 = .int .i64 r ∧ v5 = .slice A rs.length c ∧ 0 ≤ r ∧ r + ms.length ≤ 4 ∧ rs.length = ms.length ∧
    wr.ownsRow w.heap.size 38 2 (.slice A rs.length c) rs.length (rs.flatMap encMR) ∧
    (∀ j, j < ms.length → Link wr x (rs.getD j mr0) (ms.getD j man0) ∧ ∀ b o, (rs.getD j mr0).A = some ⟨b, o, none⟩ → b < wr.heap.size ∧ some b ≠ (Value.slice A rs.length c).ownBlock) ∧
    (∀ m ∈ ms, FewM wrong m) ∧ Tp wr x (N + 1 + 12 * ms.length) ∧ w.grownBy wr (some x)

theorem getD_snoc_lt {α : Type} (l : List α) (y d : α) (j : Nat) (h : j < l.length) : (l ++ [y]).getD j d = l.getD j d := by
  rw [List.getD_eq_getElem?_getD, List.getD_eq_getElem?_getD, List.getElem?_append_left h]
theorem getD_snoc_eq {α : Type} (l : List α) (y d : α) (j : Nat) (h : j = l.length) : (l ++ [y]).getD j d = y := by
  subst h
  rw [List.getD_eq_getElem?_getD, List.getElem?_append_right (Nat.le_refl _)]
  simp

set_option maxHeartbeats 2000000 in
theorem lists_any (wrong : Bool) (x N : Nat) (w : World) (hN : N ≤ 700000) (ht : Tp w x N) :
    Calls Try.prog 12 #[.pointer (some ⟨x, 0, none⟩), .bool wrong] w (ListsPost wrong x N w) := by
  obtain ⟨i0, hi, hz0, hz1, hz2⟩ := info_parts info38
  have Ht := Lib.hid ht
  have hxlt := ht.lt
  clear ht
  go_enter Try.func12, Try.ntmps12
  go_wp2_with fail
  refine (Next_any 5 x N _ (by omega) (by omega) Ht.out).mono ?_
  rintro e w1 ⟨r1, hr1, rfl, ht1, hg1⟩
  have Ht1 := Lib.hid ht1
  have Hg1 := Lib.hid hg1
  obtain ⟨q1, q2, _⟩ := hr1
  have q3 := q2 (by omega)
  clear ht1 q2 hg1
  go_wp2_with fail
  go_loopw [5, 6] (fun v5 v6 wr => ListsRel wrong x N w v5 v6 wr) (fun _ v6 _ => (intOf v6).toNat)
  case atStart => exact ⟨r1, [], [], none, 0, rfl, rfl, q1, by simp; omega, rfl, World.ownsRow_nil _ _ _ _, fun j hj => absurd hj (by simp), by simp, Ht1.out, Hg1.out⟩
  case round =>
    obtain ⟨r, ms, rs, A, c, rfl, rfl, hr0, hr5, hlen, hown, hlink, hfew, htp, hg⟩ := hrel
    have hsz := hg.size
    have Hlen := Lib.hid hlen
    have hl4 : rs.length ≤ 4 := by omega
    have Hown := Lib.hid hown
    have Hlink := Lib.hid hlink
    have Hfew := Lib.hid hfew
    have Htp := Lib.hid htp
    have Hg := Lib.hid hg
    clear hlen hown hlink hfew htp hg
    by_cases hlt : 0 < r
    · go_wp2_with fail
      refine (list_any wrong x _ _ (by omega) Htp.out).mono ?_
      rintro e w2 ⟨m, A2, c2, hm, rfl, hr2, hc2, hsep2, ht2, hg2⟩
      have Kown := Lib.hid (own_x Hown.out hg2 hxlt)
      have Kg := Lib.hid (g_trans Hg.out hg2)
      have ks := Kg.out.size
      have ks2 := hg2.size
      have Hm := Lib.hid hm
      have Hr2 := Lib.hid hr2
      have Hsep2 := Lib.hid hsep2
      have Ht2 := Lib.hid ht2
      have Hg2 := Lib.hid hg2
      clear hm hr2 hsep2 ht2 hg2
      go_wp2_with (at_builtin; refine wpList_append_lies _ rfl _ _ _ rfl w.heap.size 38 i0 _ 2 32 Try.underlying22 hi hz0 hz1 hz2 rfl (by decide) _ rs.length _ rfl (Kown.out.alloc _) ⟨w2.heap.size, 0, none⟩ 1 1 [.int .i64 m.size, .slice A2 m.ids.length c2] rfl rfl (two_new _ _ _ _ _ rfl) (encMR_one ⟨m.size, A2, m.ids.length, c2⟩) (by omega) (by unfold maxLen; omega) (by omega) (by simp; omega) (w2.heap.size + 1) (by simp) ?_)
      intro g cap w4 hown4 hgrow hat hltg
      have hs4 := hgrow.size
      have Lg : w.grownBy w4 (some x) := g_own (g_alloc Kg.out _) hgrow (Kown.out.alloc _) (Nat.le_refl _)
      have Lt : Tp w4 x (N + 1 + 12 * ms.length + 12) := (Ht2.out.alloc _).kept hgrow (fun k hk => by have := (Kown.out.lt k hk).1; omega)
      have hnew : ∀ (b : Nat), b < w2.heap.size → some b ≠ (Value.slice A rs.length c).ownBlock → some b ≠ (Value.slice (some ⟨g, 0, none⟩) (rs.length + 1) cap).ownBlock := by
        intro b hb hne e
        have hbg : b = g := by simpa [Value.ownBlock] using e
        subst hbg
        rcases hat with h | h
        · exact hne h.symm
        · omega
      have old_ne : ∀ (b : Nat), wr.heap.size ≤ b → some b ≠ (Value.slice A rs.length c).ownBlock := fun b hb e => by have := (Hown.out.lt b e.symm).2; omega
      have Ll : ∀ j, j < (ms ++ [m]).length → Link w4 x ((rs ++ [MR.mk m.size A2 m.ids.length c2]).getD j mr0) ((ms ++ [m]).getD j man0) ∧ ∀ b o, ((rs ++ [MR.mk m.size A2 m.ids.length c2]).getD j mr0).A = some ⟨b, o, none⟩ → b < w4.heap.size ∧ some b ≠ (Value.slice (some ⟨g, 0, none⟩) (rs.length + 1) cap).ownBlock := by
        intro j hj
        have hsz4 : w2.heap.size + 1 ≤ w4.heap.size := by simpa using hs4
        by_cases hjm : j < ms.length
        · rw [getD_snoc_lt _ _ _ _ hjm, getD_snoc_lt _ _ _ _ (by rw [Hlen.out]; exact hjm)]
          obtain ⟨⟨a, b, c, d⟩, hs⟩ := Hlink.out j hjm
          refine ⟨⟨a, b, c, ((d.gr Hg2.out).alloc _).own hgrow (fun b o e => (hs b o e).2)⟩, fun b o e => ⟨by have := (hs b o e).1; omega, hnew b (by have := (hs b o e).1; omega) (hs b o e).2⟩⟩
        · have hje : j = ms.length := by simp at hj; omega
          rw [getD_snoc_eq _ _ _ _ hje, getD_snoc_eq _ _ _ _ (by rw [Hlen.out]; exact hje)]
          refine ⟨⟨rfl, rfl, hc2, (Hr2.out.alloc _).own hgrow (fun b o e => old_ne b (Hsep2.out _ e).1)⟩, fun b o e => ⟨by have h9 : b < w2.heap.size := (Hsep2.out _ e).2; omega, hnew b (Hsep2.out _ e).2 (old_ne b (Hsep2.out _ e).1)⟩⟩
      have HLl := Lib.hid Ll
      have HLg := Lib.hid Lg
      have HLt := Lib.hid Lt
      have Hown4 := Lib.hid hown4
      clear Ll Lg Lt hown4 hgrow hat hnew old_ne hs4
      go_wp2_with fail
      go_roundw
      case rel =>
        refine ⟨r - 1, ms ++ [m], rs ++ [MR.mk m.size A2 m.ids.length c2], some ⟨g, 0, none⟩, cap, rfl, by simp, by omega, by simp; omega, by simp [Hlen.out], ?_, ?_, ?_, HLt.out.more (by simp; omega), HLg.out⟩
        · rw [List.length_append, List.flatMap_append]
          exact Hown4.out
        · have e9 : (rs ++ [MR.mk m.size A2 m.ids.length c2]).length = rs.length + 1 := by simp
          rw [e9]
          exact HLl.out
        · intro y hy
          rcases List.mem_append.1 hy with hy | hy
          · exact Hfew.out y hy
          · simp at hy; subst hy; exact Hm.out
      case measure => simp [intOf]; omega
    · obtain rfl : r = 0 := by omega
      go_wp2_with fail
      go_ret
      refine ⟨ms, A, c, Hfew.out, by omega, by rw [← Hlen.out]; rfl, ⟨rs, (Rd.of_own encMR_len (by omega) Hown.out hxlt).2, Hlen.out, fun j hj => (Hlink.out j hj).1⟩, by rw [← Hlen.out]; exact own_cap Hown.out, fun ad had => ?_, Htp.out.more (by omega), Hg.out⟩
      subst had
      exact Hown.out.lt ad.block rfl
end Go.Proofs.Ytjglpmcekbjoaaa
