/- Contracts: include. -/
import Derived.Test.YtjglpmcekbjoaaaH
import Derived.RegionTactic
import Derived.ChangeAlike
import Derived.IntWalk
namespace Go.Proofs.Ytjglpmcekbjoaaa
open Go.RowKit Go.MapKept Go.ChangeMaps

/-- 'm[id] += n' on a map of counts. -/
def putN (L : List CT) (i : ID) (n : Int) : List CT := setL L i (nAt L i + n)
theorem nAt_putN (L : List CT) (i j : ID) (n : Int) : nAt (putN L i n) j = if i = j then nAt L i + n else nAt L j := by
  unfold putN
  conv => lhs; unfold nAt
  rw [asc_setL]
  split <;> rfl

/-- What the region of 'm[id] += n' needs. -/
theorem Mp.step {W : World} {b : Nat} {L : List CT} (h : Mp W b L) (s z n : Int) (hok : okID (s, z)) :
    ∃ (v0 : Value) (st : Nat) (w1 w3 : World), (Instr.lookup 58 (.map (some b)) (.agg #[.int .u64 s, .int .i64 z]) false).run Try.prog W.drew = .ok (.int .i64 (nAt L (s, z))) W.drew ∧
      (Instr.mapEntry 58 (.map (some b)) (.agg #[.int .u64 s, .int .i64 z])).run Try.prog W.drew = .ok (.tuple #[v0, .int .i64 st]) w1 ∧
      (Instr.lookup 58 (.map (some b)) (.agg #[.int .u64 s, .int .i64 z]) false).run Try.prog w1 = .ok (.int .i64 (nAt L (s, z))) w1 ∧
      (Instr.entryStore 58 (.map (some b)) (.int .i64 st) (.int .i64 (nAt L (s, z) + n))).run Try.prog w1 = .ok () w3 ∧ Mp w3 b (putN L (s, z) n) ∧ W.grownBy w3 (some b) ∧ w3.heap.size = W.heap.size := by
  have hd : Mp W.drew b L := h.same rfl
  obtain ⟨v0, st, w1, e1, e2, e3, e4, e5⟩ := MapIs.entry mk28 Try.underlying58 (z := 0) zero3 hd hok
  obtain ⟨w3, f1, f2, f3, f4⟩ := e5 w1 (nAt L (s, z) + n) rfl
  refine ⟨v0, st, w1, w3, hd.look s z hok, e1, ?_, f1, f2, ?_, f4.trans e3⟩
  · rw [Mp.look e4 s z hok]
    have : nAt (setL L (s, z) ((asc L (s, z)).getD 0)) (s, z) = nAt L (s, z) := by
      unfold nAt
      rw [asc_setL, if_pos rfl]
      rfl
    rw [this]
  · have g1 : W.grownBy W.drew (some b) := ⟨rfl, rfl, rfl, Nat.le_refl _, fun _ _ _ => rfl⟩
    exact g_trans g1 (g_trans e2 f3)

def incl (L : List CT) (t : List CT) : List CT := t.foldl (fun L c => putN L c.1 c.2) L
theorem incl_snoc (L t : List CT) (c : CT) : incl L (t ++ [c]) = putN (incl L t) c.1 c.2 := by simp [incl]
theorem incl_bd {L t : List CT} {B : Int} (hL : ∀ i, 0 ≤ nAt L i ∧ nAt L i ≤ B) (ht : ∀ c ∈ t, 0 ≤ c.2 ∧ c.2 ≤ 1073741824) : ∀ i, 0 ≤ nAt (incl L t) i ∧ nAt (incl L t) i ≤ B + 1073741824 * t.length := by
  induction t generalizing L B with
  | nil => intro i; simpa [incl] using hL i
  | cons c t ih =>
    intro i
    have h1 := ht c (by simp)
    have := ih (L := putN L c.1 c.2) (B := B + 1073741824) (fun j => by
      rw [nAt_putN]
      have h2 := hL j
      have h3 := hL c.1
      split <;> omega) (fun d hd => ht d (by simp [hd])) i
    rw [List.length_cons]
    push_cast
    show 0 ≤ nAt (incl (putN L c.1 c.2) t) i ∧ nAt (incl (putN L c.1 c.2) t) i ≤ _
    omega

set_option maxHeartbeats 4000000 in
theorem include_any (x b : Nat) (L : List CT) (t : List CT) (A : Option Addr) (c : Nat) (w : World) (hr : RdC w x A t) (hn : t.length ≤ 4096) (hb : Mp w b L) (hbn : 0 < t.length → ∀ b' o, A = some ⟨b', o, none⟩ → b' ≠ b)
    (hL : ∀ i, 0 ≤ nAt L i ∧ nAt L i ≤ 17592186044416) (ht : ∀ c ∈ t, okID c.1 ∧ 0 ≤ c.2 ∧ c.2 ≤ 1073741824) :
    Calls Try.prog 46 #[.map (some b), .slice A t.length c] w (fun e w' => e = .returned (.tuple #[]) ∧ Mp w' b (incl L t) ∧ w.grownBy w' (some b)) := by
  have Hr := Lib.hid hr
  have Hb := Lib.hid hb
  have Ht := Lib.hid ht
  have HL := Lib.hid hL
  have Hbn := Lib.hid hbn
  clear hr hb ht hL hbn
  go_enter Try.func46, Try.ntmps46
  go_wp2_with fail
  go_loopw [8] (fun i wr => ∃ k : Nat, k ≤ t.length ∧ i = .int .i64 k ∧ Mp wr b (incl L (t.take k)) ∧ w.grownBy wr (some b)) (fun i _ => t.length - (intOf i).toNat)
  case atStart => exact ⟨0, Nat.zero_le _, rfl, Hb.out, g_refl _ _⟩
  case round =>
    obtain ⟨k, hk, rfl, hm, hg⟩ := hrel
    by_cases hlt : k < t.length
    · obtain ⟨b', o, rfl, hbB, _, hc⟩ := Hr.out (by omega)
      obtain ⟨s, z, n, HI⟩ : ∃ s z n, Hid (t.getD k ct0 = ((s, z), n)) := ⟨_, _, _, rfl⟩
      have hsz := hg.size
      have hne : b' ≠ b := Hbn.out (by omega) b' o rfl
      have hc0 : wr.cell? ⟨b', o + k * 3, none⟩ = some (.int .u64 s) := by rw [g_cell hg hbB hne]; exact hc k hlt 0 _ (by rw [HI.out]; rfl)
      have hc1 : wr.cell? ⟨b', o + k * 3 + 1, none⟩ = some (.int .i64 z) := by rw [g_cell hg hbB hne]; exact hc k hlt 1 _ (by rw [HI.out]; rfl)
      have hc2 : wr.cell? ⟨b', o + k * 3 + 2, none⟩ = some (.int .i64 n) := by rw [g_cell hg hbB hne]; exact hc k hlt 2 _ (by rw [HI.out]; rfl)
      have hmem := getD_mem t ct0 k hlt
      have hrow := Ht.out _ hmem
      rw [HI.out] at hrow
      obtain ⟨hok, hn0, hn1⟩ := hrow
      have hbd := incl_bd (L := L) (t := t.take k) HL.out (fun c hc => (Ht.out c (List.mem_of_mem_take hc)).2) (s, z)
      have hlen : (t.take k).length ≤ 4096 := by rw [List.length_take]; omega
      have Hg := Lib.hid hg
      have Hm := Lib.hid hm
      have Hok := Lib.hid hok
      clear hc hg hm hmem hok
      go_wp2_with fail
      have hd0 : (wr.alloc (.cells #[.int .u64 s, .int .i64 z, .int .i64 n] 66)).cell? ⟨wr.heap.size, 0, none⟩ = some (.int .u64 s) := new_cell _ _ _ _ rfl 0
      have hd1 : (wr.alloc (.cells #[.int .u64 s, .int .i64 z, .int .i64 n] 66)).cell? ⟨wr.heap.size, 1, none⟩ = some (.int .i64 z) := new_cell _ _ _ _ rfl 1
      have hd2 : (wr.alloc (.cells #[.int .u64 s, .int .i64 z, .int .i64 n] 66)).cell? ⟨wr.heap.size, 2, none⟩ = some (.int .i64 n) := new_cell _ _ _ _ rfl 2
      obtain ⟨v0, st, w1, w3, e1, e2, e3, e4, e5, e6, e7⟩ := Mp.step (Hm.out.alloc (.cells #[.int .u64 s, .int .i64 z, .int .i64 n] 66)) s z n Hok.out
      have He5 := Lib.hid e5
      have He6 : Hid (w.grownBy w3 (some b)) := g_trans (g_alloc Hg.out _) e6
      clear e5 e6
      generalize nAt (incl L (t.take k)) (s, z) = v at e1 e3 e4 hbd
      have hsum : IntKind.i64.wrap (v + n) = v + n := IntWalk.i64_in _ (by omega)
      generalize wr.alloc (.cells #[.int .u64 s, .int .i64 z, .int .i64 n] 66) = W at *
      clear hc0 hc1 hc2
      go_region
      all_goals (
        go_wp2_with fail
        go_roundw
        case rel => exact ⟨k + 1, by omega, by go_num, by rw [take_snoc _ ct0 _ hlt, incl_snoc, HI.out]; exact He5.out, He6.out⟩
        case measure => simp [intOf]; omega)
    · obtain rfl : k = t.length := by omega
      rw [List.take_length] at hm
      go_wp2_with fail
      go_end0
      exact ⟨rfl, hm, hg⟩
end Go.Proofs.Ytjglpmcekbjoaaa
