/- RL in one text. -/
import Derived.Test.YteabgcollokgjaaGreatDoorQ24
namespace Go.Proofs.YteabgcollokgjaaGreatDoor
open Go.RowKit Go.MapKept Go.ChangeMaps Go.Shelf Go.Sort

set_option maxRecDepth 100000 in
set_option maxHeartbeats 8000000 in
theorem writeR_any {b : Nat} {w0 w : World} {q : RWS} {x : SR} {l : List Ob} (h : SW b w0 (q.obs x l) w) (lg cap : Nat) (hlv : q.lv = .slice (some ⟨lg, 0, none⟩) 1 cap) (hlen : q.len ≠ 0) (D : List UInt8) (hrd : readE x.s (fileN x.nm) = 0) (hD : readB x.s (fileN x.nm) = D) (hnm : x.nm.size ≤ 1000)
    (hys : ∀ y ∈ q.ys, okID y.1 ∧ 1 ≤ y.1.2 ∧ y.1.2 ≤ 8192 ∧ (y.2 : Int) + 28 + y.1.2 ≤ D.length)
    (hids : ∀ i ∈ q.ids, ∃ d bs, asc x.C i = some (.pend d bs) ∧ i.2 = (bs.length : Int) ∧ bs.length ≤ 8192 ∧ okID i) (hsum : entSum q.ys + frSum q.ids ≤ 1048576) (hL : x.s.ops.length ≤ 999990) :
    Calls Tryz.prog 136 #[vPtr x.ps, .slice (some ⟨lg, 0, none⟩) 1 cap, .map (some q.mv)] w (RWPost b w0 q D x l) := by
  have HWF := Lib.hid (writeFileR_any h D hrd hD hnm hys hids hsum hL)
  have hq : (q.len == 0) = false := by simpa using hlen
  have h2 : SW b w0 (cellOb q.pc 216 q.cs :: chOb q.mv q.M :: riOb q.A q.ids :: rowOb 214 1 (.slice (some ⟨lg, 0, none⟩) 1 cap) 1 [vPtr q.pc] :: ebOb (.slice q.SA q.ys.length q.sc) q.ys :: x.obs l) w := by
    rw [← hlv]
    exact h
  have cl : w.cell? ⟨lg, 0, none⟩ = some (vPtr q.pc) := lv_cell (k := 3) h2 rfl
  have c4 : w.cell? ⟨q.pc, 4, none⟩ = some (.int .i64 q.len) := (h2.cell 0 rfl).cell 4
  clear h h2 hids hlv hlen hys hrd hD
  go_enter Tryz.func136, Tryz.ntmps136
  go_wp2_with fail
  refine wp_loop_rounds 2 ?_
  rw [rounds_succ]
  go_wp2_with fail
  rw [rounds_succ]
  go_wp2_with fail
  refine wp_loop_rounds 2 ?_
  rw [rounds_succ]
  go_wp2_with (go_at_call 181; (with_reducible refine HWF.out.mono ?_); refine halt_ ?_)
  rintro e w1 ⟨n1, n2, r', hc1, hc2, rfl, hs⟩
  obtain ⟨E, HE⟩ : ∃ E, Hid (rqE x.s x.nm n1 n2 (afold x.C (rfold D q.M q.ys) q.ids).2 = E) := ⟨_, rfl⟩
  rw [HE.out]
  have HC1 := Lib.hid hc1
  have HC2 := Lib.hid hc2
  have HS := Lib.hid hs
  clear hc1 hc2 hs HWF
  by_cases h0 : E = 0
  · have h0' : (E != 0) = false := by simpa using h0
    have H0 := Lib.hid h0
    clear h0
    go_wp2_with fail
    rw [rounds_succ]
    go_wp2_with fail
    go_ret
    exact ⟨n1, n2, r', HC1.out, HC2.out, by rw [HE.out, H0.out]; rfl, HS.out⟩
  · have h0' : (E != 0) = true := by simpa using h0
    have H0 := Lib.hid h0
    clear h0
    go_wp2_with fail
    go_ret
    exact ⟨n1, n2, r', HC1.out, HC2.out, by rw [HE.out]; rfl, HS.out⟩
end Go.Proofs.YteabgcollokgjaaGreatDoor
