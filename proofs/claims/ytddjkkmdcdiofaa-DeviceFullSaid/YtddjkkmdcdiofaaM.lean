/- Contracts: check. -/
import Derived.Test.YtddjkkmdcdiofaaL
namespace Go.Proofs.Ytddjkkmdcdiofaa
open Go.RowKit Go.MapKept Go.ChangeMaps

def checkP (dn : Bool) (has : Bool) (ns : List ByteArray) : Int := if dn then 303 else if ns.all nameB then (if has then 0 else 301) else 300
theorem rint {p q : Int} {w W : World} (h : p = q) (hw : w = W) : Ending.returned (.int .i64 q) = .returned (.int .i64 p) ∧ w = W := ⟨by rw [h], hw⟩
set_option maxRecDepth 100000 in
set_option maxHeartbeats 2000000 in
theorem check_any (p : Nat) (K P : Value) (dn : Bool) (f : Int) (b : Nat) (E : Files) (nm : ByteArray) (g o c : Nat) (ns : List ByteArray) (w : World) (h : IsB w p 81 (vD K (.map (some b)) P dn f)) (hm : FM w b E) (hn : okS nm) (hns : ∀ n ∈ ns, okS n) (hl : ns.length ≤ 1000)
    (hc : ∀ j, j < ns.length → w.cell? ⟨g, o + j, none⟩ = some (.string (ns.getD j ByteArray.empty))) :
    Calls Try.prog 47 #[.pointer (some ⟨p, 0, none⟩), .string nm, .slice (some ⟨g, o, none⟩) ns.length c] w (fun e w' => e = .returned (.int .i64 (checkP dn (asc E nm).isSome ns)) ∧ w = w') := by
  have c3 : w.cell? ⟨p, 3, none⟩ = some (.bool dn) := by rw [h.cell]; rfl
  have c1 : w.cell? ⟨p, 1, none⟩ = some (.map (some b)) := by rw [h.cell]; rfl
  have Hc := Lib.hid hc
  have Hns := Lib.hid hns
  obtain ⟨v, hlook⟩ : ∃ v, (Instr.lookup 78 (.map (some b)) (.string nm) true).run Try.prog w = .ok (.tuple #[v, .bool (asc E nm).isSome]) w := by
    have := MapIs.look mkS Try.underlying78 (zero22 _) hm.1 hn true
    rw [show (Value.string nm) = kS nm from rfl, this]
    cases asc E nm <;> exact ⟨_, rfl⟩
  clear h hc hns hm hn
  cases dn with
  | true =>
    go_enter Try.func47, Try.ntmps47
    go_wp2_with fail
    go_ret
    exact ⟨rfl, rfl⟩
  | false =>
    go_enter Try.func47, Try.ntmps47
    go_wp2_with fail
    go_loop [17] (fun i => ∃ k : Nat, k ≤ ns.length ∧ i = .int .i64 k ∧ Hid ((ns.take k).all nameB = true)) (fun i => ns.length - (intOf i).toNat)
    case atStart => exact ⟨0, by omega, rfl, by simp [Hid]⟩
    case round =>
      obtain ⟨k, hk, rfl, HA⟩ := hrel
      by_cases hlt : k < ns.length
      · have hcl := Hc.out k hlt
        obtain ⟨s, Hs⟩ : ∃ s, Hid (ns.getD k ByteArray.empty = s) := ⟨_, rfl⟩
        rw [Hs.out] at hcl
        have hms : s ∈ ns := by rw [← Hs.out, List.getD_eq_getElem?_getD, List.getElem?_eq_getElem hlt]; exact List.getElem_mem hlt
        have Hms := Lib.hid hms
        have HT : Hid (ns.take (k + 1) = ns.take k ++ [s]) := by
          rw [Hid, List.take_succ_eq_append_getElem hlt, ← Hs.out, List.getD_eq_getElem?_getD, List.getElem?_eq_getElem hlt]; rfl
        clear hms
        cases hb : nameB s with
        | true =>
          have Hb := Lib.hid hb
          clear hb
          go_wp2_with (go_at_call 55; refine (validName_any s _ (Hns.out s Hms.out)).mono ?_; rw [Hb.out]; rintro e w3 ⟨rfl, rfl⟩)
          go_round
          case rel => exact ⟨k + 1, by omega, by go_num, by rw [Hid, HT.out, List.all_append, HA.out]; simp [Hb.out]⟩
          case measure => simp [intOf]; omega
        | false =>
          have Hb := Lib.hid hb
          clear hb
          have HN : Hid (checkP false (asc E nm).isSome ns = 300) := by
            have : ns.all nameB = false := by
              rw [List.all_eq_false]
              exact ⟨s, Hms.out, by simp [Hb.out]⟩
            simp [Hid, checkP, this]
          go_wp2_with (go_at_call 55; refine (validName_any s _ (Hns.out s Hms.out)).mono ?_; rw [Hb.out]; rintro e w3 ⟨rfl, rfl⟩)
          go_ret
          exact rint HN.out rfl
      · obtain rfl : k = ns.length := by omega
        rw [List.take_length] at HA
        cases hb : (asc E nm).isSome with
        | true =>
          rw [hb] at hlook
          have HN : Hid (checkP false (asc E nm).isSome ns = 0) := by simp only [Hid, checkP, HA.out, hb]; rfl
          clear hb
          go_wp2_with fail
          go_ret
          exact rint HN.out rfl
        | false =>
          rw [hb] at hlook
          have HN : Hid (checkP false (asc E nm).isSome ns = 301) := by simp only [Hid, checkP, HA.out, hb]; rfl
          clear hb
          go_wp2_with fail
          go_ret
          exact rint HN.out rfl
end Go.Proofs.Ytddjkkmdcdiofaa
