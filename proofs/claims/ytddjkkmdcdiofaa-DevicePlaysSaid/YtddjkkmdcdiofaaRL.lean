/- Contracts: Names of the reference. -/
import Derived.Test.YtddjkkmdcdiofaaRK
namespace Go.Proofs.Ytddjkkmdcdiofaa
open Go.RowKit Go.MapKept Go.ChangeMaps

theorem pl_listed {fs : List RFile} (hs : SortedF fs) {f : FF} (hf : ∀ n, asc (pl fs) n = f n) : Listed f (fs.map (·.nm)) := by
  refine ⟨?_, fun m => ?_, ?_⟩
  · have : fs.Pairwise (fun a b => a.nm ≠ b.nm) := hs.imp (fun h => blt_ne h)
    simpa [List.Nodup, List.pairwise_map] using this
  · rw [← hf m]
    constructor
    · intro hm
      obtain ⟨x, hx, rfl⟩ := List.mem_map.1 hm
      rw [asc_mem (pl_nodup hs) (c := (x.nm, x.bs)) (List.mem_map.2 ⟨x, hx, rfl⟩)]
      rfl
    · intro hm
      cases ha : asc (pl fs) m with
      | none => rw [ha] at hm; cases hm
      | some v =>
        obtain ⟨x, hx, e⟩ := List.mem_map.1 (mem_of_asc ha)
        exact List.mem_map.2 ⟨x, hx, by injection e⟩
  · rw [List.map_map, List.pairwise_map]
    exact hs.imp (fun h => List.le_of_lt h)
def encS (x : RFile) : List Value := [.string x.nm]
theorem encS_len (x : RFile) : (encS x).length = 1 := rfl
theorem rds_row {w : World} {b : Nat} {A : Option Addr} {c : Nat} {fs : List RFile} (h : w.ownsRow b 9 1 (.slice A fs.length c) fs.length (fs.flatMap encS)) : RdS w A (fs.map (·.nm)) := by
  intro hp
  rw [List.length_map] at hp
  obtain ⟨g, cap, hv, _, hg⟩ := h.form (by omega)
  injection hv with h1 h2 h3
  refine ⟨g, h1, hg, fun j hj => ?_⟩
  rw [List.length_map] at hj
  subst h1
  have := h.cellAt j (by omega)
  rw [this]
  have h2 := flat_at encS_len (fs[j]) fs j 0 hj (by omega)
  rw [Nat.mul_one, Nat.add_zero] at h2
  rw [h2]
  simp [encS, List.getD_eq_getElem?_getD, hj]
set_option maxRecDepth 100000 in
set_option maxHeartbeats 4000000 in
theorem RNames_any (r : RS) (s : St) (w : World) (hm : RM w r) (hp : RP r s) : Calls Try.prog 66 #[.agg r.cells] w (NamesPost s.now w) := by
  obtain ⟨i0, hi, hz0, hz1, hz2⟩ := info_parts info9
  have P0 := Lib.hid hp
  have M1 : Hid (RM (w.alloc (.cells r.cells 68)) r) := hm.on (bel1 _ _)
  have B0 : Hid (Below w.heap.size w (w.alloc (.cells r.cells 68))) := bel1 _ _
  clear hm hp
  go_enter Try.func66, Try.ntmps66
  go_wp2_with fail
  refine (Files_any r s _ M1.out P0.out).mono ?_
  rintro e w2 ⟨A, c, fs', rfl, hf, ha, _, hb⟩
  have F2 := Lib.hid hf
  have HA := Lib.hid ha
  have B2 : Hid (Below w.heap.size w w2) := B0.out.trans (hb.mono B0.out.size)
  have hl : fs'.length ≤ 256 := (pl_small hf.sort ha P0.out.ok.now).1
  clear hf ha hb
  go_wp2_with fail
  go_loopw [3, 5] (fun vo vi wr => ∃ (k : Nat) (A' : Option Addr) (c' : Nat), k ≤ fs'.length ∧ vi = .int .i64 k ∧ vo = .slice A' k c' ∧ wr.ownsRow w2.heap.size 9 1 (.slice A' k c') k ((fs'.take k).flatMap encS) ∧ Below w2.heap.size w2 wr) (fun _ vi _ => fs'.length - (intOf vi).toNat)
  case atStart => exact ⟨0, none, 0, by omega, rfl, rfl, by simpa using World.ownsRow_nil _ _ _ _, Below.refl _ _⟩
  case round =>
    obtain ⟨k, A', c', hk, rfl, rfl, ho, hb⟩ := hrel
    have O1 := Lib.hid ho
    have B1 := Lib.hid hb
    clear ho hb
    by_cases hlt : k < fs'.length
    · obtain ⟨x, hx⟩ : ∃ x, fs'[k]? = some x := ⟨_, List.getElem?_eq_getElem hlt⟩
      obtain ⟨g, hg, hgl, c0, _⟩ := rowF (F2.out.on B1.out).row hx
      have HT : Hid ((fs'.take (k + 1)).flatMap encS = (fs'.take k).flatMap encS ++ [.string x.nm]) := by
        rw [Hid, List.take_add_one, hx, List.flatMap_append]
        rfl
      subst hg
      clear hx
      have s1 := B1.out.size
      go_wp2_with (at_builtin; refine halt_ ?_)
      refine wpList_append_opt rfl _ _ 59 rfl w2.heap.size 9 i0 _ 1 16 Try.underlying59 hi hz0 hz1 hz2 rfl (by omega) (.slice A' k c') k _ rfl (O1.out.alloc _) (some ⟨wr.heap.size, 0, none⟩) 1 1 [.string x.nm] rfl rfl (by simp) (fun ad e j u hu => by injection e with e; subst e; rw [lit_add, Nat.zero_add, new_cell _ _ _ _ rfl]; simpa using hu) (by simp [Value.oneCell']) (by unfold maxLen; omega) (by omega) (by simp; omega) ?_
      intro v4 w4 ho4 hg4
      obtain ⟨A4, c4, rfl⟩ := own_slice ho4
      have HB4 : Hid (Below w2.heap.size w2 w4) := (B1.out.alloc s1 _).grown hg4 (by simp; omega) (fun q hq => (O1.out.lt q hq).1)
      have HO4 : Hid (w4.ownsRow w2.heap.size 9 1 (.slice A4 (k + 1) c4) (k + 1) ((fs'.take (k + 1)).flatMap encS)) := by rw [HT.out]; exact ho4
      clear ho4 hg4
      go_wp2_with fail
      go_roundw
      case rel => exact ⟨k + 1, A4, c4, by omega, by go_num, rfl, HO4.out, HB4.out⟩
      case measure => simp [intOf]; omega
    · obtain rfl : k = fs'.length := by omega
      go_wp2_with fail
      go_ret
      refine ⟨A', c', fs'.map (·.nm), by rw [List.length_map]; rfl, pl_listed F2.out.sort HA.out, rds_row (b := w2.heap.size) (c := c') ?_, B2.out.trans (B1.out.mono B2.out.size)⟩
      have := O1.out
      rwa [List.take_length] at this
end Go.Proofs.Ytddjkkmdcdiofaa
