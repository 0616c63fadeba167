/- Contracts: which names are valid. -/
import Derived.Test.YtddjkkmdcdiofaaC
namespace Go.Proofs.Ytddjkkmdcdiofaa
open Go.RowKit
theorem rbool {p q : Bool} {w W : World} (h : p = q) (hw : w = W) : Ending.returned (.bool q) = .returned (.bool p) ∧ w = W := ⟨by rw [h], hw⟩
/-- A letter that a name may have. -/
def okU (n : Int) : Bool := (decide (97 ≤ n) && decide (n ≤ 122)) || (decide (48 ≤ n) && decide (n ≤ 57)) || n == 46 || n == 45
def okL (l : List UInt8) : Bool := l.all (fun c => okU ((c.toNat : Nat) : Int))
def nameB (s : ByteArray) : Bool := decide (1 ≤ s.size) && decide (s.size ≤ 64) && okL s.data.toList
theorem take_byte (s : ByteArray) (k : Nat) (h : k < s.size) : s.data.toList.take (k + 1) = s.data.toList.take k ++ [s[k]] := by
  rw [List.take_succ_eq_append_getElem (by simpa using h)]
  rfl
theorem okL_snoc (l : List UInt8) (c : UInt8) : okL (l ++ [c]) = (okL l && okU ((c.toNat : Nat) : Int)) := by simp [okL]
theorem okL_false {s : ByteArray} {k : Nat} (h : k < s.size) (hc : okU (((s[k]).toNat : Nat) : Int) = false) : okL s.data.toList = false := by
  unfold okL
  rw [List.all_eq_false]
  exact ⟨s[k], by
    have : s[k] = s.data.toList[k]'(by simpa using h) := rfl
    rw [this]
    exact List.getElem_mem _, by rw [hc]; simp⟩

set_option maxHeartbeats 4000000 in
theorem validName_any (s : ByteArray) (w : World) (hs : s.size ≤ maxLen) : Calls Try.prog 55 #[.string s] w fun e w' => e = .returned (.bool (nameB s)) ∧ w = w' := by
  unfold maxLen at hs
  by_cases h1 : s.size < 1
  · have HN : Hid (nameB s = false) := by simp [Hid, nameB]; omega
    go_enter Try.func55, Try.ntmps55
    go_wp2_with fail
    go_ret
    exact rbool HN.out rfl
  · by_cases h2 : 64 < s.size
    · have HN : Hid (nameB s = false) := by simp [Hid, nameB]; omega
      go_enter Try.func55, Try.ntmps55
      go_wp2_with fail
      go_ret
      exact rbool HN.out rfl
    · go_enter Try.func55, Try.ntmps55
      go_wp2_with fail
      go_loop [15] (fun i => ∃ k : Nat, k ≤ s.size ∧ i = .int .i64 k ∧ Hid (okL (s.data.toList.take k) = true)) (fun i => s.size - (intOf i).toNat)
      case atStart => exact ⟨0, Nat.zero_le _, rfl, rfl⟩
      case round =>
        obtain ⟨k, hk, rfl, Hk⟩ := hrel
        by_cases hlt : k < s.size
        · have HB : Hid (okU ((s[k]).toNat : Int) = false → nameB s = false) := fun h => by simp [nameB, okL_false hlt h]
          have HG : Hid (okU ((s[k]).toNat : Int) = true → okL (s.data.toList.take (k + 1)) = true) := fun h => by rw [take_byte s k hlt, okL_snoc, Hk.out, h]; rfl
          by_cases c1 : ((s[k]).toNat : Int) < 97
          · by_cases c2 : ((s[k]).toNat : Int) < 48
            · by_cases c3 : ((s[k]).toNat : Int) = 46
              · have b3 : (((s[k]).toNat : Int) != 46) = false := by simp [c3]
                have HO := Lib.hid (HG.out (by simp [okU, c3]))
                clear HB HG c3
                go_wp2_with fail
                go_round
                case rel => exact ⟨k + 1, by omega, by go_num, HO⟩
                case measure => simp [intOf]; omega
              · have b3 : (((s[k]).toNat : Int) != 46) = true := by rw [bne_iff_ne]; exact c3
                by_cases c4 : ((s[k]).toNat : Int) = 45
                · have b4 : (((s[k]).toNat : Int) != 45) = false := by simp [c4]
                  have HO := Lib.hid (HG.out (by simp [okU, c4]))
                  clear HB HG c4 c3
                  go_wp2_with fail
                  go_round
                  case rel => exact ⟨k + 1, by omega, by go_num, HO⟩
                  case measure => simp [intOf]; omega
                · have b4 : (((s[k]).toNat : Int) != 45) = true := by rw [bne_iff_ne]; exact c4
                  have HO := Lib.hid (HB.out (by simp [okU]; omega))
                  clear HB HG c4 c3
                  go_wp2_with fail
                  go_ret
                  exact rbool HO.out rfl
            · by_cases c3 : 57 < ((s[k]).toNat : Int)
              · have b3 : (((s[k]).toNat : Int) != 46) = true := by rw [bne_iff_ne]; omega
                have b4 : (((s[k]).toNat : Int) != 45) = true := by rw [bne_iff_ne]; omega
                have HO := Lib.hid (HB.out (by simp [okU]; omega))
                clear HB HG
                go_wp2_with fail
                go_ret
                exact rbool HO.out rfl
              · skip
                have HO := Lib.hid (HG.out (by simp [okU]; omega))
                clear HB HG
                go_wp2_with fail
                go_round
                case rel => exact ⟨k + 1, by omega, by go_num, HO⟩
                case measure => simp [intOf]; omega
          · by_cases c2 : 122 < ((s[k]).toNat : Int)
            · have c3 : 57 < ((s[k]).toNat : Int) := by omega
              have c4 : ¬ ((s[k]).toNat : Int) < 48 := by omega
              have b3 : (((s[k]).toNat : Int) != 46) = true := by rw [bne_iff_ne]; omega
              have b4 : (((s[k]).toNat : Int) != 45) = true := by rw [bne_iff_ne]; omega
              have HO := Lib.hid (HB.out (by simp [okU]; omega))
              clear HB HG
              go_wp2_with fail
              go_ret
              exact rbool HO.out rfl
            · skip
              have HO := Lib.hid (HG.out (by simp [okU]; omega))
              clear HB HG
              go_wp2_with fail
              go_round
              case rel => exact ⟨k + 1, by omega, by go_num, HO⟩
              case measure => simp [intOf]; omega
        · obtain rfl : k = s.size := by omega
          have HN : Hid (nameB s = true) := by
            have := Hk.out
            rw [List.take_of_length_le (by simp)] at this
            simp [Hid, nameB, this]
            omega
          go_wp2_with fail
          go_ret
          exact rbool HN.out rfl

set_option maxHeartbeats 4000000 in
theorem rName_any (s : ByteArray) (w : World) (hs : s.size ≤ maxLen) : Calls Try.prog 32 #[.string s] w fun e w' => e = .returned (.bool (nameB s)) ∧ w = w' := by
  unfold maxLen at hs
  by_cases h1 : s.size < 1
  · have HN : Hid (nameB s = false) := by simp [Hid, nameB]; omega
    go_enter Try.func32, Try.ntmps32
    go_wp2_with fail
    go_ret
    exact rbool HN.out rfl
  · by_cases h2 : 64 < s.size
    · have HN : Hid (nameB s = false) := by simp [Hid, nameB]; omega
      go_enter Try.func32, Try.ntmps32
      go_wp2_with fail
      go_ret
      exact rbool HN.out rfl
    · go_enter Try.func32, Try.ntmps32
      go_wp2_with fail
      go_loop [3] (fun i => ∃ k : Nat, k ≤ s.size ∧ i = .int .i64 k ∧ Hid (okL (s.data.toList.take k) = true)) (fun i => s.size - (intOf i).toNat)
      case atStart => exact ⟨0, Nat.zero_le _, rfl, rfl⟩
      case round =>
        obtain ⟨k, hk, rfl, Hk⟩ := hrel
        by_cases hlt : k < s.size
        · have HB : Hid (okU ((s[k]).toNat : Int) = false → nameB s = false) := fun h => by simp [nameB, okL_false hlt h]
          have HG : Hid (okU ((s[k]).toNat : Int) = true → okL (s.data.toList.take (k + 1)) = true) := fun h => by rw [take_byte s k hlt, okL_snoc, Hk.out, h]; rfl
          by_cases c1 : ((s[k]).toNat : Int) < 97
          · by_cases c2 : ((s[k]).toNat : Int) < 48
            · by_cases c3 : ((s[k]).toNat : Int) = 46
              · have b3 : (((s[k]).toNat : Int) != 46) = false := by simp [c3]
                have HO := Lib.hid (HG.out (by simp [okU, c3]))
                clear HB HG c3
                go_wp2_with fail
                go_round
                case rel => exact ⟨k + 1, by omega, by go_num, HO⟩
                case measure => simp [intOf]; omega
              · have b3 : (((s[k]).toNat : Int) != 46) = true := by rw [bne_iff_ne]; exact c3
                by_cases c4 : ((s[k]).toNat : Int) = 45
                · have b4 : (((s[k]).toNat : Int) != 45) = false := by simp [c4]
                  have HO := Lib.hid (HG.out (by simp [okU, c4]))
                  clear HB HG c4 c3
                  go_wp2_with fail
                  go_round
                  case rel => exact ⟨k + 1, by omega, by go_num, HO⟩
                  case measure => simp [intOf]; omega
                · have b4 : (((s[k]).toNat : Int) != 45) = true := by rw [bne_iff_ne]; exact c4
                  have HO := Lib.hid (HB.out (by simp [okU]; omega))
                  clear HB HG c4 c3
                  go_wp2_with fail
                  go_ret
                  exact rbool HO.out rfl
            · by_cases c3 : 57 < ((s[k]).toNat : Int)
              · have b3 : (((s[k]).toNat : Int) != 46) = true := by rw [bne_iff_ne]; omega
                have b4 : (((s[k]).toNat : Int) != 45) = true := by rw [bne_iff_ne]; omega
                have HO := Lib.hid (HB.out (by simp [okU]; omega))
                clear HB HG
                go_wp2_with fail
                go_ret
                exact rbool HO.out rfl
              · skip
                have HO := Lib.hid (HG.out (by simp [okU]; omega))
                clear HB HG
                go_wp2_with fail
                go_round
                case rel => exact ⟨k + 1, by omega, by go_num, HO⟩
                case measure => simp [intOf]; omega
          · by_cases c2 : 122 < ((s[k]).toNat : Int)
            · have c3 : 57 < ((s[k]).toNat : Int) := by omega
              have c4 : ¬ ((s[k]).toNat : Int) < 48 := by omega
              have b3 : (((s[k]).toNat : Int) != 46) = true := by rw [bne_iff_ne]; omega
              have b4 : (((s[k]).toNat : Int) != 45) = true := by rw [bne_iff_ne]; omega
              have HO := Lib.hid (HB.out (by simp [okU]; omega))
              clear HB HG
              go_wp2_with fail
              go_ret
              exact rbool HO.out rfl
            · skip
              have HO := Lib.hid (HG.out (by simp [okU]; omega))
              clear HB HG
              go_wp2_with fail
              go_round
              case rel => exact ⟨k + 1, by omega, by go_num, HO⟩
              case measure => simp [intOf]; omega
        · obtain rfl : k = s.size := by omega
          have HN : Hid (nameB s = true) := by
            have := Hk.out
            rw [List.take_of_length_le (by simp)] at this
            simp [Hid, nameB, this]
            omega
          go_wp2_with fail
          go_ret
          exact rbool HN.out rfl
end Go.Proofs.Ytddjkkmdcdiofaa
