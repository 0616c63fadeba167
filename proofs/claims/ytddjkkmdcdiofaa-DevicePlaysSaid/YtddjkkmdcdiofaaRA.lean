/- Contracts: place of the reference. -/
import Derived.Test.YtddjkkmdcdiofaaPP
import Derived.Sort.Walk0
import Derived.Deep.RegionHeld3
import Derived.Deep.RegionLaw
import Derived.Outline
namespace Go.Proofs.Ytddjkkmdcdiofaa
open Go.RowKit Go.MapKept Go.ChangeMaps

def encF (x : RFile) : List Value := [.string x.nm, .slice x.d.A x.d.len x.d.cap]
theorem encF_len (x : RFile) : (encF x).length = 2 := rfl
/-- A list of files of the reference, as it lies. -/
structure FL (w : World) (A : Option Addr) (c : Nat) (fs : List RFile) : Prop where
  row : w.ownsRow 0 101 2 (.slice A fs.length c) fs.length (fs.flatMap encF)
  rb : ∀ x ∈ fs, RB w x.d x.bs
  sort : SortedF fs
  ok : ∀ x ∈ fs, okS x.nm
theorem FL.on {w w' : World} {A : Option Addr} {c : Nat} {fs : List RFile} (h : FL w A c fs) (hb : Below w.heap.size w w') : FL w' A c fs := ⟨own_on h.row hb, fun x hx => (h.rb x hx).on hb, h.sort, h.ok⟩
theorem FL.nil (w : World) : FL w none 0 [] := ⟨World.ownsRow_nil _ _ _ _, by simp, by simp [SortedF], by simp⟩
theorem rowF {w : World} {A : Option Addr} {c : Nat} {fs : List RFile} (h : w.ownsRow 0 101 2 (.slice A fs.length c) fs.length (fs.flatMap encF)) {k : Nat} {x : RFile} (hk : fs[k]? = some x) :
    ∃ g, A = some ⟨g, 0, none⟩ ∧ g < w.heap.size ∧ w.cell? ⟨g, k * 2, none⟩ = some (.string x.nm) ∧ w.cell? ⟨g, k * 2 + 1, none⟩ = some (.slice x.d.A x.d.len x.d.cap) := by
  have hlt := (List.getElem?_eq_some_iff.1 hk).1
  obtain ⟨g, cap, hv, _, hg⟩ := h.form (by omega)
  injection hv with h1 h2 h3
  subst h1
  subst h3
  have key : ∀ j, j < 2 → w.cell? ⟨g, k * 2 + j, none⟩ = (encF x)[j]? := fun j hj => by
    have hkj : k * 2 + j < fs.length * 2 := by omega
    rw [h.cellAt _ hkj, flat_at encF_len x fs k j hlt hj, List.getD_eq_getElem?_getD, hk]
    rfl
  exact ⟨g, rfl, hg, key 0 (by omega), key 1 (by omega)⟩
theorem posP_lt {fs : List RFile} {n : ByteArray} {k : Nat} (h : k < posP fs n) : ∃ x, fs[k]? = some x ∧ bl x.nm < bl n := by
  induction fs generalizing k with
  | nil => simp [posP] at h
  | cons y l ih =>
    rw [posP] at h
    split at h
    · rename_i hy
      cases k with
      | zero => exact ⟨y, rfl, hy⟩
      | succ k => exact ih (by omega)
    · omega
theorem posP_stop {fs : List RFile} {n : ByteArray} {x : RFile} (h : fs[posP fs n]? = some x) : ¬ bl x.nm < bl n := by
  induction fs with
  | nil => simp at h
  | cons y l ih =>
    rw [posP] at h
    split at h
    · exact ih h
    · rename_i hy
      simp at h
      subst h
      exact hy
theorem less_dec (a b : ByteArray) : Op.bytesLess a.toList b.toList = decide (bl a < bl b) := by
  rw [toList_data, toList_data, Go.Proofs.bytesLess_eq]
def PlacePost (fs : List RFile) (n : ByteArray) (w : World) (e : Ending) (w' : World) : Prop := e = .returned (.tuple #[.int .i64 (posP fs n), .bool (hasP fs n)]) ∧ Below w.heap.size w w'
set_option maxRecDepth 100000 in
set_option maxHeartbeats 2000000 in
theorem place_any (A : Option Addr) (c : Nat) (fs : List RFile) (n : ByteArray) (w : World) (h : FL w A c fs) (hl : fs.length ≤ 100000) : Calls Try.prog 64 #[.slice A fs.length c, .string n] w (PlacePost fs n w) := by
  have H := Lib.hid h
  clear h
  obtain ⟨p, HP⟩ : ∃ p, Hid (posP fs n = p) := ⟨_, rfl⟩
  have hple : p ≤ fs.length := by rw [← HP.out]; exact posP_le fs n
  go_enter Try.func64, Try.ntmps64
  go_wp2_with fail
  go_loop [6] (fun i => ∃ k : Nat, k ≤ p ∧ i = .int .i64 k) (fun i => fs.length - (intOf i).toNat)
  case atStart => exact ⟨0, by omega, rfl⟩
  case round =>
    obtain ⟨k, hk, rfl⟩ := hrel
    by_cases hlt : k < p
    · obtain ⟨x, hx, hxl⟩ := posP_lt (fs := fs) (n := n) (k := k) (by rw [HP.out]; exact hlt)
      obtain ⟨g, rfl, hg, c0, c1⟩ := rowF H.out.row hx
      have hkl : k < fs.length := by omega
      have hb : Op.bytesLess x.nm.toList n.toList = true := by rw [less_dec]; simpa using hxl
      clear hx hxl
      go_wp2_with fail
      go_round
      case rel => exact ⟨k + 1, by omega, by go_num⟩
      case measure => simp [intOf]; omega
    · obtain rfl : k = p := by omega
      cases hx : fs[k]? with
      | none =>
        have hkl : k = fs.length := by
          have := List.getElem?_eq_none_iff.1 hx
          omega
        have HH : Hid (hasP fs n = false) := by
          show hasP fs n = false
          unfold hasP
          rw [HP.out, hx]
        subst hkl
        clear hx
        have hdl : decide (fs.length < fs.length) = false := by simp
        go_wp2_with fail
        go_quiet (fail)
        go_wp2_with fail
        go_ret2
        rw [PlacePost, HP.out, HH.out]
        exact ⟨rfl, bdrewN (Below.refl _ _) _⟩
      | some x =>
        have hns := posP_stop (fs := fs) (n := n) (x := x) (by rw [HP.out]; exact hx)
        obtain ⟨g, rfl, hg, c0, c1⟩ := rowF H.out.row hx
        have hkl : k < fs.length := (List.getElem?_eq_some_iff.1 hx).1
        have hb : Op.bytesLess x.nm.toList n.toList = false := by rw [less_dec]; simpa using hns
        have hdl : decide (k < fs.length) = true := by simpa using hkl
        have hki : (k : Int) < fs.length := by omega
        have hk0 : (0 : Int) ≤ k := by omega
        have HH : Hid (hasP fs n = (x.nm.toList == n.toList)) := by
          show hasP fs n = (x.nm.toList == n.toList)
          unfold hasP
          rw [HP.out, hx]
          simp only
          rw [Bool.eq_iff_iff]
          simp only [decide_eq_true_eq, beq_iff_eq]
          exact ⟨fun e => by rw [e], fun e => toList_inj e⟩
        clear hx hns
        go_wp2_with fail
        go_quiet (fail)
        go_wp2_with fail
        go_ret2
        rw [PlacePost, HP.out, HH.out]
        exact ⟨rfl, bdrewN (Below.refl _ _) _⟩
end Go.Proofs.Ytddjkkmdcdiofaa
