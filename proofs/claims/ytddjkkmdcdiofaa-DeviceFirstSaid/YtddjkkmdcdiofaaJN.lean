/- Contracts: Joined. -/
import Derived.Test.YtddjkkmdcdiofaaDF
namespace Go.Proofs.Ytddjkkmdcdiofaa
open Go.RowKit Go.MapKept Go.ChangeMaps

/-- A source of bytes, as a slice. -/
structure Src where
  A : Option Addr
  c : Nat
  bs : List UInt8
def cat (l : List Src) : List UInt8 := l.flatMap (·.bs)
theorem cat_take_succ (l : List Src) {k : Nat} {x : Src} (h : l[k]? = some x) : cat (l.take (k + 1)) = cat (l.take k) ++ x.bs := by
  have hk := List.getElem?_eq_some_iff.1 h
  rw [cat, List.take_succ_eq_append_getElem hk.1, List.flatMap_append, hk.2]
  simp [cat]
theorem cat_le (l : List Src) (k : Nat) : (cat (l.take k)).length ≤ (cat l).length := by
  have : cat l = cat (l.take k) ++ cat (l.drop k) := by
    rw [cat, cat, cat, ← List.flatMap_append, List.take_append_drop]
  rw [this, List.length_append]
  omega
set_option maxRecDepth 100000 in
set_option maxHeartbeats 4000000 in
theorem Joined_any (g c : Nat) (l : List Src) (w : World) (hl : l.length ≤ 1000) (hc : ∀ k x, l[k]? = some x → w.cell? ⟨g, k, none⟩ = some (.slice x.A x.bs.length x.c) ∧ SB w x.A x.bs) (hg : g < w.heap.size) (hcat : (cat l).length ≤ 1099511627776) :
    Calls Try.prog 16 #[.slice (some ⟨g, 0, none⟩) l.length c] w (NewB (cat l) w) := by
  have HC := Lib.hid hc
  clear hc
  go_enter Try.func16, Try.ntmps16
  go_wp2_with fail
  go_loopw [3, 4] (fun v i wr => ∃ (k : Nat) (d : BD), k ≤ l.length ∧ i = .int .i64 k ∧ v = .slice d.A d.len d.cap ∧ RB wr d (cat (l.take k)) ∧ (∀ g, blk d = some g → w.heap.size ≤ g) ∧ Below w.heap.size w wr) (fun _ i _ => l.length - (intOf i).toNat)
  case atStart => exact ⟨0, ⟨none, 0, 0⟩, by omega, rfl, rfl, vd_rb _, (fun g hg => by cases hg), Below.refl _ _⟩
  case round =>
    obtain ⟨k, d, hk, rfl, rfl, hr, hf, hb⟩ := hrel
    have HR := Lib.hid hr
    have HF := Lib.hid hf
    have HB := Lib.hid hb
    clear hr hf hb
    by_cases hlt : k < l.length
    · obtain ⟨x, hx⟩ : ∃ x, l[k]? = some x := ⟨_, List.getElem?_eq_getElem hlt⟩
      have HX := Lib.hid hx
      clear hx
      have q : wr.cell? ⟨g, k, none⟩ = some (.slice x.A x.bs.length x.c) := (HB.out.cell (p := ⟨g, k, none⟩) hg).trans (HC.out k x HX.out).1
      have HSx : Hid (SB wr x.A x.bs) := (HC.out k x HX.out).2.on_lt HB.out
      have hlen : (cat (l.take k)).length + x.bs.length ≤ 1099511627776 := by
        have := cat_le l (k + 1)
        rw [cat_take_succ l HX.out, List.length_append] at this
        omega
      go_wp2_with (at_builtin; refine wpList_append_bytes rfl _ _ rfl d (cat (l.take k)) rfl HR.out x.A x.c x.bs rfl HSx.out hlen ?_)
      intro d1 w1 hl1 happ
      obtain ⟨r1, r2, r3⟩ := happ.new HF.out (w0 := w) HB.out
      have R1 : Hid (RB w1 d1 (cat (l.take (k + 1)))) := by rw [Hid, cat_take_succ l HX.out]; exact r1
      have R2 := Lib.hid r2
      have R3 := Lib.hid r3
      clear r1 r2 r3 happ hl1
      unfold vB
      go_wp2_with fail
      go_roundw
      case rel => exact ⟨k + 1, d1, by omega, by go_num, rfl, R1.out, R2.out, R3.out⟩
      case measure => simp [intOf]; omega
    · obtain rfl : k = l.length := by omega
      rw [List.take_length] at HR
      go_wp2_with fail
      go_ret
      exact ⟨d, rfl, HR.out, HF.out, HB.out⟩
end Go.Proofs.Ytddjkkmdcdiofaa
