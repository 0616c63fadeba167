/- Operations: plain, and any of them on a map of files. -/
import Derived.Test.YtddjkkmdcdiofaaM
namespace Go.Proofs.Ytddjkkmdcdiofaa
open Go.RowKit Go.MapKept Go.ChangeMaps

inductive Kd where | create | add | remove | rename
def Kd.fn : Kd → Nat | .create => 49 | .add => 53 | .remove => 56 | .rename => 57
/-- An operation. -/
structure POp where
  k : Kd
  nm : ByteArray
  to : ByteArray
  bs : List UInt8
  tears : Bool
abbrev FF := ByteArray → Option (List UInt8)
def FF.set (f : FF) (n : ByteArray) (v : Option (List UInt8)) : FF := fun m => if n = m then v else f m
/-- What an operation does. -/
def applyF (f : FF) (o : POp) : FF := match o.k with
  | .create => f.set o.nm (some o.bs)
  | .add => f.set o.nm (some ((f o.nm).getD [] ++ o.bs))
  | .remove => f.set o.nm none
  | .rename => if o.nm = o.to then f else (f.set o.to (some ((f o.nm).getD []))).set o.nm none
theorem plain_nodup {w : World} {b : Nat} {E : Files} (h : FM w b E) : ((plain E).map (·.1)).Nodup := by
  have := h.1.nodup
  simpa [plain, Function.comp_def] using this
def OpF (b : Nat) (E : Files) (o : POp) (w : World) (e : Ending) (w' : World) : Prop :=
  e = .returned (.tuple #[]) ∧ ∃ E', FM w' b E' ∧ (∀ n, asc (plain E') n = applyF (asc (plain E)) o n) ∧ Succ E E' w.heap.size ∧ Ch w w' (fun i => i = b) (rooms E)
theorem setL_nodup {α β : Type} [DecidableEq α] {L : List (α × β)} (h : (L.map (·.1)).Nodup) (a : α) (v : β) : ((setL L a v).map (·.1)).Nodup := by
  have h1 : L.Pairwise (fun x y => x.1 ≠ y.1) := by simpa [List.Nodup, List.pairwise_map] using h
  have := (setL_pairwise (R := fun x y => x.1 ≠ y.1) h h1 a v (fun x y hxy => hxy.symm) (fun c _ hc => hc)).1
  simpa [List.Nodup, List.pairwise_map] using this
abbrev vFn (k : Kd) : Value := .func (.func k.fn) #[] #[]
theorem op_any (b : Nat) (E : Files) (run : Value) (o : POp) (d : BD) (w : World) (h : FM w b E) (hn : okS o.nm) (ht : okS o.to) (hd : RB w d o.bs) (hl : ((asc (plain E) o.nm).getD []).length + o.bs.length ≤ 1099511627776) :
    Calls Try.prog o.k.fn #[.map (some b), vOp run o.nm o.to d o.tears] w (OpF b E o w) := by
  obtain ⟨k, nm, to, bs, tears⟩ := o
  obtain ⟨A, n, c⟩ := d
  have hln : bs.length = n := hd.1
  subst hln
  have hnd := plain_nodup h
  cases k with
  | create =>
    refine (create_any b E run nm to A c tears bs w h hn hd (by simp only at hl; omega)).mono ?_
    rintro e w' ⟨rfl, E', h1, h2, h3, h4⟩
    exact ⟨rfl, E', h1, fun m => by rw [h2, asc_setL]; rfl, h3, h4⟩
  | add =>
    refine (add_any b E run nm to A c tears bs w h hn hd hl).mono ?_
    rintro e w' ⟨rfl, E', h1, h2, h3, h4⟩
    exact ⟨rfl, E', h1, fun m => by rw [h2, asc_setL]; rfl, h3, h4⟩
  | remove =>
    refine (remove_any b E run nm to ⟨A, bs.length, c⟩ tears w h hn).mono ?_
    rintro e w' ⟨rfl, E', h1, h2, h3, h4⟩
    exact ⟨rfl, E', h1, fun m => by rw [h2, asc_delL hnd]; rfl, h3, h4⟩
  | rename =>
    refine (rename_any b E run nm to ⟨A, bs.length, c⟩ tears w h hn ht).mono ?_
    rintro e w' ⟨rfl, E', h1, h2, h3, h4⟩
    refine ⟨rfl, E', h1, fun m => ?_, h3, h4⟩
    rw [h2, renameP, applyF]
    by_cases he : nm = to
    · simp only [if_pos he]
    · simp only [if_neg he]
      rw [asc_delL (setL_nodup hnd _ _), asc_setL]
      rfl
end Go.Proofs.Ytddjkkmdcdiofaa
