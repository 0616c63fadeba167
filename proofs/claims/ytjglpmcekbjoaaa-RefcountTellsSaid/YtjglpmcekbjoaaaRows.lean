/-
  No cell of these rows narrows 'for every input' (looked for: loops, veiled, ifaces, maps, wideKeys, modest, calm, conditions, laid).
  DERIVED. THE GIVEN ROWS OF THIS SEAT. 9 by the template 'for every input the law returns true; each argument reads behind the call as it read before'; 0 by the template 'total and deterministic' (their statements: YtjglpmcekbjoaaaTotals.lean).
  GIVEN WITH THE SEED: the statements are not yours to turn. If you find one false, say at which input.
  Laid BY PROGRAM, IN A SANDBOX (cutbox-rows.mjs): the forced cells as the released guide's own fill.sh prints them over the translation b8e5d8cf3f81bc29… (all of the seat's roots in one cut). By AI agents, Wed Nov 11 2026. No macro, syntax, notation, axiom, sorry.
-/
import Derived.Test.YtjglpmcekbjoaaaChecked
import GoSem.Claim
import GoSem.ClaimJoined
import GoSem.ClaimMapViews
import Derived.JoinedTies
import Derived.KernelRfl
namespace Go.Proofs.Ytjglpmcekbjoaaa
/- THE CELL 'sum', in the pinned program and in every row, IS THE sha256 OF THE DUMP (.gsa) THAT YtjglpmcekbjoaaaProg.lean LOADS. Nothing in Lean hashes anything: it is a label: what it is worth is what the hold of that sum in a sandbox is worth. -/
noncomputable def Try.pinned : Pinned := { name := "ytjglpmcekbjoaaa", sum := "b8e5d8cf3f81bc29dde7d97dd091d9f810f777198e2bc9f343433e816acf540f", checked := Try.checked }
namespace Rows
def none {H : Type} : Left H := { results := [], args := [] }

/-- 'stockyardlaw28.RefcountOf': WHATEVER THE INPUT: true; the input reads as it did. -/
def refcountOfSpec : ChangeSpec := { name := "refcountOf", fn := fun _ => fun
  | [d1, d2] => { results := [.lit (.bool true)], args := [d1, d2] }
  | _ => none }
def refcountOfRow : OpenClaim := { program := "ytjglpmcekbjoaaa", sum := "b8e5d8cf3f81bc29dde7d97dd091d9f810f777198e2bc9f343433e816acf540f", func := "stockyard/stockyardlaw28.RefcountOf", spec := "refcountOf", unfollowed := true, recurses := true, plainKeys := false, apart := false }
def RefcountOfSaid : Prop := refcountOfRow.holds Try.pinned (OpenSpec.ofChange refcountOfSpec)

/-- ITS FALSE NEIGHBOUR: 'it returns false'. Refute it at one input. -/
def refcountOfWrong : ChangeSpec := { name := "refcountOf", fn := fun _ => fun
  | [d1, d2] => { results := [.lit (.bool false)], args := [d1, d2] }
  | _ => none }
def RefcountOfWrongFalsely : Prop := refcountOfRow.holds Try.pinned (OpenSpec.ofChange refcountOfWrong)

/-- 'stockyardlaw28.RefcountLives': WHATEVER THE INPUT: true; the input reads as it did. -/
def refcountLivesSpec : ChangeSpec := { name := "refcountLives", fn := fun _ => fun
  | [d] => { results := [.lit (.bool true)], args := [d] }
  | _ => none }
def refcountLivesRow : OpenClaim := { program := "ytjglpmcekbjoaaa", sum := "b8e5d8cf3f81bc29dde7d97dd091d9f810f777198e2bc9f343433e816acf540f", func := "stockyard/stockyardlaw28.RefcountLives", spec := "refcountLives", unfollowed := true, recurses := true, plainKeys := false, apart := false }
def RefcountLivesSaid : Prop := refcountLivesRow.holds Try.pinned (OpenSpec.ofChange refcountLivesSpec)

/-- ITS FALSE NEIGHBOUR: 'it returns false'. Refute it at one input. -/
def refcountLivesWrong : ChangeSpec := { name := "refcountLives", fn := fun _ => fun
  | [d] => { results := [.lit (.bool false)], args := [d] }
  | _ => none }
def RefcountLivesWrongFalsely : Prop := refcountLivesRow.holds Try.pinned (OpenSpec.ofChange refcountLivesWrong)

/-- 'stockyardlaw28.RefcountSteps': WHATEVER THE INPUT: true; the input reads as it did. -/
def refcountStepsSpec : ChangeSpec := { name := "refcountSteps", fn := fun _ => fun
  | [d] => { results := [.lit (.bool true)], args := [d] }
  | _ => none }
def refcountStepsRow : OpenClaim := { program := "ytjglpmcekbjoaaa", sum := "b8e5d8cf3f81bc29dde7d97dd091d9f810f777198e2bc9f343433e816acf540f", func := "stockyard/stockyardlaw28.RefcountSteps", spec := "refcountSteps", unfollowed := true, recurses := true, plainKeys := false, apart := false }
def RefcountStepsSaid : Prop := refcountStepsRow.holds Try.pinned (OpenSpec.ofChange refcountStepsSpec)

/-- ITS FALSE NEIGHBOUR: 'it returns false'. Refute it at one input. -/
def refcountStepsWrong : ChangeSpec := { name := "refcountSteps", fn := fun _ => fun
  | [d] => { results := [.lit (.bool false)], args := [d] }
  | _ => none }
def RefcountStepsWrongFalsely : Prop := refcountStepsRow.holds Try.pinned (OpenSpec.ofChange refcountStepsWrong)

/-- 'stockyardlaw28.RefcountOrder': WHATEVER THE INPUT: true; the input reads as it did. -/
def refcountOrderSpec : ChangeSpec := { name := "refcountOrder", fn := fun _ => fun
  | [d] => { results := [.lit (.bool true)], args := [d] }
  | _ => none }
def refcountOrderRow : OpenClaim := { program := "ytjglpmcekbjoaaa", sum := "b8e5d8cf3f81bc29dde7d97dd091d9f810f777198e2bc9f343433e816acf540f", func := "stockyard/stockyardlaw28.RefcountOrder", spec := "refcountOrder", unfollowed := true, recurses := true, plainKeys := false, apart := false }
def RefcountOrderSaid : Prop := refcountOrderRow.holds Try.pinned (OpenSpec.ofChange refcountOrderSpec)

/-- ITS FALSE NEIGHBOUR: 'it returns false'. Refute it at one input. -/
def refcountOrderWrong : ChangeSpec := { name := "refcountOrder", fn := fun _ => fun
  | [d] => { results := [.lit (.bool false)], args := [d] }
  | _ => none }
def RefcountOrderWrongFalsely : Prop := refcountOrderRow.holds Try.pinned (OpenSpec.ofChange refcountOrderWrong)

/-- 'stockyardlaw28.RefcountJoins': WHATEVER THE INPUT: true; the input reads as it did. -/
def refcountJoinsSpec : ChangeSpec := { name := "refcountJoins", fn := fun _ => fun
  | [d] => { results := [.lit (.bool true)], args := [d] }
  | _ => none }
def refcountJoinsRow : OpenClaim := { program := "ytjglpmcekbjoaaa", sum := "b8e5d8cf3f81bc29dde7d97dd091d9f810f777198e2bc9f343433e816acf540f", func := "stockyard/stockyardlaw28.RefcountJoins", spec := "refcountJoins", unfollowed := true, recurses := true, plainKeys := false, apart := false }
def RefcountJoinsSaid : Prop := refcountJoinsRow.holds Try.pinned (OpenSpec.ofChange refcountJoinsSpec)

/-- ITS FALSE NEIGHBOUR: 'it returns false'. Refute it at one input. -/
def refcountJoinsWrong : ChangeSpec := { name := "refcountJoins", fn := fun _ => fun
  | [d] => { results := [.lit (.bool false)], args := [d] }
  | _ => none }
def RefcountJoinsWrongFalsely : Prop := refcountJoinsRow.holds Try.pinned (OpenSpec.ofChange refcountJoinsWrong)

/-- 'stockyardlaw28.RefcountMerges': WHATEVER THE INPUT: true; the input reads as it did. -/
def refcountMergesSpec : ChangeSpec := { name := "refcountMerges", fn := fun _ => fun
  | [d] => { results := [.lit (.bool true)], args := [d] }
  | _ => none }
def refcountMergesRow : OpenClaim := { program := "ytjglpmcekbjoaaa", sum := "b8e5d8cf3f81bc29dde7d97dd091d9f810f777198e2bc9f343433e816acf540f", func := "stockyard/stockyardlaw28.RefcountMerges", spec := "refcountMerges", unfollowed := true, recurses := true, plainKeys := false, apart := false }
def RefcountMergesSaid : Prop := refcountMergesRow.holds Try.pinned (OpenSpec.ofChange refcountMergesSpec)

/-- ITS FALSE NEIGHBOUR: 'it returns false'. Refute it at one input. -/
def refcountMergesWrong : ChangeSpec := { name := "refcountMerges", fn := fun _ => fun
  | [d] => { results := [.lit (.bool false)], args := [d] }
  | _ => none }
def RefcountMergesWrongFalsely : Prop := refcountMergesRow.holds Try.pinned (OpenSpec.ofChange refcountMergesWrong)

/-- 'stockyardlaw28.RefcountBack': WHATEVER THE INPUT: true; the input reads as it did. -/
def refcountBackSpec : ChangeSpec := { name := "refcountBack", fn := fun _ => fun
  | [d] => { results := [.lit (.bool true)], args := [d] }
  | _ => none }
def refcountBackRow : OpenClaim := { program := "ytjglpmcekbjoaaa", sum := "b8e5d8cf3f81bc29dde7d97dd091d9f810f777198e2bc9f343433e816acf540f", func := "stockyard/stockyardlaw28.RefcountBack", spec := "refcountBack", unfollowed := true, recurses := true, plainKeys := false, apart := false }
def RefcountBackSaid : Prop := refcountBackRow.holds Try.pinned (OpenSpec.ofChange refcountBackSpec)

/-- ITS FALSE NEIGHBOUR: 'it returns false'. Refute it at one input. -/
def refcountBackWrong : ChangeSpec := { name := "refcountBack", fn := fun _ => fun
  | [d] => { results := [.lit (.bool false)], args := [d] }
  | _ => none }
def RefcountBackWrongFalsely : Prop := refcountBackRow.holds Try.pinned (OpenSpec.ofChange refcountBackWrong)

/-- 'stockyardlaw28.RefcountChecks': WHATEVER THE INPUT: true; the input reads as it did. -/
def refcountChecksSpec : ChangeSpec := { name := "refcountChecks", fn := fun _ => fun
  | [d1, d2, d3] => { results := [.lit (.bool true)], args := [d1, d2, d3] }
  | _ => none }
def refcountChecksRow : OpenClaim := { program := "ytjglpmcekbjoaaa", sum := "b8e5d8cf3f81bc29dde7d97dd091d9f810f777198e2bc9f343433e816acf540f", func := "stockyard/stockyardlaw28.RefcountChecks", spec := "refcountChecks", unfollowed := true, recurses := true, plainKeys := false, apart := false }
def RefcountChecksSaid : Prop := refcountChecksRow.holds Try.pinned (OpenSpec.ofChange refcountChecksSpec)

/-- ITS FALSE NEIGHBOUR: 'it returns false'. Refute it at one input. -/
def refcountChecksWrong : ChangeSpec := { name := "refcountChecks", fn := fun _ => fun
  | [d1, d2, d3] => { results := [.lit (.bool false)], args := [d1, d2, d3] }
  | _ => none }
def RefcountChecksWrongFalsely : Prop := refcountChecksRow.holds Try.pinned (OpenSpec.ofChange refcountChecksWrong)

/-- 'stockyardlaw28.RefcountTells': WHATEVER THE INPUT: true; the input reads as it did. -/
def refcountTellsSpec : ChangeSpec := { name := "refcountTells", fn := fun _ => fun
  | [d] => { results := [.lit (.bool true)], args := [d] }
  | _ => none }
def refcountTellsRow : OpenClaim := { program := "ytjglpmcekbjoaaa", sum := "b8e5d8cf3f81bc29dde7d97dd091d9f810f777198e2bc9f343433e816acf540f", func := "stockyard/stockyardlaw28.RefcountTells", spec := "refcountTells", unfollowed := true, recurses := true, plainKeys := false, apart := false }
def RefcountTellsSaid : Prop := refcountTellsRow.holds Try.pinned (OpenSpec.ofChange refcountTellsSpec)

/-- ITS FALSE NEIGHBOUR: 'it returns false'. Refute it at one input. -/
def refcountTellsWrong : ChangeSpec := { name := "refcountTells", fn := fun _ => fun
  | [d] => { results := [.lit (.bool false)], args := [d] }
  | _ => none }
def RefcountTellsWrongFalsely : Prop := refcountTellsRow.holds Try.pinned (OpenSpec.ofChange refcountTellsWrong)

/- THE SECOND FORM. 'bulk': how many values and letters a reading holds, each counted each time it is reached (what is shared counts as often as it is met; a slice's spare places count too). A statement '..UptoSaid' is the law's where the arguments, and the package variables that the reading takes, are together of bulk at most 1048576: NARROWER than '..Said'. Prove '..Said' where nothing that the law and all that it calls make is longer than what came in: it says more and counts as full. Else prove '..UptoSaid'. A law counts once. -/
mutual
def uptoBulk {H : Type} : DataW H → Nat
  | .lit (.string bytes) => bytes.length + 1
  | .lit _ => 1
  | .nil => 1
  | .ptr d => uptoBulk d + 1
  | .slice elems spare => uptoBulkAll elems + uptoBulkAll spare + 1
  | .agg parts => uptoBulkAll parts + 1
  | .iface _ d => uptoBulk d + 1
  | .map entries => uptoBulkEntries entries + 1
  | .held _ => 1
def uptoBulkAll {H : Type} : List (DataW H) → Nat
  | [] => 0
  | d :: r => uptoBulk d + uptoBulkAll r
def uptoBulkEntries {H : Type} : List (Lit × DataW H) → Nat
  | [] => 0
  | x :: r => uptoBulkEntry x + uptoBulkEntries r
def uptoBulkEntry {H : Type} : Lit × DataW H → Nat
  | (.string bytes, d) => bytes.length + uptoBulk d + 1
  | (_, d) => uptoBulk d + 1
 end
def uptoSmall : (H : Type) → List (DataW H) → Bool := fun _ ds => decide (uptoBulkAll ds ≤ 1048576)
def OpenSpec.upto (s : _root_.Go.ChangeSpec) : _root_.Go.OpenSpec := { _root_.Go.OpenSpec.ofChange s with cond := some uptoSmall }

/-- 'stockyardlaw28.RefcountOf', WHERE WHAT IT READS IS OF BULK AT MOST 1048576: true; the input reads as it did. -/
def refcountOfUptoRow : OpenClaim := { program := "ytjglpmcekbjoaaa", sum := "b8e5d8cf3f81bc29dde7d97dd091d9f810f777198e2bc9f343433e816acf540f", func := "stockyard/stockyardlaw28.RefcountOf", spec := "refcountOf", unfollowed := true, recurses := true, plainKeys := false, apart := false, narrowed := true }
def RefcountOfUptoSaid : Prop := refcountOfUptoRow.holds Try.pinned (OpenSpec.upto refcountOfSpec)

/-- 'stockyardlaw28.RefcountLives', WHERE WHAT IT READS IS OF BULK AT MOST 1048576: true; the input reads as it did. -/
def refcountLivesUptoRow : OpenClaim := { program := "ytjglpmcekbjoaaa", sum := "b8e5d8cf3f81bc29dde7d97dd091d9f810f777198e2bc9f343433e816acf540f", func := "stockyard/stockyardlaw28.RefcountLives", spec := "refcountLives", unfollowed := true, recurses := true, plainKeys := false, apart := false, narrowed := true }
def RefcountLivesUptoSaid : Prop := refcountLivesUptoRow.holds Try.pinned (OpenSpec.upto refcountLivesSpec)

/-- 'stockyardlaw28.RefcountSteps', WHERE WHAT IT READS IS OF BULK AT MOST 1048576: true; the input reads as it did. -/
def refcountStepsUptoRow : OpenClaim := { program := "ytjglpmcekbjoaaa", sum := "b8e5d8cf3f81bc29dde7d97dd091d9f810f777198e2bc9f343433e816acf540f", func := "stockyard/stockyardlaw28.RefcountSteps", spec := "refcountSteps", unfollowed := true, recurses := true, plainKeys := false, apart := false, narrowed := true }
def RefcountStepsUptoSaid : Prop := refcountStepsUptoRow.holds Try.pinned (OpenSpec.upto refcountStepsSpec)

/-- 'stockyardlaw28.RefcountOrder', WHERE WHAT IT READS IS OF BULK AT MOST 1048576: true; the input reads as it did. -/
def refcountOrderUptoRow : OpenClaim := { program := "ytjglpmcekbjoaaa", sum := "b8e5d8cf3f81bc29dde7d97dd091d9f810f777198e2bc9f343433e816acf540f", func := "stockyard/stockyardlaw28.RefcountOrder", spec := "refcountOrder", unfollowed := true, recurses := true, plainKeys := false, apart := false, narrowed := true }
def RefcountOrderUptoSaid : Prop := refcountOrderUptoRow.holds Try.pinned (OpenSpec.upto refcountOrderSpec)

/-- 'stockyardlaw28.RefcountJoins', WHERE WHAT IT READS IS OF BULK AT MOST 1048576: true; the input reads as it did. -/
def refcountJoinsUptoRow : OpenClaim := { program := "ytjglpmcekbjoaaa", sum := "b8e5d8cf3f81bc29dde7d97dd091d9f810f777198e2bc9f343433e816acf540f", func := "stockyard/stockyardlaw28.RefcountJoins", spec := "refcountJoins", unfollowed := true, recurses := true, plainKeys := false, apart := false, narrowed := true }
def RefcountJoinsUptoSaid : Prop := refcountJoinsUptoRow.holds Try.pinned (OpenSpec.upto refcountJoinsSpec)

/-- 'stockyardlaw28.RefcountMerges', WHERE WHAT IT READS IS OF BULK AT MOST 1048576: true; the input reads as it did. -/
def refcountMergesUptoRow : OpenClaim := { program := "ytjglpmcekbjoaaa", sum := "b8e5d8cf3f81bc29dde7d97dd091d9f810f777198e2bc9f343433e816acf540f", func := "stockyard/stockyardlaw28.RefcountMerges", spec := "refcountMerges", unfollowed := true, recurses := true, plainKeys := false, apart := false, narrowed := true }
def RefcountMergesUptoSaid : Prop := refcountMergesUptoRow.holds Try.pinned (OpenSpec.upto refcountMergesSpec)

/-- 'stockyardlaw28.RefcountBack', WHERE WHAT IT READS IS OF BULK AT MOST 1048576: true; the input reads as it did. -/
def refcountBackUptoRow : OpenClaim := { program := "ytjglpmcekbjoaaa", sum := "b8e5d8cf3f81bc29dde7d97dd091d9f810f777198e2bc9f343433e816acf540f", func := "stockyard/stockyardlaw28.RefcountBack", spec := "refcountBack", unfollowed := true, recurses := true, plainKeys := false, apart := false, narrowed := true }
def RefcountBackUptoSaid : Prop := refcountBackUptoRow.holds Try.pinned (OpenSpec.upto refcountBackSpec)

/-- 'stockyardlaw28.RefcountChecks', WHERE WHAT IT READS IS OF BULK AT MOST 1048576: true; the input reads as it did. -/
def refcountChecksUptoRow : OpenClaim := { program := "ytjglpmcekbjoaaa", sum := "b8e5d8cf3f81bc29dde7d97dd091d9f810f777198e2bc9f343433e816acf540f", func := "stockyard/stockyardlaw28.RefcountChecks", spec := "refcountChecks", unfollowed := true, recurses := true, plainKeys := false, apart := false, narrowed := true }
def RefcountChecksUptoSaid : Prop := refcountChecksUptoRow.holds Try.pinned (OpenSpec.upto refcountChecksSpec)

/-- 'stockyardlaw28.RefcountTells', WHERE WHAT IT READS IS OF BULK AT MOST 1048576: true; the input reads as it did. -/
def refcountTellsUptoRow : OpenClaim := { program := "ytjglpmcekbjoaaa", sum := "b8e5d8cf3f81bc29dde7d97dd091d9f810f777198e2bc9f343433e816acf540f", func := "stockyard/stockyardlaw28.RefcountTells", spec := "refcountTells", unfollowed := true, recurses := true, plainKeys := false, apart := false, narrowed := true }
def RefcountTellsUptoSaid : Prop := refcountTellsUptoRow.holds Try.pinned (OpenSpec.upto refcountTellsSpec)

end Rows
end Go.Proofs.Ytjglpmcekbjoaaa
