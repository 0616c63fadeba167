/-
  No cell of these rows narrows 'for every input' (looked for: loops, veiled, ifaces, maps, wideKeys, modest, calm, conditions, laid).
  DERIVED. THE GIVEN ROWS OF THIS SEAT. 5 by the template 'for every input the law returns true; each argument reads behind the call as it read before'; 0 by the template 'total and deterministic' (their statements: YtmiknfneeipkeaaGreatTotals.lean).
  GIVEN WITH THE SEED: the statements are not yours to turn. If you find one false, say at which input.
  Laid BY PROGRAM, IN A SANDBOX (cutbox-rows.mjs): the forced cells as the released guide's own fill.sh prints them over the translation d4200524f5a64114… (all of the seat's roots in one cut). By AI agents, Wed Nov 11 2026. No macro, syntax, notation, axiom, sorry.
-/
import Derived.Test.YtmiknfneeipkeaaGreatChecked
import GoSem.Claim
import GoSem.ClaimJoined
import GoSem.ClaimMapViews
import Derived.JoinedTies
import Derived.KernelRfl
namespace Go.Proofs.YtmiknfneeipkeaaGreat
/- THE CELL 'sum', in the pinned program and in every row, IS THE sha256 OF THE DUMP (.gsa) THAT YtmiknfneeipkeaaGreatProg.lean LOADS. Nothing in Lean hashes anything: it is a label: what it is worth is what the hold of that sum in a sandbox is worth. -/
noncomputable def Tryz.pinned : Pinned := { name := "ytmiknfneeipkeaagreat", sum := "d4200524f5a64114fe30f5c79a23ce98d57878f937a0abdb96cf60a478ba9f5e", checked := Tryz.checked }
namespace Rows
def none {H : Type} : Left H := { results := [], args := [] }

/-- 'stockyardlaw41.ArchiveStores': WHATEVER THE INPUT: true; the input reads as it did. -/
def archiveStoresSpec : ChangeSpec := { name := "archiveStores", fn := fun _ => fun
  | [d1, d2] => { results := [.lit (.bool true)], args := [d1, d2] }
  | _ => none }
def archiveStoresRow : OpenClaim := { program := "ytmiknfneeipkeaagreat", sum := "d4200524f5a64114fe30f5c79a23ce98d57878f937a0abdb96cf60a478ba9f5e", func := "stockyard/stockyardlaw41.ArchiveStores", spec := "archiveStores", unfollowed := true, recurses := true, plainKeys := false, apart := false }
def ArchiveStoresSaid : Prop := archiveStoresRow.holds Tryz.pinned (OpenSpec.ofChange archiveStoresSpec)

/-- ITS FALSE NEIGHBOUR: 'it returns false'. Refute it at one input. -/
def archiveStoresWrong : ChangeSpec := { name := "archiveStores", fn := fun _ => fun
  | [d1, d2] => { results := [.lit (.bool false)], args := [d1, d2] }
  | _ => none }
def ArchiveStoresWrongFalsely : Prop := archiveStoresRow.holds Tryz.pinned (OpenSpec.ofChange archiveStoresWrong)

/-- 'stockyardlaw41.ArchiveFrees': WHATEVER THE INPUT: true; the input reads as it did. -/
def archiveFreesSpec : ChangeSpec := { name := "archiveFrees", fn := fun _ => fun
  | [d1, d2] => { results := [.lit (.bool true)], args := [d1, d2] }
  | _ => none }
def archiveFreesRow : OpenClaim := { program := "ytmiknfneeipkeaagreat", sum := "d4200524f5a64114fe30f5c79a23ce98d57878f937a0abdb96cf60a478ba9f5e", func := "stockyard/stockyardlaw41.ArchiveFrees", spec := "archiveFrees", unfollowed := true, recurses := true, plainKeys := false, apart := false }
def ArchiveFreesSaid : Prop := archiveFreesRow.holds Tryz.pinned (OpenSpec.ofChange archiveFreesSpec)

/-- ITS FALSE NEIGHBOUR: 'it returns false'. Refute it at one input. -/
def archiveFreesWrong : ChangeSpec := { name := "archiveFrees", fn := fun _ => fun
  | [d1, d2] => { results := [.lit (.bool false)], args := [d1, d2] }
  | _ => none }
def ArchiveFreesWrongFalsely : Prop := archiveFreesRow.holds Tryz.pinned (OpenSpec.ofChange archiveFreesWrong)

/-- 'stockyardlaw41.ArchiveForms': WHATEVER THE INPUT: true; the input reads as it did. -/
def archiveFormsSpec : ChangeSpec := { name := "archiveForms", fn := fun _ => fun
  | [d1, d2, d3] => { results := [.lit (.bool true)], args := [d1, d2, d3] }
  | _ => none }
def archiveFormsRow : OpenClaim := { program := "ytmiknfneeipkeaagreat", sum := "d4200524f5a64114fe30f5c79a23ce98d57878f937a0abdb96cf60a478ba9f5e", func := "stockyard/stockyardlaw41.ArchiveForms", spec := "archiveForms", unfollowed := true, recurses := true, plainKeys := false, apart := false }
def ArchiveFormsSaid : Prop := archiveFormsRow.holds Tryz.pinned (OpenSpec.ofChange archiveFormsSpec)

/-- ITS FALSE NEIGHBOUR: 'it returns false'. Refute it at one input. -/
def archiveFormsWrong : ChangeSpec := { name := "archiveForms", fn := fun _ => fun
  | [d1, d2, d3] => { results := [.lit (.bool false)], args := [d1, d2, d3] }
  | _ => none }
def ArchiveFormsWrongFalsely : Prop := archiveFormsRow.holds Tryz.pinned (OpenSpec.ofChange archiveFormsWrong)

/-- 'stockyardlaw41.ArchiveDamage': WHATEVER THE INPUT: true; the input reads as it did. -/
def archiveDamageSpec : ChangeSpec := { name := "archiveDamage", fn := fun _ => fun
  | [d1, d2, d3] => { results := [.lit (.bool true)], args := [d1, d2, d3] }
  | _ => none }
def archiveDamageRow : OpenClaim := { program := "ytmiknfneeipkeaagreat", sum := "d4200524f5a64114fe30f5c79a23ce98d57878f937a0abdb96cf60a478ba9f5e", func := "stockyard/stockyardlaw41.ArchiveDamage", spec := "archiveDamage", unfollowed := true, recurses := true, plainKeys := false, apart := false }
def ArchiveDamageSaid : Prop := archiveDamageRow.holds Tryz.pinned (OpenSpec.ofChange archiveDamageSpec)

/-- ITS FALSE NEIGHBOUR: 'it returns false'. Refute it at one input. -/
def archiveDamageWrong : ChangeSpec := { name := "archiveDamage", fn := fun _ => fun
  | [d1, d2, d3] => { results := [.lit (.bool false)], args := [d1, d2, d3] }
  | _ => none }
def ArchiveDamageWrongFalsely : Prop := archiveDamageRow.holds Tryz.pinned (OpenSpec.ofChange archiveDamageWrong)

/-- 'stockyardlaw41.ArchiveBack': WHATEVER THE INPUT: true; the input reads as it did. -/
def archiveBackSpec : ChangeSpec := { name := "archiveBack", fn := fun _ => fun
  | [d] => { results := [.lit (.bool true)], args := [d] }
  | _ => none }
def archiveBackRow : OpenClaim := { program := "ytmiknfneeipkeaagreat", sum := "d4200524f5a64114fe30f5c79a23ce98d57878f937a0abdb96cf60a478ba9f5e", func := "stockyard/stockyardlaw41.ArchiveBack", spec := "archiveBack", unfollowed := true, recurses := true, plainKeys := false, apart := false }
def ArchiveBackSaid : Prop := archiveBackRow.holds Tryz.pinned (OpenSpec.ofChange archiveBackSpec)

/-- ITS FALSE NEIGHBOUR: 'it returns false'. Refute it at one input. -/
def archiveBackWrong : ChangeSpec := { name := "archiveBack", fn := fun _ => fun
  | [d] => { results := [.lit (.bool false)], args := [d] }
  | _ => none }
def ArchiveBackWrongFalsely : Prop := archiveBackRow.holds Tryz.pinned (OpenSpec.ofChange archiveBackWrong)

/- THE SECOND FORM. 'bulk': how many values and letters a reading holds, each counted each time it is reached (what is shared counts as often as it is met; a slice's spare places count too). A statement '..UptoSaid' is the law's where the arguments, and the package variables that the reading takes, are together of bulk at most 1048576: NARROWER than '..Said'. Prove '..Said' where nothing that the law and all that it calls make is longer than what came in: it says more and counts as full. Else prove '..UptoSaid'. A law counts once. -/
mutual
def uptoBulk {H : Type} : DataW H → Nat
  | .lit (.string bytes) => bytes.length + 1
  | .lit _ => 1
  | .nil => 1
  | .ptr d => uptoBulk d + 1
  | .slice elems spare => uptoBulkAll elems + uptoBulkAll spare + 1
  | .agg parts => uptoBulkAll parts + 1
  | .iface _ d => uptoBulk d + 1
  | .map entries => uptoBulkEntries entries + 1
  | .held _ => 1
def uptoBulkAll {H : Type} : List (DataW H) → Nat
  | [] => 0
  | d :: r => uptoBulk d + uptoBulkAll r
def uptoBulkEntries {H : Type} : List (Lit × DataW H) → Nat
  | [] => 0
  | x :: r => uptoBulkEntry x + uptoBulkEntries r
def uptoBulkEntry {H : Type} : Lit × DataW H → Nat
  | (.string bytes, d) => bytes.length + uptoBulk d + 1
  | (_, d) => uptoBulk d + 1
 end
def uptoSmall : (H : Type) → List (DataW H) → Bool := fun _ ds => decide (uptoBulkAll ds ≤ 1048576)
def OpenSpec.upto (s : _root_.Go.ChangeSpec) : _root_.Go.OpenSpec := { _root_.Go.OpenSpec.ofChange s with cond := some uptoSmall }

/-- 'stockyardlaw41.ArchiveStores', WHERE WHAT IT READS IS OF BULK AT MOST 1048576: true; the input reads as it did. -/
def archiveStoresUptoRow : OpenClaim := { program := "ytmiknfneeipkeaagreat", sum := "d4200524f5a64114fe30f5c79a23ce98d57878f937a0abdb96cf60a478ba9f5e", func := "stockyard/stockyardlaw41.ArchiveStores", spec := "archiveStores", unfollowed := true, recurses := true, plainKeys := false, apart := false, narrowed := true }
def ArchiveStoresUptoSaid : Prop := archiveStoresUptoRow.holds Tryz.pinned (OpenSpec.upto archiveStoresSpec)

/-- 'stockyardlaw41.ArchiveFrees', WHERE WHAT IT READS IS OF BULK AT MOST 1048576: true; the input reads as it did. -/
def archiveFreesUptoRow : OpenClaim := { program := "ytmiknfneeipkeaagreat", sum := "d4200524f5a64114fe30f5c79a23ce98d57878f937a0abdb96cf60a478ba9f5e", func := "stockyard/stockyardlaw41.ArchiveFrees", spec := "archiveFrees", unfollowed := true, recurses := true, plainKeys := false, apart := false, narrowed := true }
def ArchiveFreesUptoSaid : Prop := archiveFreesUptoRow.holds Tryz.pinned (OpenSpec.upto archiveFreesSpec)

/-- 'stockyardlaw41.ArchiveForms', WHERE WHAT IT READS IS OF BULK AT MOST 1048576: true; the input reads as it did. -/
def archiveFormsUptoRow : OpenClaim := { program := "ytmiknfneeipkeaagreat", sum := "d4200524f5a64114fe30f5c79a23ce98d57878f937a0abdb96cf60a478ba9f5e", func := "stockyard/stockyardlaw41.ArchiveForms", spec := "archiveForms", unfollowed := true, recurses := true, plainKeys := false, apart := false, narrowed := true }
def ArchiveFormsUptoSaid : Prop := archiveFormsUptoRow.holds Tryz.pinned (OpenSpec.upto archiveFormsSpec)

/-- 'stockyardlaw41.ArchiveDamage', WHERE WHAT IT READS IS OF BULK AT MOST 1048576: true; the input reads as it did. -/
def archiveDamageUptoRow : OpenClaim := { program := "ytmiknfneeipkeaagreat", sum := "d4200524f5a64114fe30f5c79a23ce98d57878f937a0abdb96cf60a478ba9f5e", func := "stockyard/stockyardlaw41.ArchiveDamage", spec := "archiveDamage", unfollowed := true, recurses := true, plainKeys := false, apart := false, narrowed := true }
def ArchiveDamageUptoSaid : Prop := archiveDamageUptoRow.holds Tryz.pinned (OpenSpec.upto archiveDamageSpec)

/-- 'stockyardlaw41.ArchiveBack', WHERE WHAT IT READS IS OF BULK AT MOST 1048576: true; the input reads as it did. -/
def archiveBackUptoRow : OpenClaim := { program := "ytmiknfneeipkeaagreat", sum := "d4200524f5a64114fe30f5c79a23ce98d57878f937a0abdb96cf60a478ba9f5e", func := "stockyard/stockyardlaw41.ArchiveBack", spec := "archiveBack", unfollowed := true, recurses := true, plainKeys := false, apart := false, narrowed := true }
def ArchiveBackUptoSaid : Prop := archiveBackUptoRow.holds Tryz.pinned (OpenSpec.upto archiveBackSpec)

end Rows
end Go.Proofs.YtmiknfneeipkeaaGreat
