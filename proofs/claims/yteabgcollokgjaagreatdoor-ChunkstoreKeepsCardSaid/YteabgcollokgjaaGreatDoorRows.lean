/-
  NARROWER THAN 'FOR EVERY INPUT', by the rows' own cells (each row's printed sentence says how): ChunkstoreFull: laid · ChunkstoreNames: laid · ChunkstoreTrue: laid · ChunkstoreApart: laid · ChunkstorePlays: laid · ChunkstoreHeals: laid · ChunkstoreKeeps: laid · ChunkstoreOnce: laid · ChunkstoreContents: laid · CollectorSteps: laid · CollectorPlays: laid · CollectorEnds: laid · CollectorSessions: laid · CollectorSafe: laid · CollectorLive: laid · CollectorCrashes: laid · CollectorUploads: laid.
  DERIVED. THE GIVEN ROWS OF THIS SEAT. 17 by the template 'for every input the law returns true; each argument reads behind the call as it read before'; 0 by the template 'total and deterministic' (their statements: YteabgcollokgjaaGreatDoorTotals.lean).
  GIVEN WITH THE SEED: the statements are not yours to turn. If you find one false, say at which input.
  Laid BY PROGRAM, IN A SANDBOX (cutbox-rows.mjs): the forced cells as the released guide's own fill.sh prints them over the translation c71b94b8e7ab3606… (all of the seat's roots in one cut). By AI agents, Wed Nov 11 2026. No macro, syntax, notation, axiom, sorry.
-/
import Derived.Test.YteabgcollokgjaaGreatDoorChecked
import GoSem.Claim
import GoSem.ClaimJoined
import GoSem.ClaimMapViews
import Derived.JoinedTies
import Derived.KernelRfl
namespace Go.Proofs.YteabgcollokgjaaGreatDoor
/- THE CELL 'sum', in the pinned program and in every row, IS THE sha256 OF THE DUMP (.gsa) THAT YteabgcollokgjaaGreatDoorProg.lean LOADS. Nothing in Lean hashes anything: it is a label: what it is worth is what the hold of that sum in a sandbox is worth. -/
noncomputable def Tryz.pinned : Pinned := { name := "yteabgcollokgjaagreatdoor", sum := "c71b94b8e7ab36063c1e8654d24d87d0fd98ed4f3e057a4a7eb8d2970f984351", checked := Tryz.checked }
namespace Rows
def none {H : Type} : Left H := { results := [], args := [] }

/- WHAT THE LISTED PACKAGE-LEVEL VARIABLES READ AS WHEN THE CALL BEGINS. Each datum BY PROGRAM (the guide's laid-datum.mjs) off the statement by which the dump's own 'gosem.cut.vars' lays the variable. In a bare row this is a premise. The card (YteabgcollokgjaaGreatDoorCards.lean) ties it to the program's text. -/
def laid_math_bits_deBruijn32tab {H : Type} : DataW H := .agg [.lit (.int .u8 0), .lit (.int .u8 1), .lit (.int .u8 28), .lit (.int .u8 2), .lit (.int .u8 29), .lit (.int .u8 14), .lit (.int .u8 24), .lit (.int .u8 3), .lit (.int .u8 30), .lit (.int .u8 22), .lit (.int .u8 20), .lit (.int .u8 15), .lit (.int .u8 25), .lit (.int .u8 17), .lit (.int .u8 4), .lit (.int .u8 8), .lit (.int .u8 31), .lit (.int .u8 27), .lit (.int .u8 13), .lit (.int .u8 23), .lit (.int .u8 21), .lit (.int .u8 19), .lit (.int .u8 16), .lit (.int .u8 7), .lit (.int .u8 26), .lit (.int .u8 12), .lit (.int .u8 18), .lit (.int .u8 6), .lit (.int .u8 11), .lit (.int .u8 5), .lit (.int .u8 10), .lit (.int .u8 9)]
def laid_math_bits_deBruijn64tab {H : Type} : DataW H := .agg [.lit (.int .u8 0), .lit (.int .u8 1), .lit (.int .u8 56), .lit (.int .u8 2), .lit (.int .u8 57), .lit (.int .u8 49), .lit (.int .u8 28), .lit (.int .u8 3), .lit (.int .u8 61), .lit (.int .u8 58), .lit (.int .u8 42), .lit (.int .u8 50), .lit (.int .u8 38), .lit (.int .u8 29), .lit (.int .u8 17), .lit (.int .u8 4), .lit (.int .u8 62), .lit (.int .u8 47), .lit (.int .u8 59), .lit (.int .u8 36), .lit (.int .u8 45), .lit (.int .u8 43), .lit (.int .u8 51), .lit (.int .u8 22), .lit (.int .u8 53), .lit (.int .u8 39), .lit (.int .u8 33), .lit (.int .u8 30), .lit (.int .u8 24), .lit (.int .u8 18), .lit (.int .u8 12), .lit (.int .u8 5), .lit (.int .u8 63), .lit (.int .u8 55), .lit (.int .u8 48), .lit (.int .u8 27), .lit (.int .u8 60), .lit (.int .u8 41), .lit (.int .u8 37), .lit (.int .u8 16), .lit (.int .u8 46), .lit (.int .u8 35), .lit (.int .u8 44), .lit (.int .u8 21), .lit (.int .u8 52), .lit (.int .u8 32), .lit (.int .u8 23), .lit (.int .u8 11), .lit (.int .u8 54), .lit (.int .u8 26), .lit (.int .u8 40), .lit (.int .u8 15), .lit (.int .u8 34), .lit (.int .u8 20), .lit (.int .u8 31), .lit (.int .u8 10), .lit (.int .u8 25), .lit (.int .u8 14), .lit (.int .u8 19), .lit (.int .u8 9), .lit (.int .u8 13), .lit (.int .u8 8), .lit (.int .u8 7), .lit (.int .u8 6)]
def laid_internal_strconv_uint64pow10 {H : Type} : DataW H := .agg [.lit (.int .u64 1), .lit (.int .u64 10), .lit (.int .u64 100), .lit (.int .u64 1000), .lit (.int .u64 10000), .lit (.int .u64 100000), .lit (.int .u64 1000000), .lit (.int .u64 10000000), .lit (.int .u64 100000000), .lit (.int .u64 1000000000), .lit (.int .u64 10000000000), .lit (.int .u64 100000000000), .lit (.int .u64 1000000000000), .lit (.int .u64 10000000000000), .lit (.int .u64 100000000000000), .lit (.int .u64 1000000000000000), .lit (.int .u64 10000000000000000), .lit (.int .u64 100000000000000000), .lit (.int .u64 1000000000000000000), .lit (.int .u64 10000000000000000000)]
def laid_strconv_ErrRange {H : Type} : DataW H := .iface "*errors.errorString" (.ptr (.agg [.lit (.string [118, 97, 108, 117, 101, 32, 111, 117, 116, 32, 111, 102, 32, 114, 97, 110, 103, 101])]))
def laid_strconv_ErrSyntax {H : Type} : DataW H := .iface "*errors.errorString" (.ptr (.agg [.lit (.string [105, 110, 118, 97, 108, 105, 100, 32, 115, 121, 110, 116, 97, 120])]))

/-- 'stockyardlaw33.ChunkstoreFull': WHATEVER THE INPUT: true; the input reads as it did. -/
def chunkstoreFullSpec : ChangeSpec := { name := "chunkstoreFull", fn := fun _ => fun
  | [d] => { results := [.lit (.bool true)], args := [d] }
  | _ => none }
def chunkstoreFullRow : OpenClaim := { program := "yteabgcollokgjaagreatdoor", sum := "c71b94b8e7ab36063c1e8654d24d87d0fd98ed4f3e057a4a7eb8d2970f984351", func := "stockyard/stockyardlaw33.ChunkstoreFull", spec := "chunkstoreFull", inPlace := ["maps.clone"], unfollowed := true, recurses := true, named := ["strconv.ErrSyntax", "strconv.ErrRange", "internal/strconv.uint64pow10", "math/bits.deBruijn32tab", "math/bits.deBruijn64tab"], plainKeys := false, apart := false, laid := [("math/bits.deBruijn32tab", laid_math_bits_deBruijn32tab), ("math/bits.deBruijn64tab", laid_math_bits_deBruijn64tab), ("internal/strconv.uint64pow10", laid_internal_strconv_uint64pow10), ("strconv.ErrRange", laid_strconv_ErrRange), ("strconv.ErrSyntax", laid_strconv_ErrSyntax)] }
def ChunkstoreFullSaid : Prop := chunkstoreFullRow.holds Tryz.pinned (OpenSpec.ofChange chunkstoreFullSpec)

/-- ITS FALSE NEIGHBOUR: 'it returns false'. Refute it at one input. -/
def chunkstoreFullWrong : ChangeSpec := { name := "chunkstoreFull", fn := fun _ => fun
  | [d] => { results := [.lit (.bool false)], args := [d] }
  | _ => none }
def ChunkstoreFullWrongFalsely : Prop := chunkstoreFullRow.holds Tryz.pinned (OpenSpec.ofChange chunkstoreFullWrong)

/-- 'stockyardlaw33.ChunkstoreNames': WHATEVER THE INPUT: true; the input reads as it did. -/
def chunkstoreNamesSpec : ChangeSpec := { name := "chunkstoreNames", fn := fun _ => fun
  | [d1, d2, d3] => { results := [.lit (.bool true)], args := [d1, d2, d3] }
  | _ => none }
def chunkstoreNamesRow : OpenClaim := { program := "yteabgcollokgjaagreatdoor", sum := "c71b94b8e7ab36063c1e8654d24d87d0fd98ed4f3e057a4a7eb8d2970f984351", func := "stockyard/stockyardlaw33.ChunkstoreNames", spec := "chunkstoreNames", inPlace := ["maps.clone"], unfollowed := true, recurses := true, named := ["strconv.ErrSyntax", "strconv.ErrRange", "internal/strconv.uint64pow10", "math/bits.deBruijn32tab", "math/bits.deBruijn64tab"], plainKeys := false, apart := false, laid := [("math/bits.deBruijn32tab", laid_math_bits_deBruijn32tab), ("math/bits.deBruijn64tab", laid_math_bits_deBruijn64tab), ("internal/strconv.uint64pow10", laid_internal_strconv_uint64pow10), ("strconv.ErrRange", laid_strconv_ErrRange), ("strconv.ErrSyntax", laid_strconv_ErrSyntax)] }
def ChunkstoreNamesSaid : Prop := chunkstoreNamesRow.holds Tryz.pinned (OpenSpec.ofChange chunkstoreNamesSpec)

/-- ITS FALSE NEIGHBOUR: 'it returns false'. Refute it at one input. -/
def chunkstoreNamesWrong : ChangeSpec := { name := "chunkstoreNames", fn := fun _ => fun
  | [d1, d2, d3] => { results := [.lit (.bool false)], args := [d1, d2, d3] }
  | _ => none }
def ChunkstoreNamesWrongFalsely : Prop := chunkstoreNamesRow.holds Tryz.pinned (OpenSpec.ofChange chunkstoreNamesWrong)

/-- 'stockyardlaw33.ChunkstoreTrue': WHATEVER THE INPUT: true; the input reads as it did. -/
def chunkstoreTrueSpec : ChangeSpec := { name := "chunkstoreTrue", fn := fun _ => fun
  | [d1, d2] => { results := [.lit (.bool true)], args := [d1, d2] }
  | _ => none }
def chunkstoreTrueRow : OpenClaim := { program := "yteabgcollokgjaagreatdoor", sum := "c71b94b8e7ab36063c1e8654d24d87d0fd98ed4f3e057a4a7eb8d2970f984351", func := "stockyard/stockyardlaw33.ChunkstoreTrue", spec := "chunkstoreTrue", inPlace := ["maps.clone"], unfollowed := true, recurses := true, named := ["strconv.ErrSyntax", "strconv.ErrRange", "internal/strconv.uint64pow10", "math/bits.deBruijn32tab", "math/bits.deBruijn64tab"], plainKeys := false, apart := false, laid := [("math/bits.deBruijn32tab", laid_math_bits_deBruijn32tab), ("math/bits.deBruijn64tab", laid_math_bits_deBruijn64tab), ("internal/strconv.uint64pow10", laid_internal_strconv_uint64pow10), ("strconv.ErrRange", laid_strconv_ErrRange), ("strconv.ErrSyntax", laid_strconv_ErrSyntax)] }
def ChunkstoreTrueSaid : Prop := chunkstoreTrueRow.holds Tryz.pinned (OpenSpec.ofChange chunkstoreTrueSpec)

/-- ITS FALSE NEIGHBOUR: 'it returns false'. Refute it at one input. -/
def chunkstoreTrueWrong : ChangeSpec := { name := "chunkstoreTrue", fn := fun _ => fun
  | [d1, d2] => { results := [.lit (.bool false)], args := [d1, d2] }
  | _ => none }
def ChunkstoreTrueWrongFalsely : Prop := chunkstoreTrueRow.holds Tryz.pinned (OpenSpec.ofChange chunkstoreTrueWrong)

/-- 'stockyardlaw33.ChunkstoreApart': WHATEVER THE INPUT: true; the input reads as it did. -/
def chunkstoreApartSpec : ChangeSpec := { name := "chunkstoreApart", fn := fun _ => fun
  | [d] => { results := [.lit (.bool true)], args := [d] }
  | _ => none }
def chunkstoreApartRow : OpenClaim := { program := "yteabgcollokgjaagreatdoor", sum := "c71b94b8e7ab36063c1e8654d24d87d0fd98ed4f3e057a4a7eb8d2970f984351", func := "stockyard/stockyardlaw33.ChunkstoreApart", spec := "chunkstoreApart", inPlace := ["maps.clone"], unfollowed := true, recurses := true, named := ["strconv.ErrSyntax", "strconv.ErrRange", "internal/strconv.uint64pow10", "math/bits.deBruijn32tab", "math/bits.deBruijn64tab"], plainKeys := false, apart := false, laid := [("math/bits.deBruijn32tab", laid_math_bits_deBruijn32tab), ("math/bits.deBruijn64tab", laid_math_bits_deBruijn64tab), ("internal/strconv.uint64pow10", laid_internal_strconv_uint64pow10), ("strconv.ErrRange", laid_strconv_ErrRange), ("strconv.ErrSyntax", laid_strconv_ErrSyntax)] }
def ChunkstoreApartSaid : Prop := chunkstoreApartRow.holds Tryz.pinned (OpenSpec.ofChange chunkstoreApartSpec)

/-- ITS FALSE NEIGHBOUR: 'it returns false'. Refute it at one input. -/
def chunkstoreApartWrong : ChangeSpec := { name := "chunkstoreApart", fn := fun _ => fun
  | [d] => { results := [.lit (.bool false)], args := [d] }
  | _ => none }
def ChunkstoreApartWrongFalsely : Prop := chunkstoreApartRow.holds Tryz.pinned (OpenSpec.ofChange chunkstoreApartWrong)

/-- 'stockyardlaw33.ChunkstorePlays': WHATEVER THE INPUT: true; the input reads as it did. -/
def chunkstorePlaysSpec : ChangeSpec := { name := "chunkstorePlays", fn := fun _ => fun
  | [d] => { results := [.lit (.bool true)], args := [d] }
  | _ => none }
def chunkstorePlaysRow : OpenClaim := { program := "yteabgcollokgjaagreatdoor", sum := "c71b94b8e7ab36063c1e8654d24d87d0fd98ed4f3e057a4a7eb8d2970f984351", func := "stockyard/stockyardlaw33.ChunkstorePlays", spec := "chunkstorePlays", inPlace := ["maps.clone"], unfollowed := true, recurses := true, named := ["strconv.ErrSyntax", "strconv.ErrRange", "internal/strconv.uint64pow10", "math/bits.deBruijn32tab", "math/bits.deBruijn64tab"], plainKeys := false, apart := false, laid := [("math/bits.deBruijn32tab", laid_math_bits_deBruijn32tab), ("math/bits.deBruijn64tab", laid_math_bits_deBruijn64tab), ("internal/strconv.uint64pow10", laid_internal_strconv_uint64pow10), ("strconv.ErrRange", laid_strconv_ErrRange), ("strconv.ErrSyntax", laid_strconv_ErrSyntax)] }
def ChunkstorePlaysSaid : Prop := chunkstorePlaysRow.holds Tryz.pinned (OpenSpec.ofChange chunkstorePlaysSpec)

/-- ITS FALSE NEIGHBOUR: 'it returns false'. Refute it at one input. -/
def chunkstorePlaysWrong : ChangeSpec := { name := "chunkstorePlays", fn := fun _ => fun
  | [d] => { results := [.lit (.bool false)], args := [d] }
  | _ => none }
def ChunkstorePlaysWrongFalsely : Prop := chunkstorePlaysRow.holds Tryz.pinned (OpenSpec.ofChange chunkstorePlaysWrong)

/-- 'stockyardlaw33.ChunkstoreHeals': WHATEVER THE INPUT: true; the input reads as it did. -/
def chunkstoreHealsSpec : ChangeSpec := { name := "chunkstoreHeals", fn := fun _ => fun
  | [d1, d2] => { results := [.lit (.bool true)], args := [d1, d2] }
  | _ => none }
def chunkstoreHealsRow : OpenClaim := { program := "yteabgcollokgjaagreatdoor", sum := "c71b94b8e7ab36063c1e8654d24d87d0fd98ed4f3e057a4a7eb8d2970f984351", func := "stockyard/stockyardlaw33.ChunkstoreHeals", spec := "chunkstoreHeals", inPlace := ["maps.clone"], unfollowed := true, recurses := true, named := ["strconv.ErrSyntax", "strconv.ErrRange", "internal/strconv.uint64pow10", "math/bits.deBruijn32tab", "math/bits.deBruijn64tab"], plainKeys := false, apart := false, laid := [("math/bits.deBruijn32tab", laid_math_bits_deBruijn32tab), ("math/bits.deBruijn64tab", laid_math_bits_deBruijn64tab), ("internal/strconv.uint64pow10", laid_internal_strconv_uint64pow10), ("strconv.ErrRange", laid_strconv_ErrRange), ("strconv.ErrSyntax", laid_strconv_ErrSyntax)] }
def ChunkstoreHealsSaid : Prop := chunkstoreHealsRow.holds Tryz.pinned (OpenSpec.ofChange chunkstoreHealsSpec)

/-- ITS FALSE NEIGHBOUR: 'it returns false'. Refute it at one input. -/
def chunkstoreHealsWrong : ChangeSpec := { name := "chunkstoreHeals", fn := fun _ => fun
  | [d1, d2] => { results := [.lit (.bool false)], args := [d1, d2] }
  | _ => none }
def ChunkstoreHealsWrongFalsely : Prop := chunkstoreHealsRow.holds Tryz.pinned (OpenSpec.ofChange chunkstoreHealsWrong)

/-- 'stockyardlaw33.ChunkstoreKeeps': WHATEVER THE INPUT: true; the input reads as it did. -/
def chunkstoreKeepsSpec : ChangeSpec := { name := "chunkstoreKeeps", fn := fun _ => fun
  | [d] => { results := [.lit (.bool true)], args := [d] }
  | _ => none }
def chunkstoreKeepsRow : OpenClaim := { program := "yteabgcollokgjaagreatdoor", sum := "c71b94b8e7ab36063c1e8654d24d87d0fd98ed4f3e057a4a7eb8d2970f984351", func := "stockyard/stockyardlaw33.ChunkstoreKeeps", spec := "chunkstoreKeeps", inPlace := ["maps.clone"], unfollowed := true, recurses := true, named := ["strconv.ErrSyntax", "strconv.ErrRange", "internal/strconv.uint64pow10", "math/bits.deBruijn32tab", "math/bits.deBruijn64tab"], plainKeys := false, apart := false, laid := [("math/bits.deBruijn32tab", laid_math_bits_deBruijn32tab), ("math/bits.deBruijn64tab", laid_math_bits_deBruijn64tab), ("internal/strconv.uint64pow10", laid_internal_strconv_uint64pow10), ("strconv.ErrRange", laid_strconv_ErrRange), ("strconv.ErrSyntax", laid_strconv_ErrSyntax)] }
def ChunkstoreKeepsSaid : Prop := chunkstoreKeepsRow.holds Tryz.pinned (OpenSpec.ofChange chunkstoreKeepsSpec)

/-- ITS FALSE NEIGHBOUR: 'it returns false'. Refute it at one input. -/
def chunkstoreKeepsWrong : ChangeSpec := { name := "chunkstoreKeeps", fn := fun _ => fun
  | [d] => { results := [.lit (.bool false)], args := [d] }
  | _ => none }
def ChunkstoreKeepsWrongFalsely : Prop := chunkstoreKeepsRow.holds Tryz.pinned (OpenSpec.ofChange chunkstoreKeepsWrong)

/-- 'stockyardlaw33.ChunkstoreOnce': WHATEVER THE INPUT: true; the input reads as it did. -/
def chunkstoreOnceSpec : ChangeSpec := { name := "chunkstoreOnce", fn := fun _ => fun
  | [d] => { results := [.lit (.bool true)], args := [d] }
  | _ => none }
def chunkstoreOnceRow : OpenClaim := { program := "yteabgcollokgjaagreatdoor", sum := "c71b94b8e7ab36063c1e8654d24d87d0fd98ed4f3e057a4a7eb8d2970f984351", func := "stockyard/stockyardlaw33.ChunkstoreOnce", spec := "chunkstoreOnce", inPlace := ["maps.clone"], unfollowed := true, recurses := true, named := ["strconv.ErrSyntax", "strconv.ErrRange", "internal/strconv.uint64pow10", "math/bits.deBruijn32tab", "math/bits.deBruijn64tab"], plainKeys := false, apart := false, laid := [("math/bits.deBruijn32tab", laid_math_bits_deBruijn32tab), ("math/bits.deBruijn64tab", laid_math_bits_deBruijn64tab), ("internal/strconv.uint64pow10", laid_internal_strconv_uint64pow10), ("strconv.ErrRange", laid_strconv_ErrRange), ("strconv.ErrSyntax", laid_strconv_ErrSyntax)] }
def ChunkstoreOnceSaid : Prop := chunkstoreOnceRow.holds Tryz.pinned (OpenSpec.ofChange chunkstoreOnceSpec)

/-- ITS FALSE NEIGHBOUR: 'it returns false'. Refute it at one input. -/
def chunkstoreOnceWrong : ChangeSpec := { name := "chunkstoreOnce", fn := fun _ => fun
  | [d] => { results := [.lit (.bool false)], args := [d] }
  | _ => none }
def ChunkstoreOnceWrongFalsely : Prop := chunkstoreOnceRow.holds Tryz.pinned (OpenSpec.ofChange chunkstoreOnceWrong)

/-- 'stockyardlaw33.ChunkstoreContents': WHATEVER THE INPUT: true; the input reads as it did. -/
def chunkstoreContentsSpec : ChangeSpec := { name := "chunkstoreContents", fn := fun _ => fun
  | [d] => { results := [.lit (.bool true)], args := [d] }
  | _ => none }
def chunkstoreContentsRow : OpenClaim := { program := "yteabgcollokgjaagreatdoor", sum := "c71b94b8e7ab36063c1e8654d24d87d0fd98ed4f3e057a4a7eb8d2970f984351", func := "stockyard/stockyardlaw33.ChunkstoreContents", spec := "chunkstoreContents", inPlace := ["maps.clone"], unfollowed := true, recurses := true, named := ["strconv.ErrSyntax", "strconv.ErrRange", "internal/strconv.uint64pow10", "math/bits.deBruijn32tab", "math/bits.deBruijn64tab"], plainKeys := false, apart := false, laid := [("math/bits.deBruijn32tab", laid_math_bits_deBruijn32tab), ("math/bits.deBruijn64tab", laid_math_bits_deBruijn64tab), ("internal/strconv.uint64pow10", laid_internal_strconv_uint64pow10), ("strconv.ErrRange", laid_strconv_ErrRange), ("strconv.ErrSyntax", laid_strconv_ErrSyntax)] }
def ChunkstoreContentsSaid : Prop := chunkstoreContentsRow.holds Tryz.pinned (OpenSpec.ofChange chunkstoreContentsSpec)

/-- ITS FALSE NEIGHBOUR: 'it returns false'. Refute it at one input. -/
def chunkstoreContentsWrong : ChangeSpec := { name := "chunkstoreContents", fn := fun _ => fun
  | [d] => { results := [.lit (.bool false)], args := [d] }
  | _ => none }
def ChunkstoreContentsWrongFalsely : Prop := chunkstoreContentsRow.holds Tryz.pinned (OpenSpec.ofChange chunkstoreContentsWrong)

/-- 'stockyardlaw40.CollectorSteps': WHATEVER THE INPUT: true; the input reads as it did. -/
def collectorStepsSpec : ChangeSpec := { name := "collectorSteps", fn := fun _ => fun
  | [d] => { results := [.lit (.bool true)], args := [d] }
  | _ => none }
def collectorStepsRow : OpenClaim := { program := "yteabgcollokgjaagreatdoor", sum := "c71b94b8e7ab36063c1e8654d24d87d0fd98ed4f3e057a4a7eb8d2970f984351", func := "stockyard/stockyardlaw40.CollectorSteps", spec := "collectorSteps", inPlace := ["maps.clone"], unfollowed := true, recurses := true, named := ["strconv.ErrSyntax", "strconv.ErrRange", "internal/strconv.uint64pow10", "math/bits.deBruijn32tab", "math/bits.deBruijn64tab"], plainKeys := false, apart := false, laid := [("math/bits.deBruijn32tab", laid_math_bits_deBruijn32tab), ("math/bits.deBruijn64tab", laid_math_bits_deBruijn64tab), ("internal/strconv.uint64pow10", laid_internal_strconv_uint64pow10), ("strconv.ErrRange", laid_strconv_ErrRange), ("strconv.ErrSyntax", laid_strconv_ErrSyntax)] }
def CollectorStepsSaid : Prop := collectorStepsRow.holds Tryz.pinned (OpenSpec.ofChange collectorStepsSpec)

/-- ITS FALSE NEIGHBOUR: 'it returns false'. Refute it at one input. -/
def collectorStepsWrong : ChangeSpec := { name := "collectorSteps", fn := fun _ => fun
  | [d] => { results := [.lit (.bool false)], args := [d] }
  | _ => none }
def CollectorStepsWrongFalsely : Prop := collectorStepsRow.holds Tryz.pinned (OpenSpec.ofChange collectorStepsWrong)

/-- 'stockyardlaw40.CollectorPlays': WHATEVER THE INPUT: true; the input reads as it did. -/
def collectorPlaysSpec : ChangeSpec := { name := "collectorPlays", fn := fun _ => fun
  | [d] => { results := [.lit (.bool true)], args := [d] }
  | _ => none }
def collectorPlaysRow : OpenClaim := { program := "yteabgcollokgjaagreatdoor", sum := "c71b94b8e7ab36063c1e8654d24d87d0fd98ed4f3e057a4a7eb8d2970f984351", func := "stockyard/stockyardlaw40.CollectorPlays", spec := "collectorPlays", inPlace := ["maps.clone"], unfollowed := true, recurses := true, named := ["strconv.ErrSyntax", "strconv.ErrRange", "internal/strconv.uint64pow10", "math/bits.deBruijn32tab", "math/bits.deBruijn64tab"], plainKeys := false, apart := false, laid := [("math/bits.deBruijn32tab", laid_math_bits_deBruijn32tab), ("math/bits.deBruijn64tab", laid_math_bits_deBruijn64tab), ("internal/strconv.uint64pow10", laid_internal_strconv_uint64pow10), ("strconv.ErrRange", laid_strconv_ErrRange), ("strconv.ErrSyntax", laid_strconv_ErrSyntax)] }
def CollectorPlaysSaid : Prop := collectorPlaysRow.holds Tryz.pinned (OpenSpec.ofChange collectorPlaysSpec)

/-- ITS FALSE NEIGHBOUR: 'it returns false'. Refute it at one input. -/
def collectorPlaysWrong : ChangeSpec := { name := "collectorPlays", fn := fun _ => fun
  | [d] => { results := [.lit (.bool false)], args := [d] }
  | _ => none }
def CollectorPlaysWrongFalsely : Prop := collectorPlaysRow.holds Tryz.pinned (OpenSpec.ofChange collectorPlaysWrong)

/-- 'stockyardlaw40.CollectorEnds': WHATEVER THE INPUT: true; the input reads as it did. -/
def collectorEndsSpec : ChangeSpec := { name := "collectorEnds", fn := fun _ => fun
  | [d1, d2] => { results := [.lit (.bool true)], args := [d1, d2] }
  | _ => none }
def collectorEndsRow : OpenClaim := { program := "yteabgcollokgjaagreatdoor", sum := "c71b94b8e7ab36063c1e8654d24d87d0fd98ed4f3e057a4a7eb8d2970f984351", func := "stockyard/stockyardlaw40.CollectorEnds", spec := "collectorEnds", inPlace := ["maps.clone"], unfollowed := true, recurses := true, named := ["strconv.ErrSyntax", "strconv.ErrRange", "internal/strconv.uint64pow10", "math/bits.deBruijn32tab", "math/bits.deBruijn64tab"], plainKeys := false, apart := false, laid := [("math/bits.deBruijn32tab", laid_math_bits_deBruijn32tab), ("math/bits.deBruijn64tab", laid_math_bits_deBruijn64tab), ("internal/strconv.uint64pow10", laid_internal_strconv_uint64pow10), ("strconv.ErrRange", laid_strconv_ErrRange), ("strconv.ErrSyntax", laid_strconv_ErrSyntax)] }
def CollectorEndsSaid : Prop := collectorEndsRow.holds Tryz.pinned (OpenSpec.ofChange collectorEndsSpec)

/-- ITS FALSE NEIGHBOUR: 'it returns false'. Refute it at one input. -/
def collectorEndsWrong : ChangeSpec := { name := "collectorEnds", fn := fun _ => fun
  | [d1, d2] => { results := [.lit (.bool false)], args := [d1, d2] }
  | _ => none }
def CollectorEndsWrongFalsely : Prop := collectorEndsRow.holds Tryz.pinned (OpenSpec.ofChange collectorEndsWrong)

/-- 'stockyardlaw40.CollectorSessions': WHATEVER THE INPUT: true; the input reads as it did. -/
def collectorSessionsSpec : ChangeSpec := { name := "collectorSessions", fn := fun _ => fun
  | [d1, d2] => { results := [.lit (.bool true)], args := [d1, d2] }
  | _ => none }
def collectorSessionsRow : OpenClaim := { program := "yteabgcollokgjaagreatdoor", sum := "c71b94b8e7ab36063c1e8654d24d87d0fd98ed4f3e057a4a7eb8d2970f984351", func := "stockyard/stockyardlaw40.CollectorSessions", spec := "collectorSessions", inPlace := ["maps.clone"], unfollowed := true, recurses := true, named := ["strconv.ErrSyntax", "strconv.ErrRange", "internal/strconv.uint64pow10", "math/bits.deBruijn32tab", "math/bits.deBruijn64tab"], plainKeys := false, apart := false, laid := [("math/bits.deBruijn32tab", laid_math_bits_deBruijn32tab), ("math/bits.deBruijn64tab", laid_math_bits_deBruijn64tab), ("internal/strconv.uint64pow10", laid_internal_strconv_uint64pow10), ("strconv.ErrRange", laid_strconv_ErrRange), ("strconv.ErrSyntax", laid_strconv_ErrSyntax)] }
def CollectorSessionsSaid : Prop := collectorSessionsRow.holds Tryz.pinned (OpenSpec.ofChange collectorSessionsSpec)

/-- ITS FALSE NEIGHBOUR: 'it returns false'. Refute it at one input. -/
def collectorSessionsWrong : ChangeSpec := { name := "collectorSessions", fn := fun _ => fun
  | [d1, d2] => { results := [.lit (.bool false)], args := [d1, d2] }
  | _ => none }
def CollectorSessionsWrongFalsely : Prop := collectorSessionsRow.holds Tryz.pinned (OpenSpec.ofChange collectorSessionsWrong)

/-- 'stockyardlaw40.CollectorSafe': WHATEVER THE INPUT: true; the input reads as it did. -/
def collectorSafeSpec : ChangeSpec := { name := "collectorSafe", fn := fun _ => fun
  | [d] => { results := [.lit (.bool true)], args := [d] }
  | _ => none }
def collectorSafeRow : OpenClaim := { program := "yteabgcollokgjaagreatdoor", sum := "c71b94b8e7ab36063c1e8654d24d87d0fd98ed4f3e057a4a7eb8d2970f984351", func := "stockyard/stockyardlaw40.CollectorSafe", spec := "collectorSafe", inPlace := ["maps.clone"], unfollowed := true, recurses := true, named := ["strconv.ErrSyntax", "strconv.ErrRange", "internal/strconv.uint64pow10", "math/bits.deBruijn32tab", "math/bits.deBruijn64tab"], plainKeys := false, apart := false, laid := [("math/bits.deBruijn32tab", laid_math_bits_deBruijn32tab), ("math/bits.deBruijn64tab", laid_math_bits_deBruijn64tab), ("internal/strconv.uint64pow10", laid_internal_strconv_uint64pow10), ("strconv.ErrRange", laid_strconv_ErrRange), ("strconv.ErrSyntax", laid_strconv_ErrSyntax)] }
def CollectorSafeSaid : Prop := collectorSafeRow.holds Tryz.pinned (OpenSpec.ofChange collectorSafeSpec)

/-- ITS FALSE NEIGHBOUR: 'it returns false'. Refute it at one input. -/
def collectorSafeWrong : ChangeSpec := { name := "collectorSafe", fn := fun _ => fun
  | [d] => { results := [.lit (.bool false)], args := [d] }
  | _ => none }
def CollectorSafeWrongFalsely : Prop := collectorSafeRow.holds Tryz.pinned (OpenSpec.ofChange collectorSafeWrong)

/-- 'stockyardlaw40.CollectorLive': WHATEVER THE INPUT: true; the input reads as it did. -/
def collectorLiveSpec : ChangeSpec := { name := "collectorLive", fn := fun _ => fun
  | [d1, d2, d3] => { results := [.lit (.bool true)], args := [d1, d2, d3] }
  | _ => none }
def collectorLiveRow : OpenClaim := { program := "yteabgcollokgjaagreatdoor", sum := "c71b94b8e7ab36063c1e8654d24d87d0fd98ed4f3e057a4a7eb8d2970f984351", func := "stockyard/stockyardlaw40.CollectorLive", spec := "collectorLive", inPlace := ["maps.clone"], unfollowed := true, recurses := true, named := ["strconv.ErrSyntax", "strconv.ErrRange", "internal/strconv.uint64pow10", "math/bits.deBruijn32tab", "math/bits.deBruijn64tab"], plainKeys := false, apart := false, laid := [("math/bits.deBruijn32tab", laid_math_bits_deBruijn32tab), ("math/bits.deBruijn64tab", laid_math_bits_deBruijn64tab), ("internal/strconv.uint64pow10", laid_internal_strconv_uint64pow10), ("strconv.ErrRange", laid_strconv_ErrRange), ("strconv.ErrSyntax", laid_strconv_ErrSyntax)] }
def CollectorLiveSaid : Prop := collectorLiveRow.holds Tryz.pinned (OpenSpec.ofChange collectorLiveSpec)

/-- ITS FALSE NEIGHBOUR: 'it returns false'. Refute it at one input. -/
def collectorLiveWrong : ChangeSpec := { name := "collectorLive", fn := fun _ => fun
  | [d1, d2, d3] => { results := [.lit (.bool false)], args := [d1, d2, d3] }
  | _ => none }
def CollectorLiveWrongFalsely : Prop := collectorLiveRow.holds Tryz.pinned (OpenSpec.ofChange collectorLiveWrong)

/-- 'stockyardlaw40.CollectorCrashes': WHATEVER THE INPUT: true; the input reads as it did. -/
def collectorCrashesSpec : ChangeSpec := { name := "collectorCrashes", fn := fun _ => fun
  | [d1, d2] => { results := [.lit (.bool true)], args := [d1, d2] }
  | _ => none }
def collectorCrashesRow : OpenClaim := { program := "yteabgcollokgjaagreatdoor", sum := "c71b94b8e7ab36063c1e8654d24d87d0fd98ed4f3e057a4a7eb8d2970f984351", func := "stockyard/stockyardlaw40.CollectorCrashes", spec := "collectorCrashes", inPlace := ["maps.clone"], unfollowed := true, recurses := true, named := ["strconv.ErrSyntax", "strconv.ErrRange", "internal/strconv.uint64pow10", "math/bits.deBruijn32tab", "math/bits.deBruijn64tab"], plainKeys := false, apart := false, laid := [("math/bits.deBruijn32tab", laid_math_bits_deBruijn32tab), ("math/bits.deBruijn64tab", laid_math_bits_deBruijn64tab), ("internal/strconv.uint64pow10", laid_internal_strconv_uint64pow10), ("strconv.ErrRange", laid_strconv_ErrRange), ("strconv.ErrSyntax", laid_strconv_ErrSyntax)] }
def CollectorCrashesSaid : Prop := collectorCrashesRow.holds Tryz.pinned (OpenSpec.ofChange collectorCrashesSpec)

/-- ITS FALSE NEIGHBOUR: 'it returns false'. Refute it at one input. -/
def collectorCrashesWrong : ChangeSpec := { name := "collectorCrashes", fn := fun _ => fun
  | [d1, d2] => { results := [.lit (.bool false)], args := [d1, d2] }
  | _ => none }
def CollectorCrashesWrongFalsely : Prop := collectorCrashesRow.holds Tryz.pinned (OpenSpec.ofChange collectorCrashesWrong)

/-- 'stockyardlaw40.CollectorUploads': WHATEVER THE INPUT: true; the input reads as it did. -/
def collectorUploadsSpec : ChangeSpec := { name := "collectorUploads", fn := fun _ => fun
  | [d] => { results := [.lit (.bool true)], args := [d] }
  | _ => none }
def collectorUploadsRow : OpenClaim := { program := "yteabgcollokgjaagreatdoor", sum := "c71b94b8e7ab36063c1e8654d24d87d0fd98ed4f3e057a4a7eb8d2970f984351", func := "stockyard/stockyardlaw40.CollectorUploads", spec := "collectorUploads", inPlace := ["maps.clone"], unfollowed := true, recurses := true, named := ["strconv.ErrSyntax", "strconv.ErrRange", "internal/strconv.uint64pow10", "math/bits.deBruijn32tab", "math/bits.deBruijn64tab"], plainKeys := false, apart := false, laid := [("math/bits.deBruijn32tab", laid_math_bits_deBruijn32tab), ("math/bits.deBruijn64tab", laid_math_bits_deBruijn64tab), ("internal/strconv.uint64pow10", laid_internal_strconv_uint64pow10), ("strconv.ErrRange", laid_strconv_ErrRange), ("strconv.ErrSyntax", laid_strconv_ErrSyntax)] }
def CollectorUploadsSaid : Prop := collectorUploadsRow.holds Tryz.pinned (OpenSpec.ofChange collectorUploadsSpec)

/-- ITS FALSE NEIGHBOUR: 'it returns false'. Refute it at one input. -/
def collectorUploadsWrong : ChangeSpec := { name := "collectorUploads", fn := fun _ => fun
  | [d] => { results := [.lit (.bool false)], args := [d] }
  | _ => none }
def CollectorUploadsWrongFalsely : Prop := collectorUploadsRow.holds Tryz.pinned (OpenSpec.ofChange collectorUploadsWrong)

/- THE SECOND FORM. 'bulk': how many values and letters a reading holds, each counted each time it is reached (what is shared counts as often as it is met; a slice's spare places count too). A statement '..UptoSaid' is the law's where the arguments, and the package variables that the reading takes, are together of bulk at most 1048576: NARROWER than '..Said'. Prove '..Said' where nothing that the law and all that it calls make is longer than what came in: it says more and counts as full. Else prove '..UptoSaid'. A law counts once. -/
mutual
def uptoBulk {H : Type} : DataW H → Nat
  | .lit (.string bytes) => bytes.length + 1
  | .lit _ => 1
  | .nil => 1
  | .ptr d => uptoBulk d + 1
  | .slice elems spare => uptoBulkAll elems + uptoBulkAll spare + 1
  | .agg parts => uptoBulkAll parts + 1
  | .iface _ d => uptoBulk d + 1
  | .map entries => uptoBulkEntries entries + 1
  | .held _ => 1
def uptoBulkAll {H : Type} : List (DataW H) → Nat
  | [] => 0
  | d :: r => uptoBulk d + uptoBulkAll r
def uptoBulkEntries {H : Type} : List (Lit × DataW H) → Nat
  | [] => 0
  | x :: r => uptoBulkEntry x + uptoBulkEntries r
def uptoBulkEntry {H : Type} : Lit × DataW H → Nat
  | (.string bytes, d) => bytes.length + uptoBulk d + 1
  | (_, d) => uptoBulk d + 1
 end
def uptoSmall : (H : Type) → List (DataW H) → Bool := fun _ ds => decide (uptoBulkAll ds ≤ 1048576)
def OpenSpec.upto (s : _root_.Go.ChangeSpec) : _root_.Go.OpenSpec := { _root_.Go.OpenSpec.ofChange s with cond := some uptoSmall }

/-- 'stockyardlaw33.ChunkstoreFull', WHERE WHAT IT READS IS OF BULK AT MOST 1048576: true; the input reads as it did. -/
def chunkstoreFullUptoRow : OpenClaim := { program := "yteabgcollokgjaagreatdoor", sum := "c71b94b8e7ab36063c1e8654d24d87d0fd98ed4f3e057a4a7eb8d2970f984351", func := "stockyard/stockyardlaw33.ChunkstoreFull", spec := "chunkstoreFull", inPlace := ["maps.clone"], unfollowed := true, recurses := true, named := ["strconv.ErrSyntax", "strconv.ErrRange", "internal/strconv.uint64pow10", "math/bits.deBruijn32tab", "math/bits.deBruijn64tab"], plainKeys := false, apart := false, laid := [("math/bits.deBruijn32tab", laid_math_bits_deBruijn32tab), ("math/bits.deBruijn64tab", laid_math_bits_deBruijn64tab), ("internal/strconv.uint64pow10", laid_internal_strconv_uint64pow10), ("strconv.ErrRange", laid_strconv_ErrRange), ("strconv.ErrSyntax", laid_strconv_ErrSyntax)], narrowed := true }
def ChunkstoreFullUptoSaid : Prop := chunkstoreFullUptoRow.holds Tryz.pinned (OpenSpec.upto chunkstoreFullSpec)

/-- 'stockyardlaw33.ChunkstoreNames', WHERE WHAT IT READS IS OF BULK AT MOST 1048576: true; the input reads as it did. -/
def chunkstoreNamesUptoRow : OpenClaim := { program := "yteabgcollokgjaagreatdoor", sum := "c71b94b8e7ab36063c1e8654d24d87d0fd98ed4f3e057a4a7eb8d2970f984351", func := "stockyard/stockyardlaw33.ChunkstoreNames", spec := "chunkstoreNames", inPlace := ["maps.clone"], unfollowed := true, recurses := true, named := ["strconv.ErrSyntax", "strconv.ErrRange", "internal/strconv.uint64pow10", "math/bits.deBruijn32tab", "math/bits.deBruijn64tab"], plainKeys := false, apart := false, laid := [("math/bits.deBruijn32tab", laid_math_bits_deBruijn32tab), ("math/bits.deBruijn64tab", laid_math_bits_deBruijn64tab), ("internal/strconv.uint64pow10", laid_internal_strconv_uint64pow10), ("strconv.ErrRange", laid_strconv_ErrRange), ("strconv.ErrSyntax", laid_strconv_ErrSyntax)], narrowed := true }
def ChunkstoreNamesUptoSaid : Prop := chunkstoreNamesUptoRow.holds Tryz.pinned (OpenSpec.upto chunkstoreNamesSpec)

/-- 'stockyardlaw33.ChunkstoreTrue', WHERE WHAT IT READS IS OF BULK AT MOST 1048576: true; the input reads as it did. -/
def chunkstoreTrueUptoRow : OpenClaim := { program := "yteabgcollokgjaagreatdoor", sum := "c71b94b8e7ab36063c1e8654d24d87d0fd98ed4f3e057a4a7eb8d2970f984351", func := "stockyard/stockyardlaw33.ChunkstoreTrue", spec := "chunkstoreTrue", inPlace := ["maps.clone"], unfollowed := true, recurses := true, named := ["strconv.ErrSyntax", "strconv.ErrRange", "internal/strconv.uint64pow10", "math/bits.deBruijn32tab", "math/bits.deBruijn64tab"], plainKeys := false, apart := false, laid := [("math/bits.deBruijn32tab", laid_math_bits_deBruijn32tab), ("math/bits.deBruijn64tab", laid_math_bits_deBruijn64tab), ("internal/strconv.uint64pow10", laid_internal_strconv_uint64pow10), ("strconv.ErrRange", laid_strconv_ErrRange), ("strconv.ErrSyntax", laid_strconv_ErrSyntax)], narrowed := true }
def ChunkstoreTrueUptoSaid : Prop := chunkstoreTrueUptoRow.holds Tryz.pinned (OpenSpec.upto chunkstoreTrueSpec)

/-- 'stockyardlaw33.ChunkstoreApart', WHERE WHAT IT READS IS OF BULK AT MOST 1048576: true; the input reads as it did. -/
def chunkstoreApartUptoRow : OpenClaim := { program := "yteabgcollokgjaagreatdoor", sum := "c71b94b8e7ab36063c1e8654d24d87d0fd98ed4f3e057a4a7eb8d2970f984351", func := "stockyard/stockyardlaw33.ChunkstoreApart", spec := "chunkstoreApart", inPlace := ["maps.clone"], unfollowed := true, recurses := true, named := ["strconv.ErrSyntax", "strconv.ErrRange", "internal/strconv.uint64pow10", "math/bits.deBruijn32tab", "math/bits.deBruijn64tab"], plainKeys := false, apart := false, laid := [("math/bits.deBruijn32tab", laid_math_bits_deBruijn32tab), ("math/bits.deBruijn64tab", laid_math_bits_deBruijn64tab), ("internal/strconv.uint64pow10", laid_internal_strconv_uint64pow10), ("strconv.ErrRange", laid_strconv_ErrRange), ("strconv.ErrSyntax", laid_strconv_ErrSyntax)], narrowed := true }
def ChunkstoreApartUptoSaid : Prop := chunkstoreApartUptoRow.holds Tryz.pinned (OpenSpec.upto chunkstoreApartSpec)

/-- 'stockyardlaw33.ChunkstorePlays', WHERE WHAT IT READS IS OF BULK AT MOST 1048576: true; the input reads as it did. -/
def chunkstorePlaysUptoRow : OpenClaim := { program := "yteabgcollokgjaagreatdoor", sum := "c71b94b8e7ab36063c1e8654d24d87d0fd98ed4f3e057a4a7eb8d2970f984351", func := "stockyard/stockyardlaw33.ChunkstorePlays", spec := "chunkstorePlays", inPlace := ["maps.clone"], unfollowed := true, recurses := true, named := ["strconv.ErrSyntax", "strconv.ErrRange", "internal/strconv.uint64pow10", "math/bits.deBruijn32tab", "math/bits.deBruijn64tab"], plainKeys := false, apart := false, laid := [("math/bits.deBruijn32tab", laid_math_bits_deBruijn32tab), ("math/bits.deBruijn64tab", laid_math_bits_deBruijn64tab), ("internal/strconv.uint64pow10", laid_internal_strconv_uint64pow10), ("strconv.ErrRange", laid_strconv_ErrRange), ("strconv.ErrSyntax", laid_strconv_ErrSyntax)], narrowed := true }
def ChunkstorePlaysUptoSaid : Prop := chunkstorePlaysUptoRow.holds Tryz.pinned (OpenSpec.upto chunkstorePlaysSpec)

/-- 'stockyardlaw33.ChunkstoreHeals', WHERE WHAT IT READS IS OF BULK AT MOST 1048576: true; the input reads as it did. -/
def chunkstoreHealsUptoRow : OpenClaim := { program := "yteabgcollokgjaagreatdoor", sum := "c71b94b8e7ab36063c1e8654d24d87d0fd98ed4f3e057a4a7eb8d2970f984351", func := "stockyard/stockyardlaw33.ChunkstoreHeals", spec := "chunkstoreHeals", inPlace := ["maps.clone"], unfollowed := true, recurses := true, named := ["strconv.ErrSyntax", "strconv.ErrRange", "internal/strconv.uint64pow10", "math/bits.deBruijn32tab", "math/bits.deBruijn64tab"], plainKeys := false, apart := false, laid := [("math/bits.deBruijn32tab", laid_math_bits_deBruijn32tab), ("math/bits.deBruijn64tab", laid_math_bits_deBruijn64tab), ("internal/strconv.uint64pow10", laid_internal_strconv_uint64pow10), ("strconv.ErrRange", laid_strconv_ErrRange), ("strconv.ErrSyntax", laid_strconv_ErrSyntax)], narrowed := true }
def ChunkstoreHealsUptoSaid : Prop := chunkstoreHealsUptoRow.holds Tryz.pinned (OpenSpec.upto chunkstoreHealsSpec)

/-- 'stockyardlaw33.ChunkstoreKeeps', WHERE WHAT IT READS IS OF BULK AT MOST 1048576: true; the input reads as it did. -/
def chunkstoreKeepsUptoRow : OpenClaim := { program := "yteabgcollokgjaagreatdoor", sum := "c71b94b8e7ab36063c1e8654d24d87d0fd98ed4f3e057a4a7eb8d2970f984351", func := "stockyard/stockyardlaw33.ChunkstoreKeeps", spec := "chunkstoreKeeps", inPlace := ["maps.clone"], unfollowed := true, recurses := true, named := ["strconv.ErrSyntax", "strconv.ErrRange", "internal/strconv.uint64pow10", "math/bits.deBruijn32tab", "math/bits.deBruijn64tab"], plainKeys := false, apart := false, laid := [("math/bits.deBruijn32tab", laid_math_bits_deBruijn32tab), ("math/bits.deBruijn64tab", laid_math_bits_deBruijn64tab), ("internal/strconv.uint64pow10", laid_internal_strconv_uint64pow10), ("strconv.ErrRange", laid_strconv_ErrRange), ("strconv.ErrSyntax", laid_strconv_ErrSyntax)], narrowed := true }
def ChunkstoreKeepsUptoSaid : Prop := chunkstoreKeepsUptoRow.holds Tryz.pinned (OpenSpec.upto chunkstoreKeepsSpec)

/-- 'stockyardlaw33.ChunkstoreOnce', WHERE WHAT IT READS IS OF BULK AT MOST 1048576: true; the input reads as it did. -/
def chunkstoreOnceUptoRow : OpenClaim := { program := "yteabgcollokgjaagreatdoor", sum := "c71b94b8e7ab36063c1e8654d24d87d0fd98ed4f3e057a4a7eb8d2970f984351", func := "stockyard/stockyardlaw33.ChunkstoreOnce", spec := "chunkstoreOnce", inPlace := ["maps.clone"], unfollowed := true, recurses := true, named := ["strconv.ErrSyntax", "strconv.ErrRange", "internal/strconv.uint64pow10", "math/bits.deBruijn32tab", "math/bits.deBruijn64tab"], plainKeys := false, apart := false, laid := [("math/bits.deBruijn32tab", laid_math_bits_deBruijn32tab), ("math/bits.deBruijn64tab", laid_math_bits_deBruijn64tab), ("internal/strconv.uint64pow10", laid_internal_strconv_uint64pow10), ("strconv.ErrRange", laid_strconv_ErrRange), ("strconv.ErrSyntax", laid_strconv_ErrSyntax)], narrowed := true }
def ChunkstoreOnceUptoSaid : Prop := chunkstoreOnceUptoRow.holds Tryz.pinned (OpenSpec.upto chunkstoreOnceSpec)

/-- 'stockyardlaw33.ChunkstoreContents', WHERE WHAT IT READS IS OF BULK AT MOST 1048576: true; the input reads as it did. -/
def chunkstoreContentsUptoRow : OpenClaim := { program := "yteabgcollokgjaagreatdoor", sum := "c71b94b8e7ab36063c1e8654d24d87d0fd98ed4f3e057a4a7eb8d2970f984351", func := "stockyard/stockyardlaw33.ChunkstoreContents", spec := "chunkstoreContents", inPlace := ["maps.clone"], unfollowed := true, recurses := true, named := ["strconv.ErrSyntax", "strconv.ErrRange", "internal/strconv.uint64pow10", "math/bits.deBruijn32tab", "math/bits.deBruijn64tab"], plainKeys := false, apart := false, laid := [("math/bits.deBruijn32tab", laid_math_bits_deBruijn32tab), ("math/bits.deBruijn64tab", laid_math_bits_deBruijn64tab), ("internal/strconv.uint64pow10", laid_internal_strconv_uint64pow10), ("strconv.ErrRange", laid_strconv_ErrRange), ("strconv.ErrSyntax", laid_strconv_ErrSyntax)], narrowed := true }
def ChunkstoreContentsUptoSaid : Prop := chunkstoreContentsUptoRow.holds Tryz.pinned (OpenSpec.upto chunkstoreContentsSpec)

/-- 'stockyardlaw40.CollectorSteps', WHERE WHAT IT READS IS OF BULK AT MOST 1048576: true; the input reads as it did. -/
def collectorStepsUptoRow : OpenClaim := { program := "yteabgcollokgjaagreatdoor", sum := "c71b94b8e7ab36063c1e8654d24d87d0fd98ed4f3e057a4a7eb8d2970f984351", func := "stockyard/stockyardlaw40.CollectorSteps", spec := "collectorSteps", inPlace := ["maps.clone"], unfollowed := true, recurses := true, named := ["strconv.ErrSyntax", "strconv.ErrRange", "internal/strconv.uint64pow10", "math/bits.deBruijn32tab", "math/bits.deBruijn64tab"], plainKeys := false, apart := false, laid := [("math/bits.deBruijn32tab", laid_math_bits_deBruijn32tab), ("math/bits.deBruijn64tab", laid_math_bits_deBruijn64tab), ("internal/strconv.uint64pow10", laid_internal_strconv_uint64pow10), ("strconv.ErrRange", laid_strconv_ErrRange), ("strconv.ErrSyntax", laid_strconv_ErrSyntax)], narrowed := true }
def CollectorStepsUptoSaid : Prop := collectorStepsUptoRow.holds Tryz.pinned (OpenSpec.upto collectorStepsSpec)

/-- 'stockyardlaw40.CollectorPlays', WHERE WHAT IT READS IS OF BULK AT MOST 1048576: true; the input reads as it did. -/
def collectorPlaysUptoRow : OpenClaim := { program := "yteabgcollokgjaagreatdoor", sum := "c71b94b8e7ab36063c1e8654d24d87d0fd98ed4f3e057a4a7eb8d2970f984351", func := "stockyard/stockyardlaw40.CollectorPlays", spec := "collectorPlays", inPlace := ["maps.clone"], unfollowed := true, recurses := true, named := ["strconv.ErrSyntax", "strconv.ErrRange", "internal/strconv.uint64pow10", "math/bits.deBruijn32tab", "math/bits.deBruijn64tab"], plainKeys := false, apart := false, laid := [("math/bits.deBruijn32tab", laid_math_bits_deBruijn32tab), ("math/bits.deBruijn64tab", laid_math_bits_deBruijn64tab), ("internal/strconv.uint64pow10", laid_internal_strconv_uint64pow10), ("strconv.ErrRange", laid_strconv_ErrRange), ("strconv.ErrSyntax", laid_strconv_ErrSyntax)], narrowed := true }
def CollectorPlaysUptoSaid : Prop := collectorPlaysUptoRow.holds Tryz.pinned (OpenSpec.upto collectorPlaysSpec)

/-- 'stockyardlaw40.CollectorEnds', WHERE WHAT IT READS IS OF BULK AT MOST 1048576: true; the input reads as it did. -/
def collectorEndsUptoRow : OpenClaim := { program := "yteabgcollokgjaagreatdoor", sum := "c71b94b8e7ab36063c1e8654d24d87d0fd98ed4f3e057a4a7eb8d2970f984351", func := "stockyard/stockyardlaw40.CollectorEnds", spec := "collectorEnds", inPlace := ["maps.clone"], unfollowed := true, recurses := true, named := ["strconv.ErrSyntax", "strconv.ErrRange", "internal/strconv.uint64pow10", "math/bits.deBruijn32tab", "math/bits.deBruijn64tab"], plainKeys := false, apart := false, laid := [("math/bits.deBruijn32tab", laid_math_bits_deBruijn32tab), ("math/bits.deBruijn64tab", laid_math_bits_deBruijn64tab), ("internal/strconv.uint64pow10", laid_internal_strconv_uint64pow10), ("strconv.ErrRange", laid_strconv_ErrRange), ("strconv.ErrSyntax", laid_strconv_ErrSyntax)], narrowed := true }
def CollectorEndsUptoSaid : Prop := collectorEndsUptoRow.holds Tryz.pinned (OpenSpec.upto collectorEndsSpec)

/-- 'stockyardlaw40.CollectorSessions', WHERE WHAT IT READS IS OF BULK AT MOST 1048576: true; the input reads as it did. -/
def collectorSessionsUptoRow : OpenClaim := { program := "yteabgcollokgjaagreatdoor", sum := "c71b94b8e7ab36063c1e8654d24d87d0fd98ed4f3e057a4a7eb8d2970f984351", func := "stockyard/stockyardlaw40.CollectorSessions", spec := "collectorSessions", inPlace := ["maps.clone"], unfollowed := true, recurses := true, named := ["strconv.ErrSyntax", "strconv.ErrRange", "internal/strconv.uint64pow10", "math/bits.deBruijn32tab", "math/bits.deBruijn64tab"], plainKeys := false, apart := false, laid := [("math/bits.deBruijn32tab", laid_math_bits_deBruijn32tab), ("math/bits.deBruijn64tab", laid_math_bits_deBruijn64tab), ("internal/strconv.uint64pow10", laid_internal_strconv_uint64pow10), ("strconv.ErrRange", laid_strconv_ErrRange), ("strconv.ErrSyntax", laid_strconv_ErrSyntax)], narrowed := true }
def CollectorSessionsUptoSaid : Prop := collectorSessionsUptoRow.holds Tryz.pinned (OpenSpec.upto collectorSessionsSpec)

/-- 'stockyardlaw40.CollectorSafe', WHERE WHAT IT READS IS OF BULK AT MOST 1048576: true; the input reads as it did. -/
def collectorSafeUptoRow : OpenClaim := { program := "yteabgcollokgjaagreatdoor", sum := "c71b94b8e7ab36063c1e8654d24d87d0fd98ed4f3e057a4a7eb8d2970f984351", func := "stockyard/stockyardlaw40.CollectorSafe", spec := "collectorSafe", inPlace := ["maps.clone"], unfollowed := true, recurses := true, named := ["strconv.ErrSyntax", "strconv.ErrRange", "internal/strconv.uint64pow10", "math/bits.deBruijn32tab", "math/bits.deBruijn64tab"], plainKeys := false, apart := false, laid := [("math/bits.deBruijn32tab", laid_math_bits_deBruijn32tab), ("math/bits.deBruijn64tab", laid_math_bits_deBruijn64tab), ("internal/strconv.uint64pow10", laid_internal_strconv_uint64pow10), ("strconv.ErrRange", laid_strconv_ErrRange), ("strconv.ErrSyntax", laid_strconv_ErrSyntax)], narrowed := true }
def CollectorSafeUptoSaid : Prop := collectorSafeUptoRow.holds Tryz.pinned (OpenSpec.upto collectorSafeSpec)

/-- 'stockyardlaw40.CollectorLive', WHERE WHAT IT READS IS OF BULK AT MOST 1048576: true; the input reads as it did. -/
def collectorLiveUptoRow : OpenClaim := { program := "yteabgcollokgjaagreatdoor", sum := "c71b94b8e7ab36063c1e8654d24d87d0fd98ed4f3e057a4a7eb8d2970f984351", func := "stockyard/stockyardlaw40.CollectorLive", spec := "collectorLive", inPlace := ["maps.clone"], unfollowed := true, recurses := true, named := ["strconv.ErrSyntax", "strconv.ErrRange", "internal/strconv.uint64pow10", "math/bits.deBruijn32tab", "math/bits.deBruijn64tab"], plainKeys := false, apart := false, laid := [("math/bits.deBruijn32tab", laid_math_bits_deBruijn32tab), ("math/bits.deBruijn64tab", laid_math_bits_deBruijn64tab), ("internal/strconv.uint64pow10", laid_internal_strconv_uint64pow10), ("strconv.ErrRange", laid_strconv_ErrRange), ("strconv.ErrSyntax", laid_strconv_ErrSyntax)], narrowed := true }
def CollectorLiveUptoSaid : Prop := collectorLiveUptoRow.holds Tryz.pinned (OpenSpec.upto collectorLiveSpec)

/-- 'stockyardlaw40.CollectorCrashes', WHERE WHAT IT READS IS OF BULK AT MOST 1048576: true; the input reads as it did. -/
def collectorCrashesUptoRow : OpenClaim := { program := "yteabgcollokgjaagreatdoor", sum := "c71b94b8e7ab36063c1e8654d24d87d0fd98ed4f3e057a4a7eb8d2970f984351", func := "stockyard/stockyardlaw40.CollectorCrashes", spec := "collectorCrashes", inPlace := ["maps.clone"], unfollowed := true, recurses := true, named := ["strconv.ErrSyntax", "strconv.ErrRange", "internal/strconv.uint64pow10", "math/bits.deBruijn32tab", "math/bits.deBruijn64tab"], plainKeys := false, apart := false, laid := [("math/bits.deBruijn32tab", laid_math_bits_deBruijn32tab), ("math/bits.deBruijn64tab", laid_math_bits_deBruijn64tab), ("internal/strconv.uint64pow10", laid_internal_strconv_uint64pow10), ("strconv.ErrRange", laid_strconv_ErrRange), ("strconv.ErrSyntax", laid_strconv_ErrSyntax)], narrowed := true }
def CollectorCrashesUptoSaid : Prop := collectorCrashesUptoRow.holds Tryz.pinned (OpenSpec.upto collectorCrashesSpec)

/-- 'stockyardlaw40.CollectorUploads', WHERE WHAT IT READS IS OF BULK AT MOST 1048576: true; the input reads as it did. -/
def collectorUploadsUptoRow : OpenClaim := { program := "yteabgcollokgjaagreatdoor", sum := "c71b94b8e7ab36063c1e8654d24d87d0fd98ed4f3e057a4a7eb8d2970f984351", func := "stockyard/stockyardlaw40.CollectorUploads", spec := "collectorUploads", inPlace := ["maps.clone"], unfollowed := true, recurses := true, named := ["strconv.ErrSyntax", "strconv.ErrRange", "internal/strconv.uint64pow10", "math/bits.deBruijn32tab", "math/bits.deBruijn64tab"], plainKeys := false, apart := false, laid := [("math/bits.deBruijn32tab", laid_math_bits_deBruijn32tab), ("math/bits.deBruijn64tab", laid_math_bits_deBruijn64tab), ("internal/strconv.uint64pow10", laid_internal_strconv_uint64pow10), ("strconv.ErrRange", laid_strconv_ErrRange), ("strconv.ErrSyntax", laid_strconv_ErrSyntax)], narrowed := true }
def CollectorUploadsUptoSaid : Prop := collectorUploadsUptoRow.holds Tryz.pinned (OpenSpec.upto collectorUploadsSpec)

end Rows
end Go.Proofs.YteabgcollokgjaaGreatDoor
