/- The card's own closed facts of ChunkstoreNames. -/
import Derived.Test.YteabgcollokgjaaGreatDoorCards
import Derived.Test.YteabgcollokgjaaGreatDoorQ32
import Derived.SevenTiedAt
import Derived.KernelRfl
namespace Go.Proofs.YteabgcollokgjaaGreatDoor.lawChunkstoreNames
open Go
theorem cardWf : Rows.chunkstoreNamesRow.wfByText (OpenSpec.ofChange Rows.chunkstoreNamesSpec) = true := by kernel_rfl
theorem cardGoes : false = Rows.chunkstoreNamesRow.goesBy Tryz.prog := by kernel_rfl
theorem named : Tryz.prog.funcNamed "stockyard/stockyardlaw33.ChunkstoreNames" = some 4 := by kernel_rfl
theorem noStand : ([9, 3, 5].all fun u => !Tryz.prog.wantsStandIn u) = true := by kernel_rfl
theorem inst : Tryz.f4.isInstance Tryz.prog Rows.chunkstoreNamesRow.origin Rows.chunkstoreNamesRow.targs := of_decide_eq_true (by kernel_rfl)
end Go.Proofs.YteabgcollokgjaaGreatDoor.lawChunkstoreNames
