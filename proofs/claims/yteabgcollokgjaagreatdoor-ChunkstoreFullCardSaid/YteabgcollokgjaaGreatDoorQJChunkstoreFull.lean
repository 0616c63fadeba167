/- The card's own closed facts of ChunkstoreFull. -/
import Derived.Test.YteabgcollokgjaaGreatDoorCards
import Derived.Test.YteabgcollokgjaaGreatDoorQ32
import Derived.SevenTiedAt
import Derived.KernelRfl
namespace Go.Proofs.YteabgcollokgjaaGreatDoor.lawChunkstoreFull
open Go
theorem cardWf : Rows.chunkstoreFullRow.wfByText (OpenSpec.ofChange Rows.chunkstoreFullSpec) = true := by kernel_rfl
theorem cardGoes : false = Rows.chunkstoreFullRow.goesBy Tryz.prog := by kernel_rfl
theorem named : Tryz.prog.funcNamed "stockyard/stockyardlaw33.ChunkstoreFull" = some 3 := by kernel_rfl
theorem noStand : ([3].all fun u => !Tryz.prog.wantsStandIn u) = true := by kernel_rfl
theorem inst : Tryz.f3.isInstance Tryz.prog Rows.chunkstoreFullRow.origin Rows.chunkstoreFullRow.targs := of_decide_eq_true (by kernel_rfl)
end Go.Proofs.YteabgcollokgjaaGreatDoor.lawChunkstoreFull
