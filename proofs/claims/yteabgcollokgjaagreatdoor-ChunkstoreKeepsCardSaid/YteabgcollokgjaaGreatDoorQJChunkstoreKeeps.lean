/- The card's own closed facts of ChunkstoreKeeps. -/
import Derived.Test.YteabgcollokgjaaGreatDoorCards
import Derived.Test.YteabgcollokgjaaGreatDoorQP41
import Derived.SevenTiedAt
import Derived.KernelRfl
set_option linter.unusedSimpArgs false
set_option linter.unusedVariables false
set_option maxRecDepth 100000
set_option maxHeartbeats 32000000
namespace Go.Proofs.YteabgcollokgjaaGreatDoor.lawChunkstoreKeeps
section
open Go
theorem cardWf:Rows.chunkstoreKeepsRow.wfByText (OpenSpec.ofChange Rows.chunkstoreKeepsSpec)=true:=by kernel_rfl
theorem cardGoes:false=Rows.chunkstoreKeepsRow.goesBy Tryz.prog:=by kernel_rfl
theorem named:Tryz.prog.funcNamed "stockyard/stockyardlaw33.ChunkstoreKeeps"=some 9:=by kernel_rfl
theorem noStand:([47].all fun u=> !Tryz.prog.wantsStandIn u)=true:=by kernel_rfl
theorem inst:Tryz.f9.isInstance Tryz.prog Rows.chunkstoreKeepsRow.origin Rows.chunkstoreKeepsRow.targs:=of_decide_eq_true (by kernel_rfl)
end
end Go.Proofs.YteabgcollokgjaaGreatDoor.lawChunkstoreKeeps
