/- The card's own closed facts of ChunkstoreContents. -/
import Derived.Test.YteabgcollokgjaaGreatDoorCards
import Derived.Test.YteabgcollokgjaaGreatDoorQ36
import Derived.SevenTiedAt
import Derived.KernelRfl
set_option linter.unusedSimpArgs false
set_option linter.unusedVariables false
set_option maxRecDepth 100000
set_option maxHeartbeats 32000000
namespace Go.Proofs.YteabgcollokgjaaGreatDoor.lawChunkstoreContents
section
open Go
theorem cardWf:Rows.chunkstoreContentsRow.wfByText (OpenSpec.ofChange Rows.chunkstoreContentsSpec)=true:=by kernel_rfl
theorem cardGoes:false=Rows.chunkstoreContentsRow.goesBy Tryz.prog:=by kernel_rfl
theorem named:Tryz.prog.funcNamed "stockyard/stockyardlaw33.ChunkstoreContents"=some 11:=by kernel_rfl
theorem noStand:([47].all fun u=> !Tryz.prog.wantsStandIn u)=true:=by kernel_rfl
theorem inst:Tryz.f11.isInstance Tryz.prog Rows.chunkstoreContentsRow.origin Rows.chunkstoreContentsRow.targs:=of_decide_eq_true (by kernel_rfl)
end
end Go.Proofs.YteabgcollokgjaaGreatDoor.lawChunkstoreContents
