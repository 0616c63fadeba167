/- The card's own closed facts of ChunkstoreTrue. -/
import Derived.Test.YteabgcollokgjaaGreatDoorCards
import Derived.Test.YteabgcollokgjaaGreatDoorQ34
import Derived.SevenTiedAt
import Derived.KernelRfl
set_option linter.unusedSimpArgs false
set_option linter.unusedVariables false
set_option maxRecDepth 100000
set_option maxHeartbeats 32000000
namespace Go.Proofs.YteabgcollokgjaaGreatDoor.lawChunkstoreTrue
section
open Go
theorem cardWf:Rows.chunkstoreTrueRow.wfByText (OpenSpec.ofChange Rows.chunkstoreTrueSpec)=true:=by kernel_rfl
theorem cardGoes:false=Rows.chunkstoreTrueRow.goesBy Tryz.prog:=by kernel_rfl
theorem named:Tryz.prog.funcNamed "stockyard/stockyardlaw33.ChunkstoreTrue"=some 5:=by kernel_rfl
theorem noStand:([47,47].all fun u=> !Tryz.prog.wantsStandIn u)=true:=by kernel_rfl
theorem inst:Tryz.f5.isInstance Tryz.prog Rows.chunkstoreTrueRow.origin Rows.chunkstoreTrueRow.targs:=of_decide_eq_true (by kernel_rfl)
end
end Go.Proofs.YteabgcollokgjaaGreatDoor.lawChunkstoreTrue
