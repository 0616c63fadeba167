/- The card's own closed facts of ChunkstoreHeals. -/
import Derived.Test.YteabgcollokgjaaGreatDoorCards
import Derived.Test.YteabgcollokgjaaGreatDoorQH38
import Derived.SevenTiedAt
import Derived.KernelRfl
set_option linter.unusedSimpArgs false
set_option linter.unusedVariables false
set_option maxRecDepth 100000
set_option maxHeartbeats 32000000
namespace Go.Proofs.YteabgcollokgjaaGreatDoor.lawChunkstoreHeals
section
open Go
theorem cardWf:Rows.chunkstoreHealsRow.wfByText (OpenSpec.ofChange Rows.chunkstoreHealsSpec)=true:=by kernel_rfl
theorem cardGoes:false=Rows.chunkstoreHealsRow.goesBy Tryz.prog:=by kernel_rfl
theorem named:Tryz.prog.funcNamed "stockyard/stockyardlaw33.ChunkstoreHeals"=some 8:=by kernel_rfl
theorem noStand:([47,47].all fun u=> !Tryz.prog.wantsStandIn u)=true:=by kernel_rfl
theorem inst:Tryz.f8.isInstance Tryz.prog Rows.chunkstoreHealsRow.origin Rows.chunkstoreHealsRow.targs:=of_decide_eq_true (by kernel_rfl)
end
end Go.Proofs.YteabgcollokgjaaGreatDoor.lawChunkstoreHeals
