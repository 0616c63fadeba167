/- The card's own closed facts of ChunkstoreOnce. -/
import Derived.Test.YteabgcollokgjaaGreatDoorCards
import Derived.Test.YteabgcollokgjaaGreatDoorQC32
import Derived.SevenTiedAt
import Derived.KernelRfl
set_option linter.unusedSimpArgs false
set_option linter.unusedVariables false
set_option maxRecDepth 100000
set_option maxHeartbeats 32000000
namespace Go.Proofs.YteabgcollokgjaaGreatDoor.lawChunkstoreOnce
section
open Go
theorem cardWf:Rows.chunkstoreOnceRow.wfByText (OpenSpec.ofChange Rows.chunkstoreOnceSpec)=true:=by kernel_rfl
theorem cardGoes:false=Rows.chunkstoreOnceRow.goesBy Tryz.prog:=by kernel_rfl
theorem named:Tryz.prog.funcNamed "stockyard/stockyardlaw33.ChunkstoreOnce"=some 10:=by kernel_rfl
theorem noStand:([47].all fun u=> !Tryz.prog.wantsStandIn u)=true:=by kernel_rfl
theorem inst:Tryz.f10.isInstance Tryz.prog Rows.chunkstoreOnceRow.origin Rows.chunkstoreOnceRow.targs:=of_decide_eq_true (by kernel_rfl)
end
end Go.Proofs.YteabgcollokgjaaGreatDoor.lawChunkstoreOnce
