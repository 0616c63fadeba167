/- The card's own closed facts of ChunkstoreApart. -/
import Derived.Test.YteabgcollokgjaaGreatDoorCards
import Derived.Test.YteabgcollokgjaaGreatDoorQA36
import Derived.SevenTiedAt
import Derived.KernelRfl
set_option linter.unusedSimpArgs false
set_option linter.unusedVariables false
set_option maxRecDepth 100000
set_option maxHeartbeats 32000000
namespace Go.Proofs.YteabgcollokgjaaGreatDoor.lawChunkstoreApart
section
open Go
theorem cardWf:Rows.chunkstoreApartRow.wfByText (OpenSpec.ofChange Rows.chunkstoreApartSpec)=true:=by kernel_rfl
theorem cardGoes:false=Rows.chunkstoreApartRow.goesBy Tryz.prog:=by kernel_rfl
theorem named:Tryz.prog.funcNamed "stockyard/stockyardlaw33.ChunkstoreApart"=some 6:=by kernel_rfl
theorem noStand:([47].all fun u=> !Tryz.prog.wantsStandIn u)=true:=by kernel_rfl
theorem inst:Tryz.f6.isInstance Tryz.prog Rows.chunkstoreApartRow.origin Rows.chunkstoreApartRow.targs:=of_decide_eq_true (by kernel_rfl)
end
end Go.Proofs.YteabgcollokgjaaGreatDoor.lawChunkstoreApart
