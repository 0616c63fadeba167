/- The card's own closed facts of ChunkstorePlays. -/
import Derived.Test.YteabgcollokgjaaGreatDoorCards
import Derived.Test.YteabgcollokgjaaGreatDoorQ36
import Derived.SevenTiedAt
import Derived.KernelRfl
set_option linter.unusedSimpArgs false
set_option linter.unusedVariables false
set_option maxRecDepth 100000
set_option maxHeartbeats 32000000
namespace Go.Proofs.YteabgcollokgjaaGreatDoor.lawChunkstorePlays
section
open Go
theorem cardWf:Rows.chunkstorePlaysRow.wfByText (OpenSpec.ofChange Rows.chunkstorePlaysSpec)=true:=by kernel_rfl
theorem cardGoes:false=Rows.chunkstorePlaysRow.goesBy Tryz.prog:=by kernel_rfl
theorem named:Tryz.prog.funcNamed "stockyard/stockyardlaw33.ChunkstorePlays"=some 7:=by kernel_rfl
theorem noStand:([47].all fun u=> !Tryz.prog.wantsStandIn u)=true:=by kernel_rfl
theorem inst:Tryz.f7.isInstance Tryz.prog Rows.chunkstorePlaysRow.origin Rows.chunkstorePlaysRow.targs:=of_decide_eq_true (by kernel_rfl)
end
end Go.Proofs.YteabgcollokgjaaGreatDoor.lawChunkstorePlays
