/- The card's own closed facts of CollectorPlays. -/
import Derived.Test.YteabgcollokgjaaGreatDoorCards
import Derived.Test.YteabgcollokgjaaGreatDoorQ43
import Derived.SevenTiedAt
import Derived.KernelRfl
set_option linter.unusedSimpArgs false
set_option linter.unusedVariables false
set_option maxRecDepth 100000
set_option maxHeartbeats 32000000
namespace Go.Proofs.YteabgcollokgjaaGreatDoor.lawCollectorPlays
section
open Go
theorem cardWf:Rows.collectorPlaysRow.wfByText (OpenSpec.ofChange Rows.collectorPlaysSpec)=true:=by kernel_rfl
theorem cardGoes:false=Rows.collectorPlaysRow.goesBy Tryz.prog:=by kernel_rfl
theorem named:Tryz.prog.funcNamed "stockyard/stockyardlaw40.CollectorPlays"=some 13:=by kernel_rfl
theorem noStand:([47].all fun u=> !Tryz.prog.wantsStandIn u)=true:=by kernel_rfl
theorem inst:Tryz.f13.isInstance Tryz.prog Rows.collectorPlaysRow.origin Rows.collectorPlaysRow.targs:=of_decide_eq_true (by kernel_rfl)
end
end Go.Proofs.YteabgcollokgjaaGreatDoor.lawCollectorPlays
