/- The card's own closed facts of CollectorEnds. -/
import Derived.Test.YteabgcollokgjaaGreatDoorCards
import Derived.Test.YteabgcollokgjaaGreatDoorY43
import Derived.SevenTiedAt
import Derived.KernelRfl
set_option linter.unusedSimpArgs false
set_option linter.unusedVariables false
set_option maxRecDepth 100000
set_option maxHeartbeats 32000000
namespace Go.Proofs.YteabgcollokgjaaGreatDoor.lawCollectorEnds
section
open Go
theorem cardWf:Rows.collectorEndsRow.wfByText (OpenSpec.ofChange Rows.collectorEndsSpec)=true:=by kernel_rfl
theorem cardGoes:false=Rows.collectorEndsRow.goesBy Tryz.prog:=by kernel_rfl
theorem named:Tryz.prog.funcNamed "stockyard/stockyardlaw40.CollectorEnds"=some 14:=by kernel_rfl
theorem noStand:([47,3].all fun u=> !Tryz.prog.wantsStandIn u)=true:=by kernel_rfl
theorem inst:Tryz.f14.isInstance Tryz.prog Rows.collectorEndsRow.origin Rows.collectorEndsRow.targs:=of_decide_eq_true (by kernel_rfl)
end
end Go.Proofs.YteabgcollokgjaaGreatDoor.lawCollectorEnds
