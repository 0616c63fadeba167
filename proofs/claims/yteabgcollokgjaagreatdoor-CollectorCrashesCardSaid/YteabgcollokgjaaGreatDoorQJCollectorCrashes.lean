/- The card's own closed facts of CollectorCrashes. -/
import Derived.Test.YteabgcollokgjaaGreatDoorCards
import Derived.Test.YteabgcollokgjaaGreatDoorQB41
import Derived.SevenTiedAt
import Derived.KernelRfl
set_option linter.unusedSimpArgs false
set_option linter.unusedVariables false
set_option maxRecDepth 100000
set_option maxHeartbeats 32000000
namespace Go.Proofs.YteabgcollokgjaaGreatDoor.lawCollectorCrashes
section
open Go
theorem cardWf:Rows.collectorCrashesRow.wfByText (OpenSpec.ofChange Rows.collectorCrashesSpec)=true:=by kernel_rfl
theorem cardGoes:false=Rows.collectorCrashesRow.goesBy Tryz.prog:=by kernel_rfl
theorem named:Tryz.prog.funcNamed "stockyard/stockyardlaw40.CollectorCrashes"=some 18:=by kernel_rfl
theorem noStand:([47,3].all fun u=> !Tryz.prog.wantsStandIn u)=true:=by kernel_rfl
theorem inst:Tryz.f18.isInstance Tryz.prog Rows.collectorCrashesRow.origin Rows.collectorCrashesRow.targs:=of_decide_eq_true (by kernel_rfl)
end
end Go.Proofs.YteabgcollokgjaaGreatDoor.lawCollectorCrashes
