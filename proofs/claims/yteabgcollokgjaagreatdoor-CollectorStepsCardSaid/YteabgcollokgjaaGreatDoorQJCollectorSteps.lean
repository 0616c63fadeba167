/- The card's own closed facts of CollectorSteps. -/
import Derived.Test.YteabgcollokgjaaGreatDoorCards
import Derived.Test.YteabgcollokgjaaGreatDoorQ34
import Derived.SevenTiedAt
import Derived.KernelRfl
namespace Go.Proofs.YteabgcollokgjaaGreatDoor.lawCollectorSteps
open Go
theorem cardWf : Rows.collectorStepsRow.wfByText (OpenSpec.ofChange Rows.collectorStepsSpec) = true := by kernel_rfl
theorem cardGoes : false = Rows.collectorStepsRow.goesBy Tryz.prog := by kernel_rfl
theorem named : Tryz.prog.funcNamed "stockyard/stockyardlaw40.CollectorSteps" = some 12 := by kernel_rfl
theorem noStand : ([47].all fun u => !Tryz.prog.wantsStandIn u) = true := by kernel_rfl
theorem inst : Tryz.f12.isInstance Tryz.prog Rows.collectorStepsRow.origin Rows.collectorStepsRow.targs := of_decide_eq_true (by kernel_rfl)
end Go.Proofs.YteabgcollokgjaaGreatDoor.lawCollectorSteps
