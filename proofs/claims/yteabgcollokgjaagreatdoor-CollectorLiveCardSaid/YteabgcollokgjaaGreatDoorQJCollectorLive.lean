/- The card's own closed facts of CollectorLive. -/
import Derived.Test.YteabgcollokgjaaGreatDoorCards
import Derived.Test.YteabgcollokgjaaGreatDoorQ30
import Derived.SevenTiedAt
import Derived.KernelRfl
set_option linter.unusedSimpArgs false
set_option linter.unusedVariables false
namespace Go.Proofs.YteabgcollokgjaaGreatDoor.lawCollectorLive
open Go
theorem cardWf : Rows.collectorLiveRow.wfByText (OpenSpec.ofChange Rows.collectorLiveSpec) = true := by kernel_rfl
theorem cardGoes : false = Rows.collectorLiveRow.goesBy Tryz.prog := by kernel_rfl
theorem named : Tryz.prog.funcNamed "stockyard/stockyardlaw40.CollectorLive" = some 17 := by kernel_rfl
theorem noStand : ([119, 38, 47].all fun u => !Tryz.prog.wantsStandIn u) = true := by kernel_rfl
theorem inst : Tryz.f17.isInstance Tryz.prog Rows.collectorLiveRow.origin Rows.collectorLiveRow.targs := of_decide_eq_true (by kernel_rfl)
end Go.Proofs.YteabgcollokgjaaGreatDoor.lawCollectorLive
