/- The card's own closed facts of CollectorUploads. -/
import Derived.Test.YteabgcollokgjaaGreatDoorCards
import Derived.Test.YteabgcollokgjaaGreatDoorQ37
import Derived.SevenTiedAt
import Derived.KernelRfl
set_option linter.unusedSimpArgs false
set_option linter.unusedVariables false
namespace Go.Proofs.YteabgcollokgjaaGreatDoor.lawCollectorUploads
open Go
theorem cardWf : Rows.collectorUploadsRow.wfByText (OpenSpec.ofChange Rows.collectorUploadsSpec) = true := by kernel_rfl
theorem cardGoes : false = Rows.collectorUploadsRow.goesBy Tryz.prog := by kernel_rfl
theorem named : Tryz.prog.funcNamed "stockyard/stockyardlaw40.CollectorUploads" = some 19 := by kernel_rfl
theorem noStand : ([47].all fun u => !Tryz.prog.wantsStandIn u) = true := by kernel_rfl
theorem inst : Tryz.f19.isInstance Tryz.prog Rows.collectorUploadsRow.origin Rows.collectorUploadsRow.targs := of_decide_eq_true (by kernel_rfl)
end Go.Proofs.YteabgcollokgjaaGreatDoor.lawCollectorUploads
