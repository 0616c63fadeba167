/- The card's own closed facts of CollectorSafe. -/
import Derived.Test.YteabgcollokgjaaGreatDoorCards
import Derived.Test.YteabgcollokgjaaGreatDoorQ34
import Derived.SevenTiedAt
import Derived.KernelRfl
namespace Go.Proofs.YteabgcollokgjaaGreatDoor.lawCollectorSafe
open Go
theorem cardWf : Rows.collectorSafeRow.wfByText (OpenSpec.ofChange Rows.collectorSafeSpec) = true := by kernel_rfl
theorem cardGoes : false = Rows.collectorSafeRow.goesBy Tryz.prog := by kernel_rfl
theorem named : Tryz.prog.funcNamed "stockyard/stockyardlaw40.CollectorSafe" = some 16 := by kernel_rfl
theorem noStand : ([47].all fun u => !Tryz.prog.wantsStandIn u) = true := by kernel_rfl
theorem inst : Tryz.f16.isInstance Tryz.prog Rows.collectorSafeRow.origin Rows.collectorSafeRow.targs := of_decide_eq_true (by kernel_rfl)
end Go.Proofs.YteabgcollokgjaaGreatDoor.lawCollectorSafe
