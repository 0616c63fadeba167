/- The card's own closed facts of CollectorSessions. -/
import Derived.Test.YteabgcollokgjaaGreatDoorCards
import Derived.Test.YteabgcollokgjaaGreatDoorQ34
import Derived.SevenTiedAt
import Derived.KernelRfl
namespace Go.Proofs.YteabgcollokgjaaGreatDoor.lawCollectorSessions
open Go
theorem cardWf : Rows.collectorSessionsRow.wfByText (OpenSpec.ofChange Rows.collectorSessionsSpec) = true := by kernel_rfl
theorem cardGoes : false = Rows.collectorSessionsRow.goesBy Tryz.prog := by kernel_rfl
theorem named : Tryz.prog.funcNamed "stockyard/stockyardlaw40.CollectorSessions" = some 15 := by kernel_rfl
theorem noStand : ([47, 3].all fun u => !Tryz.prog.wantsStandIn u) = true := by kernel_rfl
theorem inst : Tryz.f15.isInstance Tryz.prog Rows.collectorSessionsRow.origin Rows.collectorSessionsRow.targs := of_decide_eq_true (by kernel_rfl)
end Go.Proofs.YteabgcollokgjaaGreatDoor.lawCollectorSessions
