/-
  DERIVED. GIVEN WITH THE SEED: THE CARDS: each row of YteabgcollokgjaaGreatDoorRows.lean that lists a variable, with what it lists TIED to the program's text (the seventh form; the later family's looks); each row that meets fmt, with fmt's text TOLD by the authors' own Lean function (tested against real Go, not proved from fmt's source: count such statements apart). THE CARD IS WHAT COUNTS. Prove the row's statement (the work); the ties are given (YteabgcollokgjaaGreatDoorTie.lean); close each card by the builder's one call (the guide's Derived/Test/ToyasCard.lean, 'card_holds'). Laid BY PROGRAM, IN A SANDBOX (cutbox-door.mjs). By AI agents, Wed Nov 11 2026. No macro, syntax, notation, axiom, sorry.
-/
import Derived.Test.YteabgcollokgjaaGreatDoorRows
import GoSem.ClaimSeven
namespace Go.Proofs.YteabgcollokgjaaGreatDoor
namespace Rows

/-- THE TIED CARD OF 'stockyardlaw33.ChunkstoreFull'. -/
def chunkstoreFullCard : Claim7 := { stood := { row := chunkstoreFullRow, standIns := [], harness := (true, "4a38bbb49ce63abfc4bef169534f954a347f1319075e6aeec9c8b86bb9d66d28"), looks := true }, kinds := [], alts := [], laidByText := true, laidKinds := [.data, .data, .data, .sentinel, .sentinel], laidTests := true, laidLooks := .later }
def ChunkstoreFullCardSaid : Prop := Claim7.holds Tryz.pinned (.plain (OpenSpec.ofChange chunkstoreFullSpec)) chunkstoreFullCard

/-- THE TIED CARD OF 'stockyardlaw33.ChunkstoreNames'. -/
def chunkstoreNamesCard : Claim7 := { stood := { row := chunkstoreNamesRow, standIns := [], harness := (true, "4a38bbb49ce63abfc4bef169534f954a347f1319075e6aeec9c8b86bb9d66d28"), looks := true }, kinds := [], alts := [], laidByText := true, laidKinds := [.data, .data, .data, .sentinel, .sentinel], laidTests := true, laidLooks := .later }
def ChunkstoreNamesCardSaid : Prop := Claim7.holds Tryz.pinned (.plain (OpenSpec.ofChange chunkstoreNamesSpec)) chunkstoreNamesCard

/-- THE TIED CARD OF 'stockyardlaw33.ChunkstoreTrue'. -/
def chunkstoreTrueCard : Claim7 := { stood := { row := chunkstoreTrueRow, standIns := [], harness := (true, "4a38bbb49ce63abfc4bef169534f954a347f1319075e6aeec9c8b86bb9d66d28"), looks := true }, kinds := [], alts := [], laidByText := true, laidKinds := [.data, .data, .data, .sentinel, .sentinel], laidTests := true, laidLooks := .later }
def ChunkstoreTrueCardSaid : Prop := Claim7.holds Tryz.pinned (.plain (OpenSpec.ofChange chunkstoreTrueSpec)) chunkstoreTrueCard

/-- THE TIED CARD OF 'stockyardlaw33.ChunkstoreApart'. -/
def chunkstoreApartCard : Claim7 := { stood := { row := chunkstoreApartRow, standIns := [], harness := (true, "4a38bbb49ce63abfc4bef169534f954a347f1319075e6aeec9c8b86bb9d66d28"), looks := true }, kinds := [], alts := [], laidByText := true, laidKinds := [.data, .data, .data, .sentinel, .sentinel], laidTests := true, laidLooks := .later }
def ChunkstoreApartCardSaid : Prop := Claim7.holds Tryz.pinned (.plain (OpenSpec.ofChange chunkstoreApartSpec)) chunkstoreApartCard

/-- THE TIED CARD OF 'stockyardlaw33.ChunkstorePlays'. -/
def chunkstorePlaysCard : Claim7 := { stood := { row := chunkstorePlaysRow, standIns := [], harness := (true, "4a38bbb49ce63abfc4bef169534f954a347f1319075e6aeec9c8b86bb9d66d28"), looks := true }, kinds := [], alts := [], laidByText := true, laidKinds := [.data, .data, .data, .sentinel, .sentinel], laidTests := true, laidLooks := .later }
def ChunkstorePlaysCardSaid : Prop := Claim7.holds Tryz.pinned (.plain (OpenSpec.ofChange chunkstorePlaysSpec)) chunkstorePlaysCard

/-- THE TIED CARD OF 'stockyardlaw33.ChunkstoreHeals'. -/
def chunkstoreHealsCard : Claim7 := { stood := { row := chunkstoreHealsRow, standIns := [], harness := (true, "4a38bbb49ce63abfc4bef169534f954a347f1319075e6aeec9c8b86bb9d66d28"), looks := true }, kinds := [], alts := [], laidByText := true, laidKinds := [.data, .data, .data, .sentinel, .sentinel], laidTests := true, laidLooks := .later }
def ChunkstoreHealsCardSaid : Prop := Claim7.holds Tryz.pinned (.plain (OpenSpec.ofChange chunkstoreHealsSpec)) chunkstoreHealsCard

/-- THE TIED CARD OF 'stockyardlaw33.ChunkstoreKeeps'. -/
def chunkstoreKeepsCard : Claim7 := { stood := { row := chunkstoreKeepsRow, standIns := [], harness := (true, "4a38bbb49ce63abfc4bef169534f954a347f1319075e6aeec9c8b86bb9d66d28"), looks := true }, kinds := [], alts := [], laidByText := true, laidKinds := [.data, .data, .data, .sentinel, .sentinel], laidTests := true, laidLooks := .later }
def ChunkstoreKeepsCardSaid : Prop := Claim7.holds Tryz.pinned (.plain (OpenSpec.ofChange chunkstoreKeepsSpec)) chunkstoreKeepsCard

/-- THE TIED CARD OF 'stockyardlaw33.ChunkstoreOnce'. -/
def chunkstoreOnceCard : Claim7 := { stood := { row := chunkstoreOnceRow, standIns := [], harness := (true, "4a38bbb49ce63abfc4bef169534f954a347f1319075e6aeec9c8b86bb9d66d28"), looks := true }, kinds := [], alts := [], laidByText := true, laidKinds := [.data, .data, .data, .sentinel, .sentinel], laidTests := true, laidLooks := .later }
def ChunkstoreOnceCardSaid : Prop := Claim7.holds Tryz.pinned (.plain (OpenSpec.ofChange chunkstoreOnceSpec)) chunkstoreOnceCard

/-- THE TIED CARD OF 'stockyardlaw33.ChunkstoreContents'. -/
def chunkstoreContentsCard : Claim7 := { stood := { row := chunkstoreContentsRow, standIns := [], harness := (true, "4a38bbb49ce63abfc4bef169534f954a347f1319075e6aeec9c8b86bb9d66d28"), looks := true }, kinds := [], alts := [], laidByText := true, laidKinds := [.data, .data, .data, .sentinel, .sentinel], laidTests := true, laidLooks := .later }
def ChunkstoreContentsCardSaid : Prop := Claim7.holds Tryz.pinned (.plain (OpenSpec.ofChange chunkstoreContentsSpec)) chunkstoreContentsCard

/-- THE TIED CARD OF 'stockyardlaw40.CollectorSteps'. -/
def collectorStepsCard : Claim7 := { stood := { row := collectorStepsRow, standIns := [], harness := (true, "4a38bbb49ce63abfc4bef169534f954a347f1319075e6aeec9c8b86bb9d66d28"), looks := true }, kinds := [], alts := [], laidByText := true, laidKinds := [.data, .data, .data, .sentinel, .sentinel], laidTests := true, laidLooks := .later }
def CollectorStepsCardSaid : Prop := Claim7.holds Tryz.pinned (.plain (OpenSpec.ofChange collectorStepsSpec)) collectorStepsCard

/-- THE TIED CARD OF 'stockyardlaw40.CollectorPlays'. -/
def collectorPlaysCard : Claim7 := { stood := { row := collectorPlaysRow, standIns := [], harness := (true, "4a38bbb49ce63abfc4bef169534f954a347f1319075e6aeec9c8b86bb9d66d28"), looks := true }, kinds := [], alts := [], laidByText := true, laidKinds := [.data, .data, .data, .sentinel, .sentinel], laidTests := true, laidLooks := .later }
def CollectorPlaysCardSaid : Prop := Claim7.holds Tryz.pinned (.plain (OpenSpec.ofChange collectorPlaysSpec)) collectorPlaysCard

/-- THE TIED CARD OF 'stockyardlaw40.CollectorEnds'. -/
def collectorEndsCard : Claim7 := { stood := { row := collectorEndsRow, standIns := [], harness := (true, "4a38bbb49ce63abfc4bef169534f954a347f1319075e6aeec9c8b86bb9d66d28"), looks := true }, kinds := [], alts := [], laidByText := true, laidKinds := [.data, .data, .data, .sentinel, .sentinel], laidTests := true, laidLooks := .later }
def CollectorEndsCardSaid : Prop := Claim7.holds Tryz.pinned (.plain (OpenSpec.ofChange collectorEndsSpec)) collectorEndsCard

/-- THE TIED CARD OF 'stockyardlaw40.CollectorSessions'. -/
def collectorSessionsCard : Claim7 := { stood := { row := collectorSessionsRow, standIns := [], harness := (true, "4a38bbb49ce63abfc4bef169534f954a347f1319075e6aeec9c8b86bb9d66d28"), looks := true }, kinds := [], alts := [], laidByText := true, laidKinds := [.data, .data, .data, .sentinel, .sentinel], laidTests := true, laidLooks := .later }
def CollectorSessionsCardSaid : Prop := Claim7.holds Tryz.pinned (.plain (OpenSpec.ofChange collectorSessionsSpec)) collectorSessionsCard

/-- THE TIED CARD OF 'stockyardlaw40.CollectorSafe'. -/
def collectorSafeCard : Claim7 := { stood := { row := collectorSafeRow, standIns := [], harness := (true, "4a38bbb49ce63abfc4bef169534f954a347f1319075e6aeec9c8b86bb9d66d28"), looks := true }, kinds := [], alts := [], laidByText := true, laidKinds := [.data, .data, .data, .sentinel, .sentinel], laidTests := true, laidLooks := .later }
def CollectorSafeCardSaid : Prop := Claim7.holds Tryz.pinned (.plain (OpenSpec.ofChange collectorSafeSpec)) collectorSafeCard

/-- THE TIED CARD OF 'stockyardlaw40.CollectorLive'. -/
def collectorLiveCard : Claim7 := { stood := { row := collectorLiveRow, standIns := [], harness := (true, "4a38bbb49ce63abfc4bef169534f954a347f1319075e6aeec9c8b86bb9d66d28"), looks := true }, kinds := [], alts := [], laidByText := true, laidKinds := [.data, .data, .data, .sentinel, .sentinel], laidTests := true, laidLooks := .later }
def CollectorLiveCardSaid : Prop := Claim7.holds Tryz.pinned (.plain (OpenSpec.ofChange collectorLiveSpec)) collectorLiveCard

/-- THE TIED CARD OF 'stockyardlaw40.CollectorCrashes'. -/
def collectorCrashesCard : Claim7 := { stood := { row := collectorCrashesRow, standIns := [], harness := (true, "4a38bbb49ce63abfc4bef169534f954a347f1319075e6aeec9c8b86bb9d66d28"), looks := true }, kinds := [], alts := [], laidByText := true, laidKinds := [.data, .data, .data, .sentinel, .sentinel], laidTests := true, laidLooks := .later }
def CollectorCrashesCardSaid : Prop := Claim7.holds Tryz.pinned (.plain (OpenSpec.ofChange collectorCrashesSpec)) collectorCrashesCard

/-- THE TIED CARD OF 'stockyardlaw40.CollectorUploads'. -/
def collectorUploadsCard : Claim7 := { stood := { row := collectorUploadsRow, standIns := [], harness := (true, "4a38bbb49ce63abfc4bef169534f954a347f1319075e6aeec9c8b86bb9d66d28"), looks := true }, kinds := [], alts := [], laidByText := true, laidKinds := [.data, .data, .data, .sentinel, .sentinel], laidTests := true, laidLooks := .later }
def CollectorUploadsCardSaid : Prop := Claim7.holds Tryz.pinned (.plain (OpenSpec.ofChange collectorUploadsSpec)) collectorUploadsCard

/-- THE SECOND FORM's CARD OF 'stockyardlaw33.ChunkstoreFull'. -/
def chunkstoreFullUptoCard : Claim7 := { stood := { row := chunkstoreFullUptoRow, standIns := [], harness := (true, "4a38bbb49ce63abfc4bef169534f954a347f1319075e6aeec9c8b86bb9d66d28"), looks := true }, kinds := [], alts := [], laidByText := true, laidKinds := [.data, .data, .data, .sentinel, .sentinel], laidTests := true, laidLooks := .later }
def ChunkstoreFullUptoCardSaid : Prop := Claim7.holds Tryz.pinned (.plain (OpenSpec.upto chunkstoreFullSpec)) chunkstoreFullUptoCard

/-- THE SECOND FORM's CARD OF 'stockyardlaw33.ChunkstoreNames'. -/
def chunkstoreNamesUptoCard : Claim7 := { stood := { row := chunkstoreNamesUptoRow, standIns := [], harness := (true, "4a38bbb49ce63abfc4bef169534f954a347f1319075e6aeec9c8b86bb9d66d28"), looks := true }, kinds := [], alts := [], laidByText := true, laidKinds := [.data, .data, .data, .sentinel, .sentinel], laidTests := true, laidLooks := .later }
def ChunkstoreNamesUptoCardSaid : Prop := Claim7.holds Tryz.pinned (.plain (OpenSpec.upto chunkstoreNamesSpec)) chunkstoreNamesUptoCard

/-- THE SECOND FORM's CARD OF 'stockyardlaw33.ChunkstoreTrue'. -/
def chunkstoreTrueUptoCard : Claim7 := { stood := { row := chunkstoreTrueUptoRow, standIns := [], harness := (true, "4a38bbb49ce63abfc4bef169534f954a347f1319075e6aeec9c8b86bb9d66d28"), looks := true }, kinds := [], alts := [], laidByText := true, laidKinds := [.data, .data, .data, .sentinel, .sentinel], laidTests := true, laidLooks := .later }
def ChunkstoreTrueUptoCardSaid : Prop := Claim7.holds Tryz.pinned (.plain (OpenSpec.upto chunkstoreTrueSpec)) chunkstoreTrueUptoCard

/-- THE SECOND FORM's CARD OF 'stockyardlaw33.ChunkstoreApart'. -/
def chunkstoreApartUptoCard : Claim7 := { stood := { row := chunkstoreApartUptoRow, standIns := [], harness := (true, "4a38bbb49ce63abfc4bef169534f954a347f1319075e6aeec9c8b86bb9d66d28"), looks := true }, kinds := [], alts := [], laidByText := true, laidKinds := [.data, .data, .data, .sentinel, .sentinel], laidTests := true, laidLooks := .later }
def ChunkstoreApartUptoCardSaid : Prop := Claim7.holds Tryz.pinned (.plain (OpenSpec.upto chunkstoreApartSpec)) chunkstoreApartUptoCard

/-- THE SECOND FORM's CARD OF 'stockyardlaw33.ChunkstorePlays'. -/
def chunkstorePlaysUptoCard : Claim7 := { stood := { row := chunkstorePlaysUptoRow, standIns := [], harness := (true, "4a38bbb49ce63abfc4bef169534f954a347f1319075e6aeec9c8b86bb9d66d28"), looks := true }, kinds := [], alts := [], laidByText := true, laidKinds := [.data, .data, .data, .sentinel, .sentinel], laidTests := true, laidLooks := .later }
def ChunkstorePlaysUptoCardSaid : Prop := Claim7.holds Tryz.pinned (.plain (OpenSpec.upto chunkstorePlaysSpec)) chunkstorePlaysUptoCard

/-- THE SECOND FORM's CARD OF 'stockyardlaw33.ChunkstoreHeals'. -/
def chunkstoreHealsUptoCard : Claim7 := { stood := { row := chunkstoreHealsUptoRow, standIns := [], harness := (true, "4a38bbb49ce63abfc4bef169534f954a347f1319075e6aeec9c8b86bb9d66d28"), looks := true }, kinds := [], alts := [], laidByText := true, laidKinds := [.data, .data, .data, .sentinel, .sentinel], laidTests := true, laidLooks := .later }
def ChunkstoreHealsUptoCardSaid : Prop := Claim7.holds Tryz.pinned (.plain (OpenSpec.upto chunkstoreHealsSpec)) chunkstoreHealsUptoCard

/-- THE SECOND FORM's CARD OF 'stockyardlaw33.ChunkstoreKeeps'. -/
def chunkstoreKeepsUptoCard : Claim7 := { stood := { row := chunkstoreKeepsUptoRow, standIns := [], harness := (true, "4a38bbb49ce63abfc4bef169534f954a347f1319075e6aeec9c8b86bb9d66d28"), looks := true }, kinds := [], alts := [], laidByText := true, laidKinds := [.data, .data, .data, .sentinel, .sentinel], laidTests := true, laidLooks := .later }
def ChunkstoreKeepsUptoCardSaid : Prop := Claim7.holds Tryz.pinned (.plain (OpenSpec.upto chunkstoreKeepsSpec)) chunkstoreKeepsUptoCard

/-- THE SECOND FORM's CARD OF 'stockyardlaw33.ChunkstoreOnce'. -/
def chunkstoreOnceUptoCard : Claim7 := { stood := { row := chunkstoreOnceUptoRow, standIns := [], harness := (true, "4a38bbb49ce63abfc4bef169534f954a347f1319075e6aeec9c8b86bb9d66d28"), looks := true }, kinds := [], alts := [], laidByText := true, laidKinds := [.data, .data, .data, .sentinel, .sentinel], laidTests := true, laidLooks := .later }
def ChunkstoreOnceUptoCardSaid : Prop := Claim7.holds Tryz.pinned (.plain (OpenSpec.upto chunkstoreOnceSpec)) chunkstoreOnceUptoCard

/-- THE SECOND FORM's CARD OF 'stockyardlaw33.ChunkstoreContents'. -/
def chunkstoreContentsUptoCard : Claim7 := { stood := { row := chunkstoreContentsUptoRow, standIns := [], harness := (true, "4a38bbb49ce63abfc4bef169534f954a347f1319075e6aeec9c8b86bb9d66d28"), looks := true }, kinds := [], alts := [], laidByText := true, laidKinds := [.data, .data, .data, .sentinel, .sentinel], laidTests := true, laidLooks := .later }
def ChunkstoreContentsUptoCardSaid : Prop := Claim7.holds Tryz.pinned (.plain (OpenSpec.upto chunkstoreContentsSpec)) chunkstoreContentsUptoCard

/-- THE SECOND FORM's CARD OF 'stockyardlaw40.CollectorSteps'. -/
def collectorStepsUptoCard : Claim7 := { stood := { row := collectorStepsUptoRow, standIns := [], harness := (true, "4a38bbb49ce63abfc4bef169534f954a347f1319075e6aeec9c8b86bb9d66d28"), looks := true }, kinds := [], alts := [], laidByText := true, laidKinds := [.data, .data, .data, .sentinel, .sentinel], laidTests := true, laidLooks := .later }
def CollectorStepsUptoCardSaid : Prop := Claim7.holds Tryz.pinned (.plain (OpenSpec.upto collectorStepsSpec)) collectorStepsUptoCard

/-- THE SECOND FORM's CARD OF 'stockyardlaw40.CollectorPlays'. -/
def collectorPlaysUptoCard : Claim7 := { stood := { row := collectorPlaysUptoRow, standIns := [], harness := (true, "4a38bbb49ce63abfc4bef169534f954a347f1319075e6aeec9c8b86bb9d66d28"), looks := true }, kinds := [], alts := [], laidByText := true, laidKinds := [.data, .data, .data, .sentinel, .sentinel], laidTests := true, laidLooks := .later }
def CollectorPlaysUptoCardSaid : Prop := Claim7.holds Tryz.pinned (.plain (OpenSpec.upto collectorPlaysSpec)) collectorPlaysUptoCard

/-- THE SECOND FORM's CARD OF 'stockyardlaw40.CollectorEnds'. -/
def collectorEndsUptoCard : Claim7 := { stood := { row := collectorEndsUptoRow, standIns := [], harness := (true, "4a38bbb49ce63abfc4bef169534f954a347f1319075e6aeec9c8b86bb9d66d28"), looks := true }, kinds := [], alts := [], laidByText := true, laidKinds := [.data, .data, .data, .sentinel, .sentinel], laidTests := true, laidLooks := .later }
def CollectorEndsUptoCardSaid : Prop := Claim7.holds Tryz.pinned (.plain (OpenSpec.upto collectorEndsSpec)) collectorEndsUptoCard

/-- THE SECOND FORM's CARD OF 'stockyardlaw40.CollectorSessions'. -/
def collectorSessionsUptoCard : Claim7 := { stood := { row := collectorSessionsUptoRow, standIns := [], harness := (true, "4a38bbb49ce63abfc4bef169534f954a347f1319075e6aeec9c8b86bb9d66d28"), looks := true }, kinds := [], alts := [], laidByText := true, laidKinds := [.data, .data, .data, .sentinel, .sentinel], laidTests := true, laidLooks := .later }
def CollectorSessionsUptoCardSaid : Prop := Claim7.holds Tryz.pinned (.plain (OpenSpec.upto collectorSessionsSpec)) collectorSessionsUptoCard

/-- THE SECOND FORM's CARD OF 'stockyardlaw40.CollectorSafe'. -/
def collectorSafeUptoCard : Claim7 := { stood := { row := collectorSafeUptoRow, standIns := [], harness := (true, "4a38bbb49ce63abfc4bef169534f954a347f1319075e6aeec9c8b86bb9d66d28"), looks := true }, kinds := [], alts := [], laidByText := true, laidKinds := [.data, .data, .data, .sentinel, .sentinel], laidTests := true, laidLooks := .later }
def CollectorSafeUptoCardSaid : Prop := Claim7.holds Tryz.pinned (.plain (OpenSpec.upto collectorSafeSpec)) collectorSafeUptoCard

/-- THE SECOND FORM's CARD OF 'stockyardlaw40.CollectorLive'. -/
def collectorLiveUptoCard : Claim7 := { stood := { row := collectorLiveUptoRow, standIns := [], harness := (true, "4a38bbb49ce63abfc4bef169534f954a347f1319075e6aeec9c8b86bb9d66d28"), looks := true }, kinds := [], alts := [], laidByText := true, laidKinds := [.data, .data, .data, .sentinel, .sentinel], laidTests := true, laidLooks := .later }
def CollectorLiveUptoCardSaid : Prop := Claim7.holds Tryz.pinned (.plain (OpenSpec.upto collectorLiveSpec)) collectorLiveUptoCard

/-- THE SECOND FORM's CARD OF 'stockyardlaw40.CollectorCrashes'. -/
def collectorCrashesUptoCard : Claim7 := { stood := { row := collectorCrashesUptoRow, standIns := [], harness := (true, "4a38bbb49ce63abfc4bef169534f954a347f1319075e6aeec9c8b86bb9d66d28"), looks := true }, kinds := [], alts := [], laidByText := true, laidKinds := [.data, .data, .data, .sentinel, .sentinel], laidTests := true, laidLooks := .later }
def CollectorCrashesUptoCardSaid : Prop := Claim7.holds Tryz.pinned (.plain (OpenSpec.upto collectorCrashesSpec)) collectorCrashesUptoCard

/-- THE SECOND FORM's CARD OF 'stockyardlaw40.CollectorUploads'. -/
def collectorUploadsUptoCard : Claim7 := { stood := { row := collectorUploadsUptoRow, standIns := [], harness := (true, "4a38bbb49ce63abfc4bef169534f954a347f1319075e6aeec9c8b86bb9d66d28"), looks := true }, kinds := [], alts := [], laidByText := true, laidKinds := [.data, .data, .data, .sentinel, .sentinel], laidTests := true, laidLooks := .later }
def CollectorUploadsUptoCardSaid : Prop := Claim7.holds Tryz.pinned (.plain (OpenSpec.upto collectorUploadsSpec)) collectorUploadsUptoCard
end Rows
end Go.Proofs.YteabgcollokgjaaGreatDoor
