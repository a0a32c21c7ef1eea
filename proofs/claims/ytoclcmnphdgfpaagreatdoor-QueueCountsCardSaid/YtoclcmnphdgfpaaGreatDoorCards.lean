/-
  DERIVED. GIVEN WITH THE SEED: THE CARDS: each row of YtoclcmnphdgfpaaGreatDoorRows.lean that lists a variable, with what it lists TIED to the program's text (the seventh form; the later family's looks); each row that meets fmt, with fmt's text TOLD by the authors' own Lean function (tested against real Go, not proved from fmt's source: count such statements apart). THE CARD IS WHAT COUNTS. Prove the row's statement (the work); the ties are given (YtoclcmnphdgfpaaGreatDoorTie.lean); close each card by the builder's one call (the guide's Derived/Test/ToyasCard.lean, 'card_holds'). Laid BY PROGRAM, IN A SANDBOX (cutbox-door.mjs). By AI agents, Wed Nov 11 2026. No macro, syntax, notation, axiom, sorry.
-/
import Derived.Test.YtoclcmnphdgfpaaGreatDoorRows
import GoSem.ClaimSeven
namespace Go.Proofs.YtoclcmnphdgfpaaGreatDoor
namespace Rows

/-- THE TIED CARD OF 'daisychainlaw08.QueueDelays'. -/
def queueDelaysCard : Claim7 := { stood := { row := queueDelaysRow, standIns := [], harness := (true, "ab7a48009b89b281c67d08a888160e983a368554c49605880c4d2b5e4b002dd2"), looks := true }, kinds := [], alts := [], laidByText := true, laidKinds := [.data, .data, .data], laidTests := true, laidLooks := .later }
def QueueDelaysCardSaid : Prop := Claim7.holds Tryz.pinned (.plain (OpenSpec.ofChange queueDelaysSpec)) queueDelaysCard

/-- THE TIED CARD OF 'daisychainlaw08.QueueMany'. -/
def queueManyCard : Claim7 := { stood := { row := queueManyRow, standIns := [], harness := (true, "ab7a48009b89b281c67d08a888160e983a368554c49605880c4d2b5e4b002dd2"), looks := true }, kinds := [], alts := [], laidByText := true, laidKinds := [.data, .data, .data], laidTests := true, laidLooks := .later }
def QueueManyCardSaid : Prop := Claim7.holds Tryz.pinned (.plain (OpenSpec.ofChange queueManySpec)) queueManyCard

/-- THE TIED CARD OF 'daisychainlaw08.QueueExtends'. -/
def queueExtendsCard : Claim7 := { stood := { row := queueExtendsRow, standIns := [], harness := (true, "ab7a48009b89b281c67d08a888160e983a368554c49605880c4d2b5e4b002dd2"), looks := true }, kinds := [], alts := [], laidByText := true, laidKinds := [.data, .data, .data], laidTests := true, laidLooks := .later }
def QueueExtendsCardSaid : Prop := Claim7.holds Tryz.pinned (.plain (OpenSpec.ofChange queueExtendsSpec)) queueExtendsCard

/-- THE TIED CARD OF 'daisychainlaw08.QueueFifo'. -/
def queueFifoCard : Claim7 := { stood := { row := queueFifoRow, standIns := [], harness := (true, "ab7a48009b89b281c67d08a888160e983a368554c49605880c4d2b5e4b002dd2"), looks := true }, kinds := [], alts := [], laidByText := true, laidKinds := [.data, .data, .data], laidTests := true, laidLooks := .later }
def QueueFifoCardSaid : Prop := Claim7.holds Tryz.pinned (.plain (OpenSpec.ofChange queueFifoSpec)) queueFifoCard

/-- THE TIED CARD OF 'daisychainlaw08.QueueOnce'. -/
def queueOnceCard : Claim7 := { stood := { row := queueOnceRow, standIns := [], harness := (true, "ab7a48009b89b281c67d08a888160e983a368554c49605880c4d2b5e4b002dd2"), looks := true }, kinds := [], alts := [], laidByText := true, laidKinds := [.data, .data, .data], laidTests := true, laidLooks := .later }
def QueueOnceCardSaid : Prop := Claim7.holds Tryz.pinned (.plain (OpenSpec.ofChange queueOnceSpec)) queueOnceCard

/-- THE TIED CARD OF 'daisychainlaw08.QueueCounts'. -/
def queueCountsCard : Claim7 := { stood := { row := queueCountsRow, standIns := [], harness := (true, "ab7a48009b89b281c67d08a888160e983a368554c49605880c4d2b5e4b002dd2"), looks := true }, kinds := [], alts := [], laidByText := true, laidKinds := [.data, .data, .data], laidTests := true, laidLooks := .later }
def QueueCountsCardSaid : Prop := Claim7.holds Tryz.pinned (.plain (OpenSpec.ofChange queueCountsSpec)) queueCountsCard

/-- THE TIED CARD OF 'daisychainlaw08.QueuePurges'. -/
def queuePurgesCard : Claim7 := { stood := { row := queuePurgesRow, standIns := [], harness := (true, "ab7a48009b89b281c67d08a888160e983a368554c49605880c4d2b5e4b002dd2"), looks := true }, kinds := [], alts := [], laidByText := true, laidKinds := [.data, .data, .data], laidTests := true, laidLooks := .later }
def QueuePurgesCardSaid : Prop := Claim7.holds Tryz.pinned (.plain (OpenSpec.ofChange queuePurgesSpec)) queuePurgesCard

/-- THE TIED CARD OF 'daisychainlaw08.QueueReceipts'. -/
def queueReceiptsCard : Claim7 := { stood := { row := queueReceiptsRow, standIns := [], harness := (true, "ab7a48009b89b281c67d08a888160e983a368554c49605880c4d2b5e4b002dd2"), looks := true }, kinds := [], alts := [], laidByText := true, laidKinds := [.data, .data, .data], laidTests := true, laidLooks := .later }
def QueueReceiptsCardSaid : Prop := Claim7.holds Tryz.pinned (.plain (OpenSpec.ofChange queueReceiptsSpec)) queueReceiptsCard

/-- THE TIED CARD OF 'daisychainlaw08.QueueDoes'. -/
def queueDoesCard : Claim7 := { stood := { row := queueDoesRow, standIns := [], harness := (true, "ab7a48009b89b281c67d08a888160e983a368554c49605880c4d2b5e4b002dd2"), looks := true }, kinds := [], alts := [], laidByText := true, laidKinds := [.data, .data, .data], laidTests := true, laidLooks := .later }
def QueueDoesCardSaid : Prop := Claim7.holds Tryz.pinned (.plain (OpenSpec.ofChange queueDoesSpec)) queueDoesCard

/-- THE SECOND FORM's CARD OF 'daisychainlaw08.QueueDelays'. -/
def queueDelaysUptoCard : Claim7 := { stood := { row := queueDelaysUptoRow, standIns := [], harness := (true, "ab7a48009b89b281c67d08a888160e983a368554c49605880c4d2b5e4b002dd2"), looks := true }, kinds := [], alts := [], laidByText := true, laidKinds := [.data, .data, .data], laidTests := true, laidLooks := .later }
def QueueDelaysUptoCardSaid : Prop := Claim7.holds Tryz.pinned (.plain (OpenSpec.upto queueDelaysSpec)) queueDelaysUptoCard

/-- THE SECOND FORM's CARD OF 'daisychainlaw08.QueueMany'. -/
def queueManyUptoCard : Claim7 := { stood := { row := queueManyUptoRow, standIns := [], harness := (true, "ab7a48009b89b281c67d08a888160e983a368554c49605880c4d2b5e4b002dd2"), looks := true }, kinds := [], alts := [], laidByText := true, laidKinds := [.data, .data, .data], laidTests := true, laidLooks := .later }
def QueueManyUptoCardSaid : Prop := Claim7.holds Tryz.pinned (.plain (OpenSpec.upto queueManySpec)) queueManyUptoCard

/-- THE SECOND FORM's CARD OF 'daisychainlaw08.QueueExtends'. -/
def queueExtendsUptoCard : Claim7 := { stood := { row := queueExtendsUptoRow, standIns := [], harness := (true, "ab7a48009b89b281c67d08a888160e983a368554c49605880c4d2b5e4b002dd2"), looks := true }, kinds := [], alts := [], laidByText := true, laidKinds := [.data, .data, .data], laidTests := true, laidLooks := .later }
def QueueExtendsUptoCardSaid : Prop := Claim7.holds Tryz.pinned (.plain (OpenSpec.upto queueExtendsSpec)) queueExtendsUptoCard

/-- THE SECOND FORM's CARD OF 'daisychainlaw08.QueueFifo'. -/
def queueFifoUptoCard : Claim7 := { stood := { row := queueFifoUptoRow, standIns := [], harness := (true, "ab7a48009b89b281c67d08a888160e983a368554c49605880c4d2b5e4b002dd2"), looks := true }, kinds := [], alts := [], laidByText := true, laidKinds := [.data, .data, .data], laidTests := true, laidLooks := .later }
def QueueFifoUptoCardSaid : Prop := Claim7.holds Tryz.pinned (.plain (OpenSpec.upto queueFifoSpec)) queueFifoUptoCard

/-- THE SECOND FORM's CARD OF 'daisychainlaw08.QueueOnce'. -/
def queueOnceUptoCard : Claim7 := { stood := { row := queueOnceUptoRow, standIns := [], harness := (true, "ab7a48009b89b281c67d08a888160e983a368554c49605880c4d2b5e4b002dd2"), looks := true }, kinds := [], alts := [], laidByText := true, laidKinds := [.data, .data, .data], laidTests := true, laidLooks := .later }
def QueueOnceUptoCardSaid : Prop := Claim7.holds Tryz.pinned (.plain (OpenSpec.upto queueOnceSpec)) queueOnceUptoCard

/-- THE SECOND FORM's CARD OF 'daisychainlaw08.QueueCounts'. -/
def queueCountsUptoCard : Claim7 := { stood := { row := queueCountsUptoRow, standIns := [], harness := (true, "ab7a48009b89b281c67d08a888160e983a368554c49605880c4d2b5e4b002dd2"), looks := true }, kinds := [], alts := [], laidByText := true, laidKinds := [.data, .data, .data], laidTests := true, laidLooks := .later }
def QueueCountsUptoCardSaid : Prop := Claim7.holds Tryz.pinned (.plain (OpenSpec.upto queueCountsSpec)) queueCountsUptoCard

/-- THE SECOND FORM's CARD OF 'daisychainlaw08.QueuePurges'. -/
def queuePurgesUptoCard : Claim7 := { stood := { row := queuePurgesUptoRow, standIns := [], harness := (true, "ab7a48009b89b281c67d08a888160e983a368554c49605880c4d2b5e4b002dd2"), looks := true }, kinds := [], alts := [], laidByText := true, laidKinds := [.data, .data, .data], laidTests := true, laidLooks := .later }
def QueuePurgesUptoCardSaid : Prop := Claim7.holds Tryz.pinned (.plain (OpenSpec.upto queuePurgesSpec)) queuePurgesUptoCard

/-- THE SECOND FORM's CARD OF 'daisychainlaw08.QueueReceipts'. -/
def queueReceiptsUptoCard : Claim7 := { stood := { row := queueReceiptsUptoRow, standIns := [], harness := (true, "ab7a48009b89b281c67d08a888160e983a368554c49605880c4d2b5e4b002dd2"), looks := true }, kinds := [], alts := [], laidByText := true, laidKinds := [.data, .data, .data], laidTests := true, laidLooks := .later }
def QueueReceiptsUptoCardSaid : Prop := Claim7.holds Tryz.pinned (.plain (OpenSpec.upto queueReceiptsSpec)) queueReceiptsUptoCard

/-- THE SECOND FORM's CARD OF 'daisychainlaw08.QueueDoes'. -/
def queueDoesUptoCard : Claim7 := { stood := { row := queueDoesUptoRow, standIns := [], harness := (true, "ab7a48009b89b281c67d08a888160e983a368554c49605880c4d2b5e4b002dd2"), looks := true }, kinds := [], alts := [], laidByText := true, laidKinds := [.data, .data, .data], laidTests := true, laidLooks := .later }
def QueueDoesUptoCardSaid : Prop := Claim7.holds Tryz.pinned (.plain (OpenSpec.upto queueDoesSpec)) queueDoesUptoCard
end Rows
end Go.Proofs.YtoclcmnphdgfpaaGreatDoor
