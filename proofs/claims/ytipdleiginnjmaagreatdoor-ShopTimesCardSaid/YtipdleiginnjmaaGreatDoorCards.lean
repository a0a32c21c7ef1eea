/-
  DERIVED. GIVEN WITH THE SEED: THE CARDS: each row of YtipdleiginnjmaaGreatDoorRows.lean that lists a variable, with what it lists TIED to the program's text (the seventh form; the later family's looks); each row that meets fmt, with fmt's text TOLD by the authors' own Lean function (tested against real Go, not proved from fmt's source: count such statements apart). THE CARD IS WHAT COUNTS. Prove the row's statement (the work); the ties are given (YtipdleiginnjmaaGreatDoorTie.lean); close each card by the builder's one call (the guide's Derived/Test/ToyasCard.lean, 'card_holds'). Laid BY PROGRAM, IN A SANDBOX (cutbox-door.mjs). By AI agents, Wed Nov 11 2026. No macro, syntax, notation, axiom, sorry.
-/
import Derived.Test.YtipdleiginnjmaaGreatDoorRows
import GoSem.ClaimSeven
namespace Go.Proofs.YtipdleiginnjmaaGreatDoor
namespace Rows

/-- THE TIED CARD OF 'daisychainlaw09.ShopSame'. -/
def shopSameCard : Claim7 := { stood := { row := shopSameRow, standIns := [], harness := (true, "7eaf86c8acf8c9848b3fdfed2069eeb7642bfa7dfc82318650ab619af6641b5d"), looks := true }, kinds := [], alts := [], laidByText := true, laidKinds := [.data, .data, .data, .handle], laidTests := true, laidLooks := .later }
def ShopSameCardSaid : Prop := Claim7.holds Tryz.pinned (.plain (OpenSpec.ofChange shopSameSpec)) shopSameCard

/-- THE TIED CARD OF 'daisychainlaw09.ShopDead'. -/
def shopDeadCard : Claim7 := { stood := { row := shopDeadRow, standIns := [], harness := (true, "7eaf86c8acf8c9848b3fdfed2069eeb7642bfa7dfc82318650ab619af6641b5d"), looks := true }, kinds := [], alts := [], laidByText := true, laidKinds := [.data, .data, .data, .handle], laidTests := true, laidLooks := .later }
def ShopDeadCardSaid : Prop := Claim7.holds Tryz.pinned (.plain (OpenSpec.ofChange shopDeadSpec)) shopDeadCard

/-- THE TIED CARD OF 'daisychainlaw09.ShopAcked'. -/
def shopAckedCard : Claim7 := { stood := { row := shopAckedRow, standIns := [], harness := (true, "7eaf86c8acf8c9848b3fdfed2069eeb7642bfa7dfc82318650ab619af6641b5d"), looks := true }, kinds := [], alts := [], laidByText := true, laidKinds := [.data, .data, .data, .handle], laidTests := true, laidLooks := .later }
def ShopAckedCardSaid : Prop := Claim7.holds Tryz.pinned (.plain (OpenSpec.ofChange shopAckedSpec)) shopAckedCard

/-- THE TIED CARD OF 'daisychainlaw09.ShopFull'. -/
def shopFullCard : Claim7 := { stood := { row := shopFullRow, standIns := [], harness := (true, "7eaf86c8acf8c9848b3fdfed2069eeb7642bfa7dfc82318650ab619af6641b5d"), looks := true }, kinds := [], alts := [], laidByText := true, laidKinds := [.data, .data, .data, .handle], laidTests := true, laidLooks := .later }
def ShopFullCardSaid : Prop := Claim7.holds Tryz.pinned (.plain (OpenSpec.ofChange shopFullSpec)) shopFullCard

/-- THE TIED CARD OF 'daisychainlaw09.ShopTimes'. -/
def shopTimesCard : Claim7 := { stood := { row := shopTimesRow, standIns := [], harness := (true, "7eaf86c8acf8c9848b3fdfed2069eeb7642bfa7dfc82318650ab619af6641b5d"), looks := true }, kinds := [], alts := [], laidByText := true, laidKinds := [.data, .data, .data, .handle], laidTests := true, laidLooks := .later }
def ShopTimesCardSaid : Prop := Claim7.holds Tryz.pinned (.plain (OpenSpec.ofChange shopTimesSpec)) shopTimesCard

/-- THE TIED CARD OF 'daisychainlaw09.ShopApart'. -/
def shopApartCard : Claim7 := { stood := { row := shopApartRow, standIns := [], harness := (true, "7eaf86c8acf8c9848b3fdfed2069eeb7642bfa7dfc82318650ab619af6641b5d"), looks := true }, kinds := [], alts := [], laidByText := true, laidKinds := [.data, .data, .data, .handle], laidTests := true, laidLooks := .later }
def ShopApartCardSaid : Prop := Claim7.holds Tryz.pinned (.plain (OpenSpec.ofChange shopApartSpec)) shopApartCard

/-- THE TIED CARD OF 'daisychainlaw09.ShopDoes'. -/
def shopDoesCard : Claim7 := { stood := { row := shopDoesRow, standIns := [], harness := (true, "7eaf86c8acf8c9848b3fdfed2069eeb7642bfa7dfc82318650ab619af6641b5d"), looks := true }, kinds := [], alts := [], laidByText := true, laidKinds := [.data, .data, .data, .handle], laidTests := true, laidLooks := .later }
def ShopDoesCardSaid : Prop := Claim7.holds Tryz.pinned (.plain (OpenSpec.ofChange shopDoesSpec)) shopDoesCard

/-- THE TIED CARD OF 'daisychainlaw09.ShopTwice'. -/
def shopTwiceCard : Claim7 := { stood := { row := shopTwiceRow, standIns := [], harness := (true, "7eaf86c8acf8c9848b3fdfed2069eeb7642bfa7dfc82318650ab619af6641b5d"), looks := true }, kinds := [], alts := [], laidByText := true, laidKinds := [.data, .data, .data, .handle], laidTests := true, laidLooks := .later }
def ShopTwiceCardSaid : Prop := Claim7.holds Tryz.pinned (.plain (OpenSpec.ofChange shopTwiceSpec)) shopTwiceCard

/-- THE TIED CARD OF 'daisychainlaw09.ShopBatches'. -/
def shopBatchesCard : Claim7 := { stood := { row := shopBatchesRow, standIns := [], harness := (true, "7eaf86c8acf8c9848b3fdfed2069eeb7642bfa7dfc82318650ab619af6641b5d"), looks := true }, kinds := [], alts := [], laidByText := true, laidKinds := [.data, .data, .data, .handle], laidTests := true, laidLooks := .later }
def ShopBatchesCardSaid : Prop := Claim7.holds Tryz.pinned (.plain (OpenSpec.ofChange shopBatchesSpec)) shopBatchesCard

/-- THE TIED CARD OF 'daisychainlaw09.ShopCopies'. -/
def shopCopiesCard : Claim7 := { stood := { row := shopCopiesRow, standIns := [], harness := (true, "7eaf86c8acf8c9848b3fdfed2069eeb7642bfa7dfc82318650ab619af6641b5d"), looks := true }, kinds := [], alts := [], laidByText := true, laidKinds := [.data, .data, .data, .handle], laidTests := true, laidLooks := .later }
def ShopCopiesCardSaid : Prop := Claim7.holds Tryz.pinned (.plain (OpenSpec.ofChange shopCopiesSpec)) shopCopiesCard

/-- THE TIED CARD OF 'daisychainlaw10.CmdRuns'. -/
def cmdRunsCard : Claim7 := { stood := { row := cmdRunsRow, standIns := [], harness := (true, "7eaf86c8acf8c9848b3fdfed2069eeb7642bfa7dfc82318650ab619af6641b5d"), looks := true }, kinds := [], alts := [], laidByText := true, laidKinds := [.data, .data, .data, .handle], laidTests := true, laidLooks := .later }
def CmdRunsCardSaid : Prop := Claim7.holds Tryz.pinned (.plain (OpenSpec.ofChange cmdRunsSpec)) cmdRunsCard

/-- THE SECOND FORM's CARD OF 'daisychainlaw09.ShopSame'. -/
def shopSameUptoCard : Claim7 := { stood := { row := shopSameUptoRow, standIns := [], harness := (true, "7eaf86c8acf8c9848b3fdfed2069eeb7642bfa7dfc82318650ab619af6641b5d"), looks := true }, kinds := [], alts := [], laidByText := true, laidKinds := [.data, .data, .data, .handle], laidTests := true, laidLooks := .later }
def ShopSameUptoCardSaid : Prop := Claim7.holds Tryz.pinned (.plain (OpenSpec.upto shopSameSpec)) shopSameUptoCard

/-- THE SECOND FORM's CARD OF 'daisychainlaw09.ShopDead'. -/
def shopDeadUptoCard : Claim7 := { stood := { row := shopDeadUptoRow, standIns := [], harness := (true, "7eaf86c8acf8c9848b3fdfed2069eeb7642bfa7dfc82318650ab619af6641b5d"), looks := true }, kinds := [], alts := [], laidByText := true, laidKinds := [.data, .data, .data, .handle], laidTests := true, laidLooks := .later }
def ShopDeadUptoCardSaid : Prop := Claim7.holds Tryz.pinned (.plain (OpenSpec.upto shopDeadSpec)) shopDeadUptoCard

/-- THE SECOND FORM's CARD OF 'daisychainlaw09.ShopAcked'. -/
def shopAckedUptoCard : Claim7 := { stood := { row := shopAckedUptoRow, standIns := [], harness := (true, "7eaf86c8acf8c9848b3fdfed2069eeb7642bfa7dfc82318650ab619af6641b5d"), looks := true }, kinds := [], alts := [], laidByText := true, laidKinds := [.data, .data, .data, .handle], laidTests := true, laidLooks := .later }
def ShopAckedUptoCardSaid : Prop := Claim7.holds Tryz.pinned (.plain (OpenSpec.upto shopAckedSpec)) shopAckedUptoCard

/-- THE SECOND FORM's CARD OF 'daisychainlaw09.ShopFull'. -/
def shopFullUptoCard : Claim7 := { stood := { row := shopFullUptoRow, standIns := [], harness := (true, "7eaf86c8acf8c9848b3fdfed2069eeb7642bfa7dfc82318650ab619af6641b5d"), looks := true }, kinds := [], alts := [], laidByText := true, laidKinds := [.data, .data, .data, .handle], laidTests := true, laidLooks := .later }
def ShopFullUptoCardSaid : Prop := Claim7.holds Tryz.pinned (.plain (OpenSpec.upto shopFullSpec)) shopFullUptoCard

/-- THE SECOND FORM's CARD OF 'daisychainlaw09.ShopTimes'. -/
def shopTimesUptoCard : Claim7 := { stood := { row := shopTimesUptoRow, standIns := [], harness := (true, "7eaf86c8acf8c9848b3fdfed2069eeb7642bfa7dfc82318650ab619af6641b5d"), looks := true }, kinds := [], alts := [], laidByText := true, laidKinds := [.data, .data, .data, .handle], laidTests := true, laidLooks := .later }
def ShopTimesUptoCardSaid : Prop := Claim7.holds Tryz.pinned (.plain (OpenSpec.upto shopTimesSpec)) shopTimesUptoCard

/-- THE SECOND FORM's CARD OF 'daisychainlaw09.ShopApart'. -/
def shopApartUptoCard : Claim7 := { stood := { row := shopApartUptoRow, standIns := [], harness := (true, "7eaf86c8acf8c9848b3fdfed2069eeb7642bfa7dfc82318650ab619af6641b5d"), looks := true }, kinds := [], alts := [], laidByText := true, laidKinds := [.data, .data, .data, .handle], laidTests := true, laidLooks := .later }
def ShopApartUptoCardSaid : Prop := Claim7.holds Tryz.pinned (.plain (OpenSpec.upto shopApartSpec)) shopApartUptoCard

/-- THE SECOND FORM's CARD OF 'daisychainlaw09.ShopDoes'. -/
def shopDoesUptoCard : Claim7 := { stood := { row := shopDoesUptoRow, standIns := [], harness := (true, "7eaf86c8acf8c9848b3fdfed2069eeb7642bfa7dfc82318650ab619af6641b5d"), looks := true }, kinds := [], alts := [], laidByText := true, laidKinds := [.data, .data, .data, .handle], laidTests := true, laidLooks := .later }
def ShopDoesUptoCardSaid : Prop := Claim7.holds Tryz.pinned (.plain (OpenSpec.upto shopDoesSpec)) shopDoesUptoCard

/-- THE SECOND FORM's CARD OF 'daisychainlaw09.ShopTwice'. -/
def shopTwiceUptoCard : Claim7 := { stood := { row := shopTwiceUptoRow, standIns := [], harness := (true, "7eaf86c8acf8c9848b3fdfed2069eeb7642bfa7dfc82318650ab619af6641b5d"), looks := true }, kinds := [], alts := [], laidByText := true, laidKinds := [.data, .data, .data, .handle], laidTests := true, laidLooks := .later }
def ShopTwiceUptoCardSaid : Prop := Claim7.holds Tryz.pinned (.plain (OpenSpec.upto shopTwiceSpec)) shopTwiceUptoCard

/-- THE SECOND FORM's CARD OF 'daisychainlaw09.ShopBatches'. -/
def shopBatchesUptoCard : Claim7 := { stood := { row := shopBatchesUptoRow, standIns := [], harness := (true, "7eaf86c8acf8c9848b3fdfed2069eeb7642bfa7dfc82318650ab619af6641b5d"), looks := true }, kinds := [], alts := [], laidByText := true, laidKinds := [.data, .data, .data, .handle], laidTests := true, laidLooks := .later }
def ShopBatchesUptoCardSaid : Prop := Claim7.holds Tryz.pinned (.plain (OpenSpec.upto shopBatchesSpec)) shopBatchesUptoCard

/-- THE SECOND FORM's CARD OF 'daisychainlaw09.ShopCopies'. -/
def shopCopiesUptoCard : Claim7 := { stood := { row := shopCopiesUptoRow, standIns := [], harness := (true, "7eaf86c8acf8c9848b3fdfed2069eeb7642bfa7dfc82318650ab619af6641b5d"), looks := true }, kinds := [], alts := [], laidByText := true, laidKinds := [.data, .data, .data, .handle], laidTests := true, laidLooks := .later }
def ShopCopiesUptoCardSaid : Prop := Claim7.holds Tryz.pinned (.plain (OpenSpec.upto shopCopiesSpec)) shopCopiesUptoCard

/-- THE SECOND FORM's CARD OF 'daisychainlaw10.CmdRuns'. -/
def cmdRunsUptoCard : Claim7 := { stood := { row := cmdRunsUptoRow, standIns := [], harness := (true, "7eaf86c8acf8c9848b3fdfed2069eeb7642bfa7dfc82318650ab619af6641b5d"), looks := true }, kinds := [], alts := [], laidByText := true, laidKinds := [.data, .data, .data, .handle], laidTests := true, laidLooks := .later }
def CmdRunsUptoCardSaid : Prop := Claim7.holds Tryz.pinned (.plain (OpenSpec.upto cmdRunsSpec)) cmdRunsUptoCard
end Rows
end Go.Proofs.YtipdleiginnjmaaGreatDoor
