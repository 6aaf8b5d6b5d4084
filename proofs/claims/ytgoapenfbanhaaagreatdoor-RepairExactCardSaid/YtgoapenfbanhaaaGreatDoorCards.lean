/-
  DERIVED. GIVEN WITH THE SEED: THE CARDS: each row of YtgoapenfbanhaaaGreatDoorRows.lean that lists a variable, with what it lists TIED to the program's text (the seventh form; the later family's looks); each row that meets fmt, with fmt's text TOLD by the authors' own Lean function (tested against real Go, not proved from fmt's source: count such statements apart). THE CARD IS WHAT COUNTS. Prove the row's statement (the work); the ties are given (YtgoapenfbanhaaaGreatDoorTie.lean); close each card by the builder's one call (the guide's Derived/Test/ToyasCard.lean, 'card_holds'). Laid BY PROGRAM, IN A SANDBOX (cutbox-door.mjs). By AI agents, Wed Nov 11 2026. No macro, syntax, notation, axiom, sorry.
-/
import Derived.Test.YtgoapenfbanhaaaGreatDoorRows
import GoSem.ClaimSeven
namespace Go.Proofs.YtgoapenfbanhaaaGreatDoor
namespace Rows

/-- THE TIED CARD OF 'veilstonelaw18.RepairExact'. -/
def repairExactCard : Claim7 := { stood := { row := repairExactRow, standIns := [], harness := (true, "3e62bcea066f38a47034fe7f10237c7ef4156ccccb08c19270be8e63d7ca92e8"), looks := false }, kinds := [], alts := [], laidByText := true, laidKinds := [.data, .data, .data, .data, .data, .data, .data, .pinned], laidTests := true, laidLooks := .later }
def RepairExactCardSaid : Prop := Claim7.holds Tryz.pinned (.plain (OpenSpec.ofChange repairExactSpec)) repairExactCard

/-- THE TIED CARD OF 'veilstonelaw18.RepairFirst'. -/
def repairFirstCard : Claim7 := { stood := { row := repairFirstRow, standIns := [], harness := (true, "3e62bcea066f38a47034fe7f10237c7ef4156ccccb08c19270be8e63d7ca92e8"), looks := false }, kinds := [], alts := [], laidByText := true, laidKinds := [.data, .data, .data, .data, .data, .data, .data, .pinned], laidTests := true, laidLooks := .later }
def RepairFirstCardSaid : Prop := Claim7.holds Tryz.pinned (.plain (OpenSpec.ofChange repairFirstSpec)) repairFirstCard

/-- THE SECOND FORM's CARD OF 'veilstonelaw18.RepairExact'. -/
def repairExactUptoCard : Claim7 := { stood := { row := repairExactUptoRow, standIns := [], harness := (true, "3e62bcea066f38a47034fe7f10237c7ef4156ccccb08c19270be8e63d7ca92e8"), looks := false }, kinds := [], alts := [], laidByText := true, laidKinds := [.data, .data, .data, .data, .data, .data, .data, .pinned], laidTests := true, laidLooks := .later }
def RepairExactUptoCardSaid : Prop := Claim7.holds Tryz.pinned (.plain (OpenSpec.upto repairExactSpec)) repairExactUptoCard

/-- THE SECOND FORM's CARD OF 'veilstonelaw18.RepairFirst'. -/
def repairFirstUptoCard : Claim7 := { stood := { row := repairFirstUptoRow, standIns := [], harness := (true, "3e62bcea066f38a47034fe7f10237c7ef4156ccccb08c19270be8e63d7ca92e8"), looks := false }, kinds := [], alts := [], laidByText := true, laidKinds := [.data, .data, .data, .data, .data, .data, .data, .pinned], laidTests := true, laidLooks := .later }
def RepairFirstUptoCardSaid : Prop := Claim7.holds Tryz.pinned (.plain (OpenSpec.upto repairFirstSpec)) repairFirstUptoCard
end Rows
end Go.Proofs.YtgoapenfbanhaaaGreatDoor
