/-
  DERIVED. GIVEN WITH THE SEED: THE CARDS: each row of YtjmbkfjklemmpaaGreatDoorRows.lean that lists a variable, with what it lists TIED to the program's text (the seventh form; the later family's looks); each row that meets fmt, with fmt's text TOLD by the authors' own Lean function (tested against real Go, not proved from fmt's source: count such statements apart). THE CARD IS WHAT COUNTS. Prove the row's statement (the work); the ties are given (YtjmbkfjklemmpaaGreatDoorTie.lean); close each card by the builder's one call (the guide's Derived/Test/ToyasCard.lean, 'card_holds'). Laid BY PROGRAM, IN A SANDBOX (cutbox-door.mjs). By AI agents, Wed Nov 11 2026. No macro, syntax, notation, axiom, sorry.
-/
import Derived.Test.YtjmbkfjklemmpaaGreatDoorRows
import GoSem.ClaimSeven
namespace Go.Proofs.YtjmbkfjklemmpaaGreatDoor
namespace Rows

/-- THE TIED CARD OF 'veilstonelaw18.RepairClean'. -/
def repairCleanCard : Claim7 := { stood := { row := repairCleanRow, standIns := [], harness := (true, "b823fd128fb6b4957ed989609cb130157d6747234ff309a53f93dd75b68c8821"), looks := false }, kinds := [], alts := [], laidByText := true, laidKinds := [.data, .data, .data, .data, .data, .data, .data, .pinned], laidTests := true, laidLooks := .later }
def RepairCleanCardSaid : Prop := Claim7.holds Tryz.pinned (.plain (OpenSpec.ofChange repairCleanSpec)) repairCleanCard

/-- THE TIED CARD OF 'veilstonelaw18.RepairMinimal'. -/
def repairMinimalCard : Claim7 := { stood := { row := repairMinimalRow, standIns := [], harness := (true, "b823fd128fb6b4957ed989609cb130157d6747234ff309a53f93dd75b68c8821"), looks := false }, kinds := [], alts := [], laidByText := true, laidKinds := [.data, .data, .data, .data, .data, .data, .data, .pinned], laidTests := true, laidLooks := .later }
def RepairMinimalCardSaid : Prop := Claim7.holds Tryz.pinned (.plain (OpenSpec.ofChange repairMinimalSpec)) repairMinimalCard

/-- THE SECOND FORM's CARD OF 'veilstonelaw18.RepairClean'. -/
def repairCleanUptoCard : Claim7 := { stood := { row := repairCleanUptoRow, standIns := [], harness := (true, "b823fd128fb6b4957ed989609cb130157d6747234ff309a53f93dd75b68c8821"), looks := false }, kinds := [], alts := [], laidByText := true, laidKinds := [.data, .data, .data, .data, .data, .data, .data, .pinned], laidTests := true, laidLooks := .later }
def RepairCleanUptoCardSaid : Prop := Claim7.holds Tryz.pinned (.plain (OpenSpec.upto repairCleanSpec)) repairCleanUptoCard

/-- THE SECOND FORM's CARD OF 'veilstonelaw18.RepairMinimal'. -/
def repairMinimalUptoCard : Claim7 := { stood := { row := repairMinimalUptoRow, standIns := [], harness := (true, "b823fd128fb6b4957ed989609cb130157d6747234ff309a53f93dd75b68c8821"), looks := false }, kinds := [], alts := [], laidByText := true, laidKinds := [.data, .data, .data, .data, .data, .data, .data, .pinned], laidTests := true, laidLooks := .later }
def RepairMinimalUptoCardSaid : Prop := Claim7.holds Tryz.pinned (.plain (OpenSpec.upto repairMinimalSpec)) repairMinimalUptoCard
end Rows
end Go.Proofs.YtjmbkfjklemmpaaGreatDoor
