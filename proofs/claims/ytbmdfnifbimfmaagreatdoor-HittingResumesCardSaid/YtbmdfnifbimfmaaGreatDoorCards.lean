/-
  DERIVED. GIVEN WITH THE SEED: THE CARDS: each row of YtbmdfnifbimfmaaGreatDoorRows.lean that lists a variable, with what it lists TIED to the program's text (the seventh form; the later family's looks); each row that meets fmt, with fmt's text TOLD by the authors' own Lean function (tested against real Go, not proved from fmt's source: count such statements apart). THE CARD IS WHAT COUNTS. Prove the row's statement (the work); the ties are given (YtbmdfnifbimfmaaGreatDoorTie.lean); close each card by the builder's one call (the guide's Derived/Test/ToyasCard.lean, 'card_holds'). Laid BY PROGRAM, IN A SANDBOX (cutbox-door.mjs). By AI agents, Wed Nov 11 2026. No macro, syntax, notation, axiom, sorry.
-/
import Derived.Test.YtbmdfnifbimfmaaGreatDoorRows
import GoSem.ClaimSeven
namespace Go.Proofs.YtbmdfnifbimfmaaGreatDoor
namespace Rows

/-- THE TIED CARD OF 'veilstonelaw16.HittingMinimalSpec'. -/
def hittingMinimalSpecCard : Claim7 := { stood := { row := hittingMinimalSpecRow, standIns := [], harness := (true, "15e44fe6f392eff2994d7861d5f5dff224b22227cc63df9a1520eecfe33e26b7"), looks := false }, kinds := [], alts := [], laidByText := true, laidKinds := [.data, .data, .data], laidTests := true, laidLooks := .later }
def HittingMinimalSpecCardSaid : Prop := Claim7.holds Tryz.pinned (.plain (OpenSpec.ofChange hittingMinimalSpecSpec)) hittingMinimalSpecCard

/-- THE TIED CARD OF 'veilstonelaw16.HittingAllSpec'. -/
def hittingAllSpecCard : Claim7 := { stood := { row := hittingAllSpecRow, standIns := [], harness := (true, "15e44fe6f392eff2994d7861d5f5dff224b22227cc63df9a1520eecfe33e26b7"), looks := false }, kinds := [], alts := [], laidByText := true, laidKinds := [.data, .data, .data], laidTests := true, laidLooks := .later }
def HittingAllSpecCardSaid : Prop := Claim7.holds Tryz.pinned (.plain (OpenSpec.ofChange hittingAllSpecSpec)) hittingAllSpecCard

/-- THE TIED CARD OF 'veilstonelaw16.HittingDual'. -/
def hittingDualCard : Claim7 := { stood := { row := hittingDualRow, standIns := [], harness := (true, "15e44fe6f392eff2994d7861d5f5dff224b22227cc63df9a1520eecfe33e26b7"), looks := false }, kinds := [], alts := [], laidByText := true, laidKinds := [.data, .data, .data], laidTests := true, laidLooks := .later }
def HittingDualCardSaid : Prop := Claim7.holds Tryz.pinned (.plain (OpenSpec.ofChange hittingDualSpec)) hittingDualCard

/-- THE TIED CARD OF 'veilstonelaw16.HittingOrder'. -/
def hittingOrderCard : Claim7 := { stood := { row := hittingOrderRow, standIns := [], harness := (true, "15e44fe6f392eff2994d7861d5f5dff224b22227cc63df9a1520eecfe33e26b7"), looks := false }, kinds := [], alts := [], laidByText := true, laidKinds := [.data, .data, .data], laidTests := true, laidLooks := .later }
def HittingOrderCardSaid : Prop := Claim7.holds Tryz.pinned (.plain (OpenSpec.ofChange hittingOrderSpec)) hittingOrderCard

/-- THE TIED CARD OF 'veilstonelaw16.HittingResumes'. -/
def hittingResumesCard : Claim7 := { stood := { row := hittingResumesRow, standIns := [], harness := (true, "15e44fe6f392eff2994d7861d5f5dff224b22227cc63df9a1520eecfe33e26b7"), looks := false }, kinds := [], alts := [], laidByText := true, laidKinds := [.data, .data, .data], laidTests := true, laidLooks := .later }
def HittingResumesCardSaid : Prop := Claim7.holds Tryz.pinned (.plain (OpenSpec.ofChange hittingResumesSpec)) hittingResumesCard

/-- THE TIED CARD OF 'veilstonelaw16.HittingSearchFinds'. -/
def hittingSearchFindsCard : Claim7 := { stood := { row := hittingSearchFindsRow, standIns := [], harness := (true, "15e44fe6f392eff2994d7861d5f5dff224b22227cc63df9a1520eecfe33e26b7"), looks := false }, kinds := [], alts := [], laidByText := true, laidKinds := [.data, .data, .data], laidTests := true, laidLooks := .later }
def HittingSearchFindsCardSaid : Prop := Claim7.holds Tryz.pinned (.plain (OpenSpec.ofChange hittingSearchFindsSpec)) hittingSearchFindsCard

/-- THE SECOND FORM's CARD OF 'veilstonelaw16.HittingMinimalSpec'. -/
def hittingMinimalSpecUptoCard : Claim7 := { stood := { row := hittingMinimalSpecUptoRow, standIns := [], harness := (true, "15e44fe6f392eff2994d7861d5f5dff224b22227cc63df9a1520eecfe33e26b7"), looks := false }, kinds := [], alts := [], laidByText := true, laidKinds := [.data, .data, .data], laidTests := true, laidLooks := .later }
def HittingMinimalSpecUptoCardSaid : Prop := Claim7.holds Tryz.pinned (.plain (OpenSpec.upto hittingMinimalSpecSpec)) hittingMinimalSpecUptoCard

/-- THE SECOND FORM's CARD OF 'veilstonelaw16.HittingAllSpec'. -/
def hittingAllSpecUptoCard : Claim7 := { stood := { row := hittingAllSpecUptoRow, standIns := [], harness := (true, "15e44fe6f392eff2994d7861d5f5dff224b22227cc63df9a1520eecfe33e26b7"), looks := false }, kinds := [], alts := [], laidByText := true, laidKinds := [.data, .data, .data], laidTests := true, laidLooks := .later }
def HittingAllSpecUptoCardSaid : Prop := Claim7.holds Tryz.pinned (.plain (OpenSpec.upto hittingAllSpecSpec)) hittingAllSpecUptoCard

/-- THE SECOND FORM's CARD OF 'veilstonelaw16.HittingDual'. -/
def hittingDualUptoCard : Claim7 := { stood := { row := hittingDualUptoRow, standIns := [], harness := (true, "15e44fe6f392eff2994d7861d5f5dff224b22227cc63df9a1520eecfe33e26b7"), looks := false }, kinds := [], alts := [], laidByText := true, laidKinds := [.data, .data, .data], laidTests := true, laidLooks := .later }
def HittingDualUptoCardSaid : Prop := Claim7.holds Tryz.pinned (.plain (OpenSpec.upto hittingDualSpec)) hittingDualUptoCard

/-- THE SECOND FORM's CARD OF 'veilstonelaw16.HittingOrder'. -/
def hittingOrderUptoCard : Claim7 := { stood := { row := hittingOrderUptoRow, standIns := [], harness := (true, "15e44fe6f392eff2994d7861d5f5dff224b22227cc63df9a1520eecfe33e26b7"), looks := false }, kinds := [], alts := [], laidByText := true, laidKinds := [.data, .data, .data], laidTests := true, laidLooks := .later }
def HittingOrderUptoCardSaid : Prop := Claim7.holds Tryz.pinned (.plain (OpenSpec.upto hittingOrderSpec)) hittingOrderUptoCard

/-- THE SECOND FORM's CARD OF 'veilstonelaw16.HittingResumes'. -/
def hittingResumesUptoCard : Claim7 := { stood := { row := hittingResumesUptoRow, standIns := [], harness := (true, "15e44fe6f392eff2994d7861d5f5dff224b22227cc63df9a1520eecfe33e26b7"), looks := false }, kinds := [], alts := [], laidByText := true, laidKinds := [.data, .data, .data], laidTests := true, laidLooks := .later }
def HittingResumesUptoCardSaid : Prop := Claim7.holds Tryz.pinned (.plain (OpenSpec.upto hittingResumesSpec)) hittingResumesUptoCard

/-- THE SECOND FORM's CARD OF 'veilstonelaw16.HittingSearchFinds'. -/
def hittingSearchFindsUptoCard : Claim7 := { stood := { row := hittingSearchFindsUptoRow, standIns := [], harness := (true, "15e44fe6f392eff2994d7861d5f5dff224b22227cc63df9a1520eecfe33e26b7"), looks := false }, kinds := [], alts := [], laidByText := true, laidKinds := [.data, .data, .data], laidTests := true, laidLooks := .later }
def HittingSearchFindsUptoCardSaid : Prop := Claim7.holds Tryz.pinned (.plain (OpenSpec.upto hittingSearchFindsSpec)) hittingSearchFindsUptoCard
end Rows
end Go.Proofs.YtbmdfnifbimfmaaGreatDoor
