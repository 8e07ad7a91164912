/-
  DERIVED. GIVEN WITH THE SEED: THE CARDS: each row of YtamoegpkglhedaaGreatDoorRows.lean that lists a variable, with what it lists TIED to the program's text (the seventh form; the later family's looks); each row that meets fmt, with fmt's text TOLD by the authors' own Lean function (tested against real Go, not proved from fmt's source: count such statements apart). THE CARD IS WHAT COUNTS. Prove the row's statement (the work); the ties are given (YtamoegpkglhedaaGreatDoorTie.lean); close each card by the builder's one call (the guide's Derived/Test/ToyasCard.lean, 'card_holds'). Laid BY PROGRAM, IN A SANDBOX (cutbox-door.mjs). By AI agents, Wed Nov 11 2026. No macro, syntax, notation, axiom, sorry.
-/
import Derived.Test.YtamoegpkglhedaaGreatDoorRows
import GoSem.ClaimSeven
namespace Go.Proofs.YtamoegpkglhedaaGreatDoor
namespace Rows

/-- THE TIED CARD OF 'passkeylaw32.RegistrationBinds'. -/
def registrationBindsCard : Claim7 := { stood := { row := registrationBindsRow, standIns := [], harness := (true, "0f16274186b31d0d07e4b5d5374a82c3e03bea2cb59fb59edf47c7cd072f2321"), looks := false }, kinds := [], alts := [], laidByText := true, laidKinds := [.data, .pinned], laidTests := true, laidLooks := .later }
def RegistrationBindsCardSaid : Prop := Claim7.holds Tryz.pinned (.plain (OpenSpec.ofChange registrationBindsSpec)) registrationBindsCard

/-- THE TIED CARD OF 'passkeylaw32.RegistrationLeaves'. -/
def registrationLeavesCard : Claim7 := { stood := { row := registrationLeavesRow, standIns := [], harness := (true, "0f16274186b31d0d07e4b5d5374a82c3e03bea2cb59fb59edf47c7cd072f2321"), looks := false }, kinds := [], alts := [], laidByText := true, laidKinds := [.data, .pinned], laidTests := true, laidLooks := .later }
def RegistrationLeavesCardSaid : Prop := Claim7.holds Tryz.pinned (.plain (OpenSpec.ofChange registrationLeavesSpec)) registrationLeavesCard

/-- THE SECOND FORM's CARD OF 'passkeylaw32.RegistrationBinds'. -/
def registrationBindsUptoCard : Claim7 := { stood := { row := registrationBindsUptoRow, standIns := [], harness := (true, "0f16274186b31d0d07e4b5d5374a82c3e03bea2cb59fb59edf47c7cd072f2321"), looks := false }, kinds := [], alts := [], laidByText := true, laidKinds := [.data, .pinned], laidTests := true, laidLooks := .later }
def RegistrationBindsUptoCardSaid : Prop := Claim7.holds Tryz.pinned (.plain (OpenSpec.upto registrationBindsSpec)) registrationBindsUptoCard

/-- THE SECOND FORM's CARD OF 'passkeylaw32.RegistrationLeaves'. -/
def registrationLeavesUptoCard : Claim7 := { stood := { row := registrationLeavesUptoRow, standIns := [], harness := (true, "0f16274186b31d0d07e4b5d5374a82c3e03bea2cb59fb59edf47c7cd072f2321"), looks := false }, kinds := [], alts := [], laidByText := true, laidKinds := [.data, .pinned], laidTests := true, laidLooks := .later }
def RegistrationLeavesUptoCardSaid : Prop := Claim7.holds Tryz.pinned (.plain (OpenSpec.upto registrationLeavesSpec)) registrationLeavesUptoCard
end Rows
end Go.Proofs.YtamoegpkglhedaaGreatDoor
