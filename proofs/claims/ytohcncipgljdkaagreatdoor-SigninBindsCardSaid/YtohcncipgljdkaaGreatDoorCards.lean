/-
  DERIVED. GIVEN WITH THE SEED: THE CARDS: each row of YtohcncipgljdkaaGreatDoorRows.lean that lists a variable, with what it lists TIED to the program's text (the seventh form; the later family's looks); each row that meets fmt, with fmt's text TOLD by the authors' own Lean function (tested against real Go, not proved from fmt's source: count such statements apart). THE CARD IS WHAT COUNTS. Prove the row's statement (the work); the ties are given (YtohcncipgljdkaaGreatDoorTie.lean); close each card by the builder's one call (the guide's Derived/Test/ToyasCard.lean, 'card_holds'). Laid BY PROGRAM, IN A SANDBOX (cutbox-door.mjs). By AI agents, Wed Nov 11 2026. No macro, syntax, notation, axiom, sorry.
-/
import Derived.Test.YtohcncipgljdkaaGreatDoorRows
import GoSem.ClaimSeven
namespace Go.Proofs.YtohcncipgljdkaaGreatDoor
namespace Rows

/-- THE TIED CARD OF 'passkeylaw33.SigninVerifies'. -/
def signinVerifiesCard : Claim7 := { stood := { row := signinVerifiesRow, standIns := [], harness := (true, "52544c91bf9b7c2c858fbb7c50be7c1ba85114769ee986327d9c7a749cef0a55"), looks := false }, kinds := [], alts := [], laidByText := true, laidKinds := [.data, .pinned], laidTests := true, laidLooks := .later }
def SigninVerifiesCardSaid : Prop := Claim7.holds Tryz.pinned (.plain (OpenSpec.ofChange signinVerifiesSpec)) signinVerifiesCard

/-- THE TIED CARD OF 'passkeylaw33.SigninAny'. -/
def signinAnyCard : Claim7 := { stood := { row := signinAnyRow, standIns := [], harness := (true, "52544c91bf9b7c2c858fbb7c50be7c1ba85114769ee986327d9c7a749cef0a55"), looks := false }, kinds := [], alts := [], laidByText := true, laidKinds := [.data, .pinned], laidTests := true, laidLooks := .later }
def SigninAnyCardSaid : Prop := Claim7.holds Tryz.pinned (.plain (OpenSpec.ofChange signinAnySpec)) signinAnyCard

/-- THE TIED CARD OF 'passkeylaw33.SigninSigned'. -/
def signinSignedCard : Claim7 := { stood := { row := signinSignedRow, standIns := [], harness := (true, "52544c91bf9b7c2c858fbb7c50be7c1ba85114769ee986327d9c7a749cef0a55"), looks := false }, kinds := [], alts := [], laidByText := true, laidKinds := [.data, .pinned], laidTests := true, laidLooks := .later }
def SigninSignedCardSaid : Prop := Claim7.holds Tryz.pinned (.plain (OpenSpec.ofChange signinSignedSpec)) signinSignedCard

/-- THE TIED CARD OF 'passkeylaw33.SigninBinds'. -/
def signinBindsCard : Claim7 := { stood := { row := signinBindsRow, standIns := [], harness := (true, "52544c91bf9b7c2c858fbb7c50be7c1ba85114769ee986327d9c7a749cef0a55"), looks := false }, kinds := [], alts := [], laidByText := true, laidKinds := [.data, .pinned], laidTests := true, laidLooks := .later }
def SigninBindsCardSaid : Prop := Claim7.holds Tryz.pinned (.plain (OpenSpec.ofChange signinBindsSpec)) signinBindsCard

/-- THE SECOND FORM's CARD OF 'passkeylaw33.SigninVerifies'. -/
def signinVerifiesUptoCard : Claim7 := { stood := { row := signinVerifiesUptoRow, standIns := [], harness := (true, "52544c91bf9b7c2c858fbb7c50be7c1ba85114769ee986327d9c7a749cef0a55"), looks := false }, kinds := [], alts := [], laidByText := true, laidKinds := [.data, .pinned], laidTests := true, laidLooks := .later }
def SigninVerifiesUptoCardSaid : Prop := Claim7.holds Tryz.pinned (.plain (OpenSpec.upto signinVerifiesSpec)) signinVerifiesUptoCard

/-- THE SECOND FORM's CARD OF 'passkeylaw33.SigninAny'. -/
def signinAnyUptoCard : Claim7 := { stood := { row := signinAnyUptoRow, standIns := [], harness := (true, "52544c91bf9b7c2c858fbb7c50be7c1ba85114769ee986327d9c7a749cef0a55"), looks := false }, kinds := [], alts := [], laidByText := true, laidKinds := [.data, .pinned], laidTests := true, laidLooks := .later }
def SigninAnyUptoCardSaid : Prop := Claim7.holds Tryz.pinned (.plain (OpenSpec.upto signinAnySpec)) signinAnyUptoCard

/-- THE SECOND FORM's CARD OF 'passkeylaw33.SigninSigned'. -/
def signinSignedUptoCard : Claim7 := { stood := { row := signinSignedUptoRow, standIns := [], harness := (true, "52544c91bf9b7c2c858fbb7c50be7c1ba85114769ee986327d9c7a749cef0a55"), looks := false }, kinds := [], alts := [], laidByText := true, laidKinds := [.data, .pinned], laidTests := true, laidLooks := .later }
def SigninSignedUptoCardSaid : Prop := Claim7.holds Tryz.pinned (.plain (OpenSpec.upto signinSignedSpec)) signinSignedUptoCard

/-- THE SECOND FORM's CARD OF 'passkeylaw33.SigninBinds'. -/
def signinBindsUptoCard : Claim7 := { stood := { row := signinBindsUptoRow, standIns := [], harness := (true, "52544c91bf9b7c2c858fbb7c50be7c1ba85114769ee986327d9c7a749cef0a55"), looks := false }, kinds := [], alts := [], laidByText := true, laidKinds := [.data, .pinned], laidTests := true, laidLooks := .later }
def SigninBindsUptoCardSaid : Prop := Claim7.holds Tryz.pinned (.plain (OpenSpec.upto signinBindsSpec)) signinBindsUptoCard
end Rows
end Go.Proofs.YtohcncipgljdkaaGreatDoor
