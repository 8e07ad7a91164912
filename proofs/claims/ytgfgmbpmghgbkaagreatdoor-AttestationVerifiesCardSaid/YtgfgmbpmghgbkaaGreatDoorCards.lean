/-
  DERIVED. GIVEN WITH THE SEED: THE CARDS: each row of YtgfgmbpmghgbkaaGreatDoorRows.lean that lists a variable, with what it lists TIED to the program's text (the seventh form; the later family's looks); each row that meets fmt, with fmt's text TOLD by the authors' own Lean function (tested against real Go, not proved from fmt's source: count such statements apart). THE CARD IS WHAT COUNTS. Prove the row's statement (the work); the ties are given (YtgfgmbpmghgbkaaGreatDoorTie.lean); close each card by the builder's one call (the guide's Derived/Test/ToyasCard.lean, 'card_holds'). Laid BY PROGRAM, IN A SANDBOX (cutbox-door.mjs). By AI agents, Wed Nov 11 2026. No macro, syntax, notation, axiom, sorry.
-/
import Derived.Test.YtgfgmbpmghgbkaaGreatDoorRows
import GoSem.ClaimSeven
namespace Go.Proofs.YtgfgmbpmghgbkaaGreatDoor
namespace Rows

/-- THE TIED CARD OF 'passkeylaw27.AttestationVerifies'. -/
def attestationVerifiesCard : Claim7 := { stood := { row := attestationVerifiesRow, standIns := [], harness := (true, "7a9c4d0a1f7fc8e480c231369bf1a2a34926a45c5ef40aafd5daab46e9842e3e"), looks := false }, kinds := [], alts := [], laidByText := true, laidKinds := [.data, .pinned], laidTests := true, laidLooks := .later }
def AttestationVerifiesCardSaid : Prop := Claim7.holds Tryz.pinned (.plain (OpenSpec.ofChange attestationVerifiesSpec)) attestationVerifiesCard

/-- THE TIED CARD OF 'passkeylaw27.AttestationAny'. -/
def attestationAnyCard : Claim7 := { stood := { row := attestationAnyRow, standIns := [], harness := (true, "7a9c4d0a1f7fc8e480c231369bf1a2a34926a45c5ef40aafd5daab46e9842e3e"), looks := false }, kinds := [], alts := [], laidByText := true, laidKinds := [.data, .pinned], laidTests := true, laidLooks := .later }
def AttestationAnyCardSaid : Prop := Claim7.holds Tryz.pinned (.plain (OpenSpec.ofChange attestationAnySpec)) attestationAnyCard

/-- THE TIED CARD OF 'passkeylaw27.AttestationSelf'. -/
def attestationSelfCard : Claim7 := { stood := { row := attestationSelfRow, standIns := [], harness := (true, "7a9c4d0a1f7fc8e480c231369bf1a2a34926a45c5ef40aafd5daab46e9842e3e"), looks := false }, kinds := [], alts := [], laidByText := true, laidKinds := [.data, .pinned], laidTests := true, laidLooks := .later }
def AttestationSelfCardSaid : Prop := Claim7.holds Tryz.pinned (.plain (OpenSpec.ofChange attestationSelfSpec)) attestationSelfCard

/-- THE TIED CARD OF 'passkeylaw27.AttestationModels'. -/
def attestationModelsCard : Claim7 := { stood := { row := attestationModelsRow, standIns := [], harness := (true, "7a9c4d0a1f7fc8e480c231369bf1a2a34926a45c5ef40aafd5daab46e9842e3e"), looks := false }, kinds := [], alts := [], laidByText := true, laidKinds := [.data, .pinned], laidTests := true, laidLooks := .later }
def AttestationModelsCardSaid : Prop := Claim7.holds Tryz.pinned (.plain (OpenSpec.ofChange attestationModelsSpec)) attestationModelsCard

/-- THE SECOND FORM's CARD OF 'passkeylaw27.AttestationVerifies'. -/
def attestationVerifiesUptoCard : Claim7 := { stood := { row := attestationVerifiesUptoRow, standIns := [], harness := (true, "7a9c4d0a1f7fc8e480c231369bf1a2a34926a45c5ef40aafd5daab46e9842e3e"), looks := false }, kinds := [], alts := [], laidByText := true, laidKinds := [.data, .pinned], laidTests := true, laidLooks := .later }
def AttestationVerifiesUptoCardSaid : Prop := Claim7.holds Tryz.pinned (.plain (OpenSpec.upto attestationVerifiesSpec)) attestationVerifiesUptoCard

/-- THE SECOND FORM's CARD OF 'passkeylaw27.AttestationAny'. -/
def attestationAnyUptoCard : Claim7 := { stood := { row := attestationAnyUptoRow, standIns := [], harness := (true, "7a9c4d0a1f7fc8e480c231369bf1a2a34926a45c5ef40aafd5daab46e9842e3e"), looks := false }, kinds := [], alts := [], laidByText := true, laidKinds := [.data, .pinned], laidTests := true, laidLooks := .later }
def AttestationAnyUptoCardSaid : Prop := Claim7.holds Tryz.pinned (.plain (OpenSpec.upto attestationAnySpec)) attestationAnyUptoCard

/-- THE SECOND FORM's CARD OF 'passkeylaw27.AttestationSelf'. -/
def attestationSelfUptoCard : Claim7 := { stood := { row := attestationSelfUptoRow, standIns := [], harness := (true, "7a9c4d0a1f7fc8e480c231369bf1a2a34926a45c5ef40aafd5daab46e9842e3e"), looks := false }, kinds := [], alts := [], laidByText := true, laidKinds := [.data, .pinned], laidTests := true, laidLooks := .later }
def AttestationSelfUptoCardSaid : Prop := Claim7.holds Tryz.pinned (.plain (OpenSpec.upto attestationSelfSpec)) attestationSelfUptoCard

/-- THE SECOND FORM's CARD OF 'passkeylaw27.AttestationModels'. -/
def attestationModelsUptoCard : Claim7 := { stood := { row := attestationModelsUptoRow, standIns := [], harness := (true, "7a9c4d0a1f7fc8e480c231369bf1a2a34926a45c5ef40aafd5daab46e9842e3e"), looks := false }, kinds := [], alts := [], laidByText := true, laidKinds := [.data, .pinned], laidTests := true, laidLooks := .later }
def AttestationModelsUptoCardSaid : Prop := Claim7.holds Tryz.pinned (.plain (OpenSpec.upto attestationModelsSpec)) attestationModelsUptoCard
end Rows
end Go.Proofs.YtgfgmbpmghgbkaaGreatDoor
