/-
  DERIVED. GIVEN WITH THE SEED: THE CARDS: each row of YtpogefhpiaaliaaGreatDoorRows.lean that lists a variable, with what it lists TIED to the program's text (the seventh form; the later family's looks); each row that meets fmt, with fmt's text TOLD by the authors' own Lean function (tested against real Go, not proved from fmt's source: count such statements apart). THE CARD IS WHAT COUNTS. Prove the row's statement (the work); the ties are given (YtpogefhpiaaliaaGreatDoorTie.lean); close each card by the builder's one call (the guide's Derived/Test/ToyasCard.lean, 'card_holds'). Laid BY PROGRAM, IN A SANDBOX (cutbox-door.mjs). By AI agents, Wed Nov 11 2026. No macro, syntax, notation, axiom, sorry.
-/
import Derived.Test.YtpogefhpiaaliaaGreatDoorRows
import GoSem.ClaimSeven
namespace Go.Proofs.YtpogefhpiaaliaaGreatDoor
namespace Rows

/-- THE TIED CARD OF 'passkeylaw28.MetadataBodies'. -/
def metadataBodiesCard : Claim7 := { stood := { row := metadataBodiesRow, standIns := [], harness := (true, "13b21f4e90ebae50716ebc5e0d13f2301d62f44641a3a4e7c85d1e29fe36502a"), looks := false }, kinds := [], alts := [], laidByText := true, laidKinds := [.data, .pinned], laidTests := true, laidLooks := .later }
def MetadataBodiesCardSaid : Prop := Claim7.holds Tryz.pinned (.plain (OpenSpec.ofChange metadataBodiesSpec)) metadataBodiesCard

/-- THE TIED CARD OF 'passkeylaw28.MetadataSigns'. -/
def metadataSignsCard : Claim7 := { stood := { row := metadataSignsRow, standIns := [], harness := (true, "13b21f4e90ebae50716ebc5e0d13f2301d62f44641a3a4e7c85d1e29fe36502a"), looks := false }, kinds := [], alts := [], laidByText := true, laidKinds := [.data, .pinned], laidTests := true, laidLooks := .later }
def MetadataSignsCardSaid : Prop := Claim7.holds Tryz.pinned (.plain (OpenSpec.ofChange metadataSignsSpec)) metadataSignsCard

/-- THE TIED CARD OF 'passkeylaw28.MetadataDecodes'. -/
def metadataDecodesCard : Claim7 := { stood := { row := metadataDecodesRow, standIns := [], harness := (true, "13b21f4e90ebae50716ebc5e0d13f2301d62f44641a3a4e7c85d1e29fe36502a"), looks := false }, kinds := [], alts := [], laidByText := true, laidKinds := [.data, .pinned], laidTests := true, laidLooks := .later }
def MetadataDecodesCardSaid : Prop := Claim7.holds Tryz.pinned (.plain (OpenSpec.ofChange metadataDecodesSpec)) metadataDecodesCard

/-- THE TIED CARD OF 'passkeylaw28.MetadataBack'. -/
def metadataBackCard : Claim7 := { stood := { row := metadataBackRow, standIns := [], harness := (true, "13b21f4e90ebae50716ebc5e0d13f2301d62f44641a3a4e7c85d1e29fe36502a"), looks := false }, kinds := [], alts := [], laidByText := true, laidKinds := [.data, .pinned], laidTests := true, laidLooks := .later }
def MetadataBackCardSaid : Prop := Claim7.holds Tryz.pinned (.plain (OpenSpec.ofChange metadataBackSpec)) metadataBackCard

/-- THE TIED CARD OF 'passkeylaw28.MetadataAccepts'. -/
def metadataAcceptsCard : Claim7 := { stood := { row := metadataAcceptsRow, standIns := [], harness := (true, "13b21f4e90ebae50716ebc5e0d13f2301d62f44641a3a4e7c85d1e29fe36502a"), looks := false }, kinds := [], alts := [], laidByText := true, laidKinds := [.data, .pinned], laidTests := true, laidLooks := .later }
def MetadataAcceptsCardSaid : Prop := Claim7.holds Tryz.pinned (.plain (OpenSpec.ofChange metadataAcceptsSpec)) metadataAcceptsCard

/-- THE SECOND FORM's CARD OF 'passkeylaw28.MetadataBodies'. -/
def metadataBodiesUptoCard : Claim7 := { stood := { row := metadataBodiesUptoRow, standIns := [], harness := (true, "13b21f4e90ebae50716ebc5e0d13f2301d62f44641a3a4e7c85d1e29fe36502a"), looks := false }, kinds := [], alts := [], laidByText := true, laidKinds := [.data, .pinned], laidTests := true, laidLooks := .later }
def MetadataBodiesUptoCardSaid : Prop := Claim7.holds Tryz.pinned (.plain (OpenSpec.upto metadataBodiesSpec)) metadataBodiesUptoCard

/-- THE SECOND FORM's CARD OF 'passkeylaw28.MetadataSigns'. -/
def metadataSignsUptoCard : Claim7 := { stood := { row := metadataSignsUptoRow, standIns := [], harness := (true, "13b21f4e90ebae50716ebc5e0d13f2301d62f44641a3a4e7c85d1e29fe36502a"), looks := false }, kinds := [], alts := [], laidByText := true, laidKinds := [.data, .pinned], laidTests := true, laidLooks := .later }
def MetadataSignsUptoCardSaid : Prop := Claim7.holds Tryz.pinned (.plain (OpenSpec.upto metadataSignsSpec)) metadataSignsUptoCard

/-- THE SECOND FORM's CARD OF 'passkeylaw28.MetadataDecodes'. -/
def metadataDecodesUptoCard : Claim7 := { stood := { row := metadataDecodesUptoRow, standIns := [], harness := (true, "13b21f4e90ebae50716ebc5e0d13f2301d62f44641a3a4e7c85d1e29fe36502a"), looks := false }, kinds := [], alts := [], laidByText := true, laidKinds := [.data, .pinned], laidTests := true, laidLooks := .later }
def MetadataDecodesUptoCardSaid : Prop := Claim7.holds Tryz.pinned (.plain (OpenSpec.upto metadataDecodesSpec)) metadataDecodesUptoCard

/-- THE SECOND FORM's CARD OF 'passkeylaw28.MetadataBack'. -/
def metadataBackUptoCard : Claim7 := { stood := { row := metadataBackUptoRow, standIns := [], harness := (true, "13b21f4e90ebae50716ebc5e0d13f2301d62f44641a3a4e7c85d1e29fe36502a"), looks := false }, kinds := [], alts := [], laidByText := true, laidKinds := [.data, .pinned], laidTests := true, laidLooks := .later }
def MetadataBackUptoCardSaid : Prop := Claim7.holds Tryz.pinned (.plain (OpenSpec.upto metadataBackSpec)) metadataBackUptoCard

/-- THE SECOND FORM's CARD OF 'passkeylaw28.MetadataAccepts'. -/
def metadataAcceptsUptoCard : Claim7 := { stood := { row := metadataAcceptsUptoRow, standIns := [], harness := (true, "13b21f4e90ebae50716ebc5e0d13f2301d62f44641a3a4e7c85d1e29fe36502a"), looks := false }, kinds := [], alts := [], laidByText := true, laidKinds := [.data, .pinned], laidTests := true, laidLooks := .later }
def MetadataAcceptsUptoCardSaid : Prop := Claim7.holds Tryz.pinned (.plain (OpenSpec.upto metadataAcceptsSpec)) metadataAcceptsUptoCard
end Rows
end Go.Proofs.YtpogefhpiaaliaaGreatDoor
