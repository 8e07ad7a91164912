/-
  DERIVED. GIVEN WITH THE SEED: THE CARDS: each row of YtdjihiphpgkfmaaGreatDoorRows.lean that lists a variable, with what it lists TIED to the program's text (the seventh form; the later family's looks); each row that meets fmt, with fmt's text TOLD by the authors' own Lean function (tested against real Go, not proved from fmt's source: count such statements apart). THE CARD IS WHAT COUNTS. Prove the row's statement (the work); the ties are given (YtdjihiphpgkfmaaGreatDoorTie.lean); close each card by the builder's one call (the guide's Derived/Test/ToyasCard.lean, 'card_holds'). Laid BY PROGRAM, IN A SANDBOX (cutbox-door.mjs). By AI agents, Wed Nov 11 2026. No macro, syntax, notation, axiom, sorry.
-/
import Derived.Test.YtdjihiphpgkfmaaGreatDoorRows
import GoSem.ClaimSeven
namespace Go.Proofs.YtdjihiphpgkfmaaGreatDoor
namespace Rows

/-- THE TIED CARD OF 'passkeylaw26.CertificateBodies'. -/
def certificateBodiesCard : Claim7 := { stood := { row := certificateBodiesRow, standIns := [], harness := (true, "b827fb46859962e5d381788f8c026d44a1a0f1c74b4426f1be92f3dc55ad3feb"), looks := false }, kinds := [], alts := [], laidByText := true, laidKinds := [.data, .pinned], laidTests := true, laidLooks := .later }
def CertificateBodiesCardSaid : Prop := Claim7.holds Tryz.pinned (.plain (OpenSpec.ofChange certificateBodiesSpec)) certificateBodiesCard

/-- THE TIED CARD OF 'passkeylaw26.CertificateSigns'. -/
def certificateSignsCard : Claim7 := { stood := { row := certificateSignsRow, standIns := [], harness := (true, "b827fb46859962e5d381788f8c026d44a1a0f1c74b4426f1be92f3dc55ad3feb"), looks := false }, kinds := [], alts := [], laidByText := true, laidKinds := [.data, .pinned], laidTests := true, laidLooks := .later }
def CertificateSignsCardSaid : Prop := Claim7.holds Tryz.pinned (.plain (OpenSpec.ofChange certificateSignsSpec)) certificateSignsCard

/-- THE TIED CARD OF 'passkeylaw26.CertificateDecodes'. -/
def certificateDecodesCard : Claim7 := { stood := { row := certificateDecodesRow, standIns := [], harness := (true, "b827fb46859962e5d381788f8c026d44a1a0f1c74b4426f1be92f3dc55ad3feb"), looks := false }, kinds := [], alts := [], laidByText := true, laidKinds := [.data, .pinned], laidTests := true, laidLooks := .later }
def CertificateDecodesCardSaid : Prop := Claim7.holds Tryz.pinned (.plain (OpenSpec.ofChange certificateDecodesSpec)) certificateDecodesCard

/-- THE TIED CARD OF 'passkeylaw26.CertificatePaths'. -/
def certificatePathsCard : Claim7 := { stood := { row := certificatePathsRow, standIns := [], harness := (true, "b827fb46859962e5d381788f8c026d44a1a0f1c74b4426f1be92f3dc55ad3feb"), looks := false }, kinds := [], alts := [], laidByText := true, laidKinds := [.data, .pinned], laidTests := true, laidLooks := .later }
def CertificatePathsCardSaid : Prop := Claim7.holds Tryz.pinned (.plain (OpenSpec.ofChange certificatePathsSpec)) certificatePathsCard

/-- THE TIED CARD OF 'passkeylaw26.CertificateLinks'. -/
def certificateLinksCard : Claim7 := { stood := { row := certificateLinksRow, standIns := [], harness := (true, "b827fb46859962e5d381788f8c026d44a1a0f1c74b4426f1be92f3dc55ad3feb"), looks := false }, kinds := [], alts := [], laidByText := true, laidKinds := [.data, .pinned], laidTests := true, laidLooks := .later }
def CertificateLinksCardSaid : Prop := Claim7.holds Tryz.pinned (.plain (OpenSpec.ofChange certificateLinksSpec)) certificateLinksCard

/-- THE TIED CARD OF 'passkeylaw26.CertificateStrict'. -/
def certificateStrictCard : Claim7 := { stood := { row := certificateStrictRow, standIns := [], harness := (true, "b827fb46859962e5d381788f8c026d44a1a0f1c74b4426f1be92f3dc55ad3feb"), looks := false }, kinds := [], alts := [], laidByText := true, laidKinds := [.data, .pinned], laidTests := true, laidLooks := .later }
def CertificateStrictCardSaid : Prop := Claim7.holds Tryz.pinned (.plain (OpenSpec.ofChange certificateStrictSpec)) certificateStrictCard

/-- THE SECOND FORM's CARD OF 'passkeylaw26.CertificateBodies'. -/
def certificateBodiesUptoCard : Claim7 := { stood := { row := certificateBodiesUptoRow, standIns := [], harness := (true, "b827fb46859962e5d381788f8c026d44a1a0f1c74b4426f1be92f3dc55ad3feb"), looks := false }, kinds := [], alts := [], laidByText := true, laidKinds := [.data, .pinned], laidTests := true, laidLooks := .later }
def CertificateBodiesUptoCardSaid : Prop := Claim7.holds Tryz.pinned (.plain (OpenSpec.upto certificateBodiesSpec)) certificateBodiesUptoCard

/-- THE SECOND FORM's CARD OF 'passkeylaw26.CertificateSigns'. -/
def certificateSignsUptoCard : Claim7 := { stood := { row := certificateSignsUptoRow, standIns := [], harness := (true, "b827fb46859962e5d381788f8c026d44a1a0f1c74b4426f1be92f3dc55ad3feb"), looks := false }, kinds := [], alts := [], laidByText := true, laidKinds := [.data, .pinned], laidTests := true, laidLooks := .later }
def CertificateSignsUptoCardSaid : Prop := Claim7.holds Tryz.pinned (.plain (OpenSpec.upto certificateSignsSpec)) certificateSignsUptoCard

/-- THE SECOND FORM's CARD OF 'passkeylaw26.CertificateDecodes'. -/
def certificateDecodesUptoCard : Claim7 := { stood := { row := certificateDecodesUptoRow, standIns := [], harness := (true, "b827fb46859962e5d381788f8c026d44a1a0f1c74b4426f1be92f3dc55ad3feb"), looks := false }, kinds := [], alts := [], laidByText := true, laidKinds := [.data, .pinned], laidTests := true, laidLooks := .later }
def CertificateDecodesUptoCardSaid : Prop := Claim7.holds Tryz.pinned (.plain (OpenSpec.upto certificateDecodesSpec)) certificateDecodesUptoCard

/-- THE SECOND FORM's CARD OF 'passkeylaw26.CertificatePaths'. -/
def certificatePathsUptoCard : Claim7 := { stood := { row := certificatePathsUptoRow, standIns := [], harness := (true, "b827fb46859962e5d381788f8c026d44a1a0f1c74b4426f1be92f3dc55ad3feb"), looks := false }, kinds := [], alts := [], laidByText := true, laidKinds := [.data, .pinned], laidTests := true, laidLooks := .later }
def CertificatePathsUptoCardSaid : Prop := Claim7.holds Tryz.pinned (.plain (OpenSpec.upto certificatePathsSpec)) certificatePathsUptoCard

/-- THE SECOND FORM's CARD OF 'passkeylaw26.CertificateLinks'. -/
def certificateLinksUptoCard : Claim7 := { stood := { row := certificateLinksUptoRow, standIns := [], harness := (true, "b827fb46859962e5d381788f8c026d44a1a0f1c74b4426f1be92f3dc55ad3feb"), looks := false }, kinds := [], alts := [], laidByText := true, laidKinds := [.data, .pinned], laidTests := true, laidLooks := .later }
def CertificateLinksUptoCardSaid : Prop := Claim7.holds Tryz.pinned (.plain (OpenSpec.upto certificateLinksSpec)) certificateLinksUptoCard

/-- THE SECOND FORM's CARD OF 'passkeylaw26.CertificateStrict'. -/
def certificateStrictUptoCard : Claim7 := { stood := { row := certificateStrictUptoRow, standIns := [], harness := (true, "b827fb46859962e5d381788f8c026d44a1a0f1c74b4426f1be92f3dc55ad3feb"), looks := false }, kinds := [], alts := [], laidByText := true, laidKinds := [.data, .pinned], laidTests := true, laidLooks := .later }
def CertificateStrictUptoCardSaid : Prop := Claim7.holds Tryz.pinned (.plain (OpenSpec.upto certificateStrictSpec)) certificateStrictUptoCard
end Rows
end Go.Proofs.YtdjihiphpgkfmaaGreatDoor
