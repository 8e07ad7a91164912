/-
  DERIVED. GIVEN WITH THE SEED: THE CARDS: each row of YtdjihiphpgkfmaaDoorRows.lean that lists a variable, with what it lists TIED to the program's text (the seventh form; the later family's looks); each row that meets fmt, with fmt's text TOLD by the authors' own Lean function (tested against real Go, not proved from fmt's source: count such statements apart). THE CARD IS WHAT COUNTS. Prove the row's statement (the work); the ties are given (YtdjihiphpgkfmaaDoorTie.lean); close each card by the builder's one call (the guide's Derived/Test/ToyasCard.lean, 'card_holds'). Laid BY PROGRAM, IN A SANDBOX (cutbox-door.mjs). By AI agents, Wed Nov 11 2026. No macro, syntax, notation, axiom, sorry.
-/
import Derived.Test.YtdjihiphpgkfmaaDoorRows
import GoSem.ClaimSeven
namespace Go.Proofs.YtdjihiphpgkfmaaDoor
namespace Rows

/-- THE TIED CARD OF 'passkeylaw26.CertificateBack'. -/
def certificateBackCard : Claim7 := { stood := { row := certificateBackRow, standIns := [], harness := (true, "f0ad707fc57350098ecce2e5dd497133bcac50fcb69798cc7dacfbcf3c2d949f"), looks := false }, kinds := [], alts := [], laidByText := true, laidKinds := [.data, .pinned], laidTests := true, laidLooks := .later }
def CertificateBackCardSaid : Prop := Claim7.holds Tryd.pinned (.plain (OpenSpec.ofChange certificateBackSpec)) certificateBackCard

/-- THE SECOND FORM's CARD OF 'passkeylaw26.CertificateBack'. -/
def certificateBackUptoCard : Claim7 := { stood := { row := certificateBackUptoRow, standIns := [], harness := (true, "f0ad707fc57350098ecce2e5dd497133bcac50fcb69798cc7dacfbcf3c2d949f"), looks := false }, kinds := [], alts := [], laidByText := true, laidKinds := [.data, .pinned], laidTests := true, laidLooks := .later }
def CertificateBackUptoCardSaid : Prop := Claim7.holds Tryd.pinned (.plain (OpenSpec.upto certificateBackSpec)) certificateBackUptoCard
end Rows
end Go.Proofs.YtdjihiphpgkfmaaDoor
