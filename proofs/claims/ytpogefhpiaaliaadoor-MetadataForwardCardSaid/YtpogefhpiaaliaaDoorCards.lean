/-
  DERIVED. GIVEN WITH THE SEED: THE CARDS: each row of YtpogefhpiaaliaaDoorRows.lean that lists a variable, with what it lists TIED to the program's text (the seventh form; the later family's looks); each row that meets fmt, with fmt's text TOLD by the authors' own Lean function (tested against real Go, not proved from fmt's source: count such statements apart). THE CARD IS WHAT COUNTS. Prove the row's statement (the work); the ties are given (YtpogefhpiaaliaaDoorTie.lean); close each card by the builder's one call (the guide's Derived/Test/ToyasCard.lean, 'card_holds'). Laid BY PROGRAM, IN A SANDBOX (cutbox-door.mjs). By AI agents, Wed Nov 11 2026. No macro, syntax, notation, axiom, sorry.
-/
import Derived.Test.YtpogefhpiaaliaaDoorRows
import GoSem.ClaimSeven
namespace Go.Proofs.YtpogefhpiaaliaaDoor
namespace Rows

/-- THE TIED CARD OF 'passkeylaw28.MetadataForward'. -/
def metadataForwardCard : Claim7 := { stood := { row := metadataForwardRow, standIns := [], harness := (true, "81af13691fda85ac9ee679ea3f79454899e8ddfe36a8121c3291647906b2da82"), looks := false }, kinds := [], alts := [], laidByText := true, laidKinds := [.data, .pinned], laidTests := true, laidLooks := .later }
def MetadataForwardCardSaid : Prop := Claim7.holds Tryd.pinned (.plain (OpenSpec.ofChange metadataForwardSpec)) metadataForwardCard

/-- THE SECOND FORM's CARD OF 'passkeylaw28.MetadataForward'. -/
def metadataForwardUptoCard : Claim7 := { stood := { row := metadataForwardUptoRow, standIns := [], harness := (true, "81af13691fda85ac9ee679ea3f79454899e8ddfe36a8121c3291647906b2da82"), looks := false }, kinds := [], alts := [], laidByText := true, laidKinds := [.data, .pinned], laidTests := true, laidLooks := .later }
def MetadataForwardUptoCardSaid : Prop := Claim7.holds Tryd.pinned (.plain (OpenSpec.upto metadataForwardSpec)) metadataForwardUptoCard
end Rows
end Go.Proofs.YtpogefhpiaaliaaDoor
